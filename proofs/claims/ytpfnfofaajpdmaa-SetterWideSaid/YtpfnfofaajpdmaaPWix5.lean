/- Written by a program of this session: functions of the given program as plain Lean functions, the walks that show it, and the row of each law, for every input that its statement speaks of. -/
import Derived.Test.YtpfnfofaajpdmaaPWix0
import Derived.Test.YtpfnfofaajpdmaaPWix2
import Derived.Test.YtpfnfofaajpdmaaPWix4
namespace Go.Proofs.Ytpfnfofaajpdmaa.PWi
open Go.RowKit Go.Proofs.YtpfnfofaajpdmaaW.PrintWords Go.Proofs.YtpfnfofaajpdmaaW.PrintLast Go.Proofs.YtpfnfofaajpdmaaW.PrintMore
attribute [local go_sem] max2_int min2_int max_two min_two max_three min_three max_four min_four   -- for this text's walks alone
set_option linter.unusedVariables false
set_option linter.unusedSimpArgs false

attribute [local go_sem high] eqA38
/-! ### item_right: function 26 -/
def item_right.j0 : Nat → Bool → Int → Int → Int → Int → Int → Int → Bool → Int → Int → Option (Bool)
 | 0, _, _, _, _, _, _, _, _, _, _ => none
 | k + 1, x3, x112000, x112001, x112002, x112003, x112004, x112005, x112006, x112007, x112008 => if x112000 = 0 then (if x3 = true then (if x112005 = 0 then (if x112006 = true then (some false) else (if x112007 ≥ 0 then (some (decide (x112008 ≥ 0))) else (some false))) else (some false)) else (some false)) else (if x112000 = 1 then ((glue_May.f k (([(⟨x112001, x112002, x112003, x112004⟩ : S38)] : List (S38)))).bind fun t116 => (if t116 = true then (if x112001 ≥ x112003 then (if x112005 = 0 then (if x112006 = true then (some false) else (if x112005 ≥ (-10000) then (if x112005 ≤ 10000 then (if x112007 = 0 then (some (x112008 == 0)) else (some false)) else (some false)) else (some false))) else (some false)) else (some false)) else (some false))) else (if x112000 = 2 then (if x3 = true then (if x112005 ≥ (-10000) then (if x112005 ≤ 10000 then (if x112007 = 0 then (some (x112008 == 0)) else (some false)) else (some false)) else (some false)) else (some false)) else (some false)))
def item_right.f (k : Nat) (a0_0 : Int) (a0_1 : Int) (a0_2 : Int) (a0_3 : Int) (a0_4 : Int) (a0_5 : Int) (a0_6 : Bool) (a0_7 : Int) (a0_8 : Int) : Option (Bool) := if (a0_2 == 0 && (a0_3 == 0 && (a0_4 == 0))) = true then (if a0_1 ≥ 0 then ((scaled_Fits.f a0_1).bind fun t112 => (item_right.j0 k t112 a0_0 a0_1 a0_2 a0_3 a0_4 a0_5 a0_6 a0_7 a0_8)) else (item_right.j0 k false a0_0 a0_1 a0_2 a0_3 a0_4 a0_5 a0_6 a0_7 a0_8)) else (item_right.j0 k false a0_0 a0_1 a0_2 a0_3 a0_4 a0_5 a0_6 a0_7 a0_8)
theorem item_right.mono_l : ∀ k, (∀ y0 y1 y2 y3 y4 y5 y6 y7 y8 y9, LeO (item_right.j0 k y0 y1 y2 y3 y4 y5 y6 y7 y8 y9) (item_right.j0 (k + 1) y0 y1 y2 y3 y4 y5 y6 y7 y8 y9))
 | 0 => fun _ _ _ _ _ _ _ _ _ _ r h => by simp [item_right.j0] at h
 | k + 1 => by
  have ih0 := item_right.mono_l k
  ·intro y0 y1 y2 y3 y4 y5 y6 y7 y8 y9
   unfold item_right.j0
   repeat' first | (with_reducible first | exact ih0 _ _ _ _ _ _ _ _ _ _ | exact glue_May.mono _ _ | exact LeO.refl _ | exact LeO.none _ | refine LeO.ite ?_ ?_ | refine LeO.bind ?_ (fun _ => ?_)) | exact LeO.none _ | refine LeO.ite ?_ ?_ | refine LeO.bind ?_ (fun _ => ?_)
theorem item_right.mono : ∀ a0 a1 a2 a3 a4 a5 a6 a7 a8 k, LeO (item_right.f k a0 a1 a2 a3 a4 a5 a6 a7 a8) (item_right.f (k + 1) a0 a1 a2 a3 a4 a5 a6 a7 a8) := by
 intro a0 a1 a2 a3 a4 a5 a6 a7 a8 k
 have ih0 := item_right.mono_l k
 unfold item_right.f
 repeat' first
   | (with_reducible exact ih0 _ _ _ _ _ _ _ _ _ _)
   | (with_reducible exact glue_May.mono _ _)
   | (with_reducible exact LeO.refl _)
   | (with_reducible exact LeO.none _)
   | (with_reducible refine LeO.ite ?_ ?_)
   | (with_reducible refine LeO.bind ?_ (fun _ => ?_))
   | exact ih0 _ _ _ _ _ _ _ _ _ _
   | exact glue_May.mono _ _
   | exact LeO.none _
   | refine LeO.ite ?_ ?_
   | refine LeO.bind ?_ (fun _ => ?_)
set_option maxHeartbeats 8000000 in
set_option maxRecDepth 100000 in
theorem item_right.calls (k : Nat) (a0_0 : Int) (a0_1 : Int) (a0_2 : Int) (a0_3 : Int) (a0_4 : Int) (a0_5 : Int) (a0_6 : Bool) (a0_7 : Int) (a0_8 : Int) (r : Bool) (w : World) (h : item_right.f k a0_0 a0_1 a0_2 a0_3 a0_4 a0_5 a0_6 a0_7 a0_8 = some r) :
  Calls Try.prog 26 #[.agg #[.int .i64 a0_0, .int .i64 a0_1, .int .i64 a0_2, .int .i64 a0_3, .int .i64 a0_4, .int .i64 a0_5, .bool a0_6, .int .i64 a0_7, .int .i64 a0_8]] w fun e w' => e = .returned (.bool r) ∧ Below w.heap.size w w' := by
 have hu40 := Try.underlying40
 have hu38 := Try.underlying38
 have HB := a_ (Below.refl w.heap.size w)
 have H : (if (a0_2 == 0 && (a0_3 == 0 && (a0_4 == 0))) = true then (if a0_1 ≥ 0 then ((scaled_Fits.f a0_1).bind fun t112 => (item_right.j0 k t112 a0_0 a0_1 a0_2 a0_3 a0_4 a0_5 a0_6 a0_7 a0_8)) else (item_right.j0 k false a0_0 a0_1 a0_2 a0_3 a0_4 a0_5 a0_6 a0_7 a0_8)) else (item_right.j0 k false a0_0 a0_1 a0_2 a0_3 a0_4 a0_5 a0_6 a0_7 a0_8)) = some r := h
 clear h
 have HC2 := a_ H
 clear H
 go_enter Try.func26, Try.ntmps26
 go_upto_region 1 with (first | ((with_reducible refine gate_dst (N := 1) rfl ?_); refine box_event ?hg (N := 1) ?hd (cs := #[.int .i64 a0_0, .int .i64 a0_1, .int .i64 a0_2, .int .i64 a0_3, .int .i64 a0_4, .int .i64 a0_5, .bool a0_6, .int .i64 a0_7, .int .i64 a0_8]) (t := 40) ?hr ?_; (case hd => rfl); (case hg => rfl); (case hr => first | (go_simp; done) | (go_simp; rfl)); intro gb111 hg w3 hbox hb; have n0_ := a_ (bs_ HB.out hb); have n1_ := a_ (hbox); have n2_ := a_ ((by rw [hg]; exact (below_size (bv_ HB.out)) : w.heap.size ≤ gb111)); have n3_ := a_ ((by rw [hg]; exact (below_size (bv_ HB.out)) : w.heap.size ≤ gb111)); clear HB; have HB := n0_; have BK111 := n1_; have GW111 := n2_; have GE111 := n3_; clear n0_ n1_ n2_ n3_; clear hb hbox hg))
 (try simp only [Act.put, List.setIfInBounds_toArray, List.set_cons_zero, List.set_cons_succ])
 go_cut [3] (fun v3 wc => ∃ (kq : Nat) (x3_1 : Bool), v3 = .bool x3_1 ∧ Aside0 (item_right.j0 kq x3_1 a0_0 a0_1 a0_2 a0_3 a0_4 a0_5 a0_6 a0_7 a0_8 = some r) ∧ Aside0 (kq ≤ k) ∧ Aside0 (wc.heap[gb111]? = some (.cells #[.int .i64 a0_0, .int .i64 a0_1, .int .i64 a0_2, .int .i64 a0_3, .int .i64 a0_4, .int .i64 a0_5, .bool a0_6, .int .i64 a0_7, .int .i64 a0_8] 40 (0, 0))) ∧ Aside0 (Below w.heap.size w wc))
 case first =>
  have H := HC2.out
  clear HC2
  by_cases c4 : (a0_2 == 0 && (a0_3 == 0 && (a0_4 == 0))) = true
  ·rw [if_pos c4] at H
   have c4b0 : (a0_2 == 0 && (a0_3 == 0 && (a0_4 == 0))) = true := c4
   (try (have c4b1 : decide (a0_2 = 0 && (a0_3 == 0 && (a0_4 == 0))) = true := by simpa using c4))
   (try (have c4b2 : (a0_2 == 0 && (a0_3 == 0 && (a0_4 == 0))) = true := by simpa using c4))
   clear c4
   (first | rw [c4b0] | (simp only [i64_w, i32_w]; rw [c4b0]) | skip)
   by_cases c5 : a0_1 ≥ 0
   ·rw [if_pos c5] at H
    have c5b0 : decide (0 ≤ a0_1) = true := decide_eq_true c5
    clear c5
    replace H := Option.bind_eq_some_iff.mp H
    obtain ⟨t112, A60, H⟩ := H
    replace H : (item_right.j0 k t112 a0_0 a0_1 a0_2 a0_3 a0_4 a0_5 a0_6 a0_7 a0_8) = some r := H
    have A6 := a_ A60
    clear A60
    have H' := a_ H
    clear H
    obtain ⟨⟨Z7_0, Y7_0⟩, ⟨Z7_1, Y7_1⟩, ⟨Z7_2, Y7_2⟩, ⟨Z7_3, Y7_3⟩, ⟨Z7_4, Y7_4⟩, ⟨Z7_5, Y7_5⟩, ⟨Z7_6, Y7_6⟩, ⟨Z7_7, Y7_7⟩, Z7_8, Y7_8⟩ := cs9_ BK111.out
    go_wp2_with (first | (go_at_call 41; (with_reducible refine (scaled_Fits.calls a0_1 t112 _ A6.out).mono ?_); rintro e w' ⟨rfl, ⟨nd, rfl⟩⟩))
    go_meet
    case rel => exact ⟨_, (t112), (by first | rfl | (simp; done) | (simp [*]; done)), H', ⟨by first | omega | exact Nat.le_refl _⟩, ⟨kv_ BK111.out⟩, ⟨bS1_ HB.out GE111.out⟩⟩
   ·rw [if_neg c5] at H
    have c5b0 : decide (0 ≤ a0_1) = false := decide_eq_false c5
    clear c5
    have H' := a_ H
    clear H
    obtain ⟨⟨Z8_0, Y8_0⟩, ⟨Z8_1, Y8_1⟩, ⟨Z8_2, Y8_2⟩, ⟨Z8_3, Y8_3⟩, ⟨Z8_4, Y8_4⟩, ⟨Z8_5, Y8_5⟩, ⟨Z8_6, Y8_6⟩, ⟨Z8_7, Y8_7⟩, Z8_8, Y8_8⟩ := cs9_ BK111.out
    go_wp2
    go_meet
    case rel => exact ⟨_, (false), (by first | rfl | (simp; done) | (simp [*]; done)), H', ⟨by first | omega | exact Nat.le_refl _⟩, ⟨kv_ BK111.out⟩, ⟨bS1_ HB.out GE111.out⟩⟩
  ·rw [if_neg c4] at H
   have c4b0 : (a0_2 == 0 && (a0_3 == 0 && (a0_4 == 0))) = false := by simpa using c4
   (try (have c4b1 : decide (a0_2 = 0 && (a0_3 == 0 && (a0_4 == 0))) = false := by simpa using c4))
   (try (have c4b2 : (a0_2 == 0 && (a0_3 == 0 && (a0_4 == 0))) = false := by simpa using c4))
   (try (have c4b3 : ¬ (a0_2 = 0 && (a0_3 == 0 && (a0_4 == 0))) := by simpa using c4))
   clear c4
   (first | rw [c4b0] | (simp only [i64_w, i32_w]; rw [c4b0]) | skip)
   have H' := a_ H
   clear H
   obtain ⟨⟨Z9_0, Y9_0⟩, ⟨Z9_1, Y9_1⟩, ⟨Z9_2, Y9_2⟩, ⟨Z9_3, Y9_3⟩, ⟨Z9_4, Y9_4⟩, ⟨Z9_5, Y9_5⟩, ⟨Z9_6, Y9_6⟩, ⟨Z9_7, Y9_7⟩, Z9_8, Y9_8⟩ := cs9_ BK111.out
   go_wp2
   go_meet
   case rel => exact ⟨_, (false), (by first | rfl | (simp; done) | (simp [*]; done)), H', ⟨by first | omega | exact Nat.le_refl _⟩, ⟨kv_ BK111.out⟩, ⟨bS1_ HB.out GE111.out⟩⟩
 case rest =>
  clear HC2
  try clear c2
  try clear p2
  try clear c4
  try clear c4b0
  try clear c4b1
  try clear c4b2
  try clear c5
  try clear c5b0
  try clear Z7_0
  try clear Z7_1
  try clear Z7_2
  try clear Z7_3
  try clear Z7_4
  try clear Z7_5
  try clear Z7_6
  try clear Z7_7
  try clear Z7_8
  try clear Z8_0
  try clear Z8_1
  try clear Z8_2
  try clear Z8_3
  try clear Z8_4
  try clear Z8_5
  try clear Z8_6
  try clear Z8_7
  try clear Z8_8
  try clear Z9_0
  try clear Z9_1
  try clear Z9_2
  try clear Z9_3
  try clear Z9_4
  try clear Z9_5
  try clear Z9_6
  try clear Z9_7
  try clear Z9_8
  try clear Y7_0
  try clear Y7_1
  try clear Y7_2
  try clear Y7_3
  try clear Y7_4
  try clear Y7_5
  try clear Y7_6
  try clear Y7_7
  try clear Y7_8
  try clear Y8_0
  try clear Y8_1
  try clear Y8_2
  try clear Y8_3
  try clear Y8_4
  try clear Y8_5
  try clear Y8_6
  try clear Y8_7
  try clear Y8_8
  try clear Y9_0
  try clear Y9_1
  try clear Y9_2
  try clear Y9_3
  try clear Y9_4
  try clear Y9_5
  try clear Y9_6
  try clear Y9_7
  try clear Y9_8
  obtain ⟨kq, x3_1, rfl, HA, HJ1, BK111, HB⟩ := hcut
  cases kq with
  | zero => exact absurd HA.out (by simp [item_right.j0])
  | succ kj1 =>
   have H := HA.out
   clear HA
   simp only [item_right.j0] at H
   by_cases c10 : a0_0 = 0
   ·rw [if_pos c10] at H
    have c10b0 : (a0_0 == 0) = true := beq_iff_eq.mpr c10
    have c10b1 : (a0_0 != 0) = false := bne_eq_false_iff_eq.mpr c10
    clear c10
    by_cases c11 : x3_1 = true
    ·subst c11
     have H1 : (if a0_5 = 0 then (if a0_6 = true then (some false) else (if a0_7 ≥ 0 then (some (decide (a0_8 ≥ 0))) else (some false))) else (some false)) = some r := by rw [if_pos rfl] at H; exact H
     clear H
     have H := H1
     clear H1
     by_cases c12 : a0_5 = 0
     ·rw [if_pos c12] at H
      have c12b0 : (a0_5 == 0) = true := beq_iff_eq.mpr c12
      have c12b1 : (a0_5 != 0) = false := bne_eq_false_iff_eq.mpr c12
      clear c12
      by_cases c13 : a0_6 = true
      ·subst c13
       have H1 : (some false) = some r := by rw [if_pos rfl] at H; exact H
       clear H
       have H := H1
       clear H1
       obtain rfl := Option.some.inj H
       obtain ⟨⟨Z14_0, Y14_0⟩, ⟨Z14_1, Y14_1⟩, ⟨Z14_2, Y14_2⟩, ⟨Z14_3, Y14_3⟩, ⟨Z14_4, Y14_4⟩, ⟨Z14_5, Y14_5⟩, ⟨Z14_6, Y14_6⟩, ⟨Z14_7, Y14_7⟩, Z14_8, Y14_8⟩ := cs9_ BK111.out
       go_wp2
       go_ret
       exact ⟨by first | rfl | (simp [errW_none, errW_some] <;> rfl) | (simp [*, errW_none, errW_some] <;> rfl), bS1_ HB.out GE111.out⟩
      ·replace c13 := Bool.eq_false_iff.mpr c13
       subst c13
       have H1 : (if a0_7 ≥ 0 then (some (decide (a0_8 ≥ 0))) else (some false)) = some r := by rw [if_neg (show ¬ (false = true) by decide)] at H; exact H
       clear H
       have H := H1
       clear H1
       by_cases c15 : a0_7 ≥ 0
       ·rw [if_pos c15] at H
        have c15b0 : decide (0 ≤ a0_7) = true := decide_eq_true c15
        clear c15
        obtain rfl := Option.some.inj H
        obtain ⟨⟨Z16_0, Y16_0⟩, ⟨Z16_1, Y16_1⟩, ⟨Z16_2, Y16_2⟩, ⟨Z16_3, Y16_3⟩, ⟨Z16_4, Y16_4⟩, ⟨Z16_5, Y16_5⟩, ⟨Z16_6, Y16_6⟩, ⟨Z16_7, Y16_7⟩, Z16_8, Y16_8⟩ := cs9_ BK111.out
        go_wp2
        go_ret
        exact ⟨by first | rfl | (simp [errW_none, errW_some] <;> rfl) | (simp [*, errW_none, errW_some] <;> rfl), bS1_ HB.out GE111.out⟩
       ·rw [if_neg c15] at H
        have c15b0 : decide (0 ≤ a0_7) = false := decide_eq_false c15
        clear c15
        obtain rfl := Option.some.inj H
        obtain ⟨⟨Z17_0, Y17_0⟩, ⟨Z17_1, Y17_1⟩, ⟨Z17_2, Y17_2⟩, ⟨Z17_3, Y17_3⟩, ⟨Z17_4, Y17_4⟩, ⟨Z17_5, Y17_5⟩, ⟨Z17_6, Y17_6⟩, ⟨Z17_7, Y17_7⟩, Z17_8, Y17_8⟩ := cs9_ BK111.out
        go_wp2
        go_ret
        exact ⟨by first | rfl | (simp [errW_none, errW_some] <;> rfl) | (simp [*, errW_none, errW_some] <;> rfl), bS1_ HB.out GE111.out⟩
     ·rw [if_neg c12] at H
      have c12b0 : (a0_5 == 0) = false := beq_eq_false_iff_ne.mpr c12
      have c12b1 : (a0_5 != 0) = true := bne_iff_ne.mpr c12
      obtain rfl := Option.some.inj H
      obtain ⟨⟨Z18_0, Y18_0⟩, ⟨Z18_1, Y18_1⟩, ⟨Z18_2, Y18_2⟩, ⟨Z18_3, Y18_3⟩, ⟨Z18_4, Y18_4⟩, ⟨Z18_5, Y18_5⟩, ⟨Z18_6, Y18_6⟩, ⟨Z18_7, Y18_7⟩, Z18_8, Y18_8⟩ := cs9_ BK111.out
      go_wp2
      go_ret
      exact ⟨by first | rfl | (simp [errW_none, errW_some] <;> rfl) | (simp [*, errW_none, errW_some] <;> rfl), bS1_ HB.out GE111.out⟩
    ·replace c11 := Bool.eq_false_iff.mpr c11
     subst c11
     have H1 : (some false) = some r := by rw [if_neg (show ¬ (false = true) by decide)] at H; exact H
     clear H
     have H := H1
     clear H1
     obtain rfl := Option.some.inj H
     obtain ⟨⟨Z19_0, Y19_0⟩, ⟨Z19_1, Y19_1⟩, ⟨Z19_2, Y19_2⟩, ⟨Z19_3, Y19_3⟩, ⟨Z19_4, Y19_4⟩, ⟨Z19_5, Y19_5⟩, ⟨Z19_6, Y19_6⟩, ⟨Z19_7, Y19_7⟩, Z19_8, Y19_8⟩ := cs9_ BK111.out
     go_wp2
     go_ret
     exact ⟨by first | rfl | (simp [errW_none, errW_some] <;> rfl) | (simp [*, errW_none, errW_some] <;> rfl), bS1_ HB.out GE111.out⟩
   ·rw [if_neg c10] at H
    have c10b0 : (a0_0 == 0) = false := beq_eq_false_iff_ne.mpr c10
    have c10b1 : (a0_0 != 0) = true := bne_iff_ne.mpr c10
    by_cases c20 : a0_0 = 1
    ·rw [if_pos c20] at H
     have c20b0 : (a0_0 == 1) = true := beq_iff_eq.mpr c20
     have c20b1 : (a0_0 != 1) = false := bne_eq_false_iff_eq.mpr c20
     clear c20
     obtain ⟨y113, hy113⟩ : ∃ y_ : List (S38), y_ = (([(⟨a0_1, a0_2, a0_3, a0_4⟩ : S38)] : List (S38))) := ⟨_, rfl⟩
     replace H : ((glue_May.f kj1 y113).bind fun t116 => (if t116 = true then (if a0_1 ≥ a0_3 then (if a0_5 = 0 then (if a0_6 = true then (some false) else (if a0_5 ≥ (-10000) then (if a0_5 ≤ 10000 then (if a0_7 = 0 then (some (a0_8 == 0)) else (some false)) else (some false)) else (some false))) else (some false)) else (some false)) else (some false))) = some r := by first | (rw [hy113]; with_reducible exact H) | (have H2_ := (Option.bind_some _ _).symm.trans H; rw [hy113]; with_reducible exact H2_) | (have H2_ := (Option.bind_some _ _).symm.trans H; with_reducible exact H2_) | with_reducible exact H | (rw [hy113]; exact H) | exact H
     have Ny113 := a_ hy113
     clear hy113
     replace H := Option.bind_eq_some_iff.mp H
     obtain ⟨t116, A210, H⟩ := H
     replace H : (if t116 = true then (if a0_1 ≥ a0_3 then (if a0_5 = 0 then (if a0_6 = true then (some false) else (if a0_5 ≥ (-10000) then (if a0_5 ≤ 10000 then (if a0_7 = 0 then (some (a0_8 == 0)) else (some false)) else (some false)) else (some false))) else (some false)) else (some false)) else (some false)) = some r := H
     have A21 := a_ A210
     clear A210
     by_cases c22 : t116 = true
     ·subst c22
      have H1 : (if a0_1 ≥ a0_3 then (if a0_5 = 0 then (if a0_6 = true then (some false) else (if a0_5 ≥ (-10000) then (if a0_5 ≤ 10000 then (if a0_7 = 0 then (some (a0_8 == 0)) else (some false)) else (some false)) else (some false))) else (some false)) else (some false)) = some r := by rw [if_pos rfl] at H; exact H
      clear H
      have H := H1
      clear H1
      by_cases c23 : a0_1 ≥ a0_3
      ·rw [if_pos c23] at H
       have c23b0 : decide (a0_3 ≤ a0_1) = true := decide_eq_true c23
       clear c23
       by_cases c24 : a0_5 = 0
       ·rw [if_pos c24] at H
        have c24b0 : (a0_5 == 0) = true := beq_iff_eq.mpr c24
        have c24b1 : (a0_5 != 0) = false := bne_eq_false_iff_eq.mpr c24
        clear c24
        by_cases c25 : a0_6 = true
        ·subst c25
         have H1 : (some false) = some r := by rw [if_pos rfl] at H; exact H
         clear H
         have H := H1
         clear H1
         obtain rfl := Option.some.inj H
         obtain ⟨⟨Z26_0, Y26_0⟩, ⟨Z26_1, Y26_1⟩, ⟨Z26_2, Y26_2⟩, ⟨Z26_3, Y26_3⟩, ⟨Z26_4, Y26_4⟩, ⟨Z26_5, Y26_5⟩, ⟨Z26_6, Y26_6⟩, ⟨Z26_7, Y26_7⟩, Z26_8, Y26_8⟩ := cs9_ BK111.out
         go_wp2_with (first | ((with_reducible refine gate_dst (N := 54) rfl ?_); refine Kd.R_lit k38 _ 38 ?hg (N := 54) ?hd (xs := ([(⟨a0_1, a0_2, a0_3, a0_4⟩ : S38)] : List (S38))) (inner := [.int .i64 a0_1, .int .i64 a0_2, .int .i64 a0_3, .int .i64 a0_4]) (ok := fun _ => True) (okp := fun _ => True) ?hr ?hp (fun _ hk => hk) trivial (Below.refl _ _) (Nat.le_refl _) (by simp) ?_; (case hd => rfl); (case hg => rfl); (case hr => first | (go_simp; done) | (go_simp; rfl)); (case hp => exact (Reps.c4 (show Kd.M k38 _ _ _ (⟨a0_1, a0_2, a0_3, a0_4⟩ : S38) [.int .i64 a0_1, .int .i64 a0_2, .int .i64 a0_3, .int .i64 a0_4] from (k38_mkM _ _ _ (⟨a0_1, a0_2, a0_3, a0_4⟩ : S38) )) (Reps.none _ _))); intro v114 w27 ho28 hb hg_ hnew_; clear hg_ hnew_; (first | rw [← Ny113.out] at ho28 | (simp only [Int.reduceToNat] at ho28; rw [← Ny113.out] at ho28)); have n0_ := a_ (Kd.R_lower ho28 (below_size (bS1_ HB.out GE111.out))); have n1_ := a_ (kb_ BK111.out hb); have n2_ := a_ (below_step (bS1_ HB.out GE111.out) hb); clear BK111; clear HB; have HO115 := n0_; have BK111 := n1_; have HB := n2_; clear n0_ n1_ n2_; clear hb ho28; obtain ⟨Ao29, co29, eo29⟩ := Kd.R_slice HO115.out; subst eo29) | ((with_reducible refine gate_callee (f := 27) rfl ?_); refine gl_ (some 55) Try.func27 (by kernel_rfl) #[.slice Ao29 y113.length co29] ?_; (with_reducible refine (glue_May.calls kj1 _ _ y113 true _ ?side1 ?side2 A21.out).mono ?_); (case side1 => exact cr_ (Kd.R_reads' HO115.out).2.2); (case side2 => exact (Kd.R_reads' HO115.out).2.1); rintro e w30 ⟨rfl, hb⟩; refine ⟨_, rfl, ?_⟩; have n0_ := a_ (Kd.R_below (rv_ HO115.out) hb); have n1_ := a_ (kb_ BK111.out hb); have n2_ := a_ (below_step (bS1_ HB.out GE111.out) hb); clear HO115; clear BK111; clear HB; have HO115 := n0_; have BK111 := n1_; have HB := n2_; clear n0_ n1_ n2_; (try clear hb); (try clear hb2); (try clear hk); (try clear hi); obtain ⟨⟨Z31_0, Y31_0⟩, ⟨Z31_1, Y31_1⟩, ⟨Z31_2, Y31_2⟩, ⟨Z31_3, Y31_3⟩, ⟨Z31_4, Y31_4⟩, ⟨Z31_5, Y31_5⟩, ⟨Z31_6, Y31_6⟩, ⟨Z31_7, Y31_7⟩, Z31_8, Y31_8⟩ := cs9_ BK111.out))
         go_ret
         exact ⟨by first | rfl | (simp [errW_none, errW_some] <;> rfl) | (simp [*, errW_none, errW_some] <;> rfl), bS1_ HB.out GE111.out⟩
        ·replace c25 := Bool.eq_false_iff.mpr c25
         subst c25
         have H1 : (if a0_5 ≥ (-10000) then (if a0_5 ≤ 10000 then (if a0_7 = 0 then (some (a0_8 == 0)) else (some false)) else (some false)) else (some false)) = some r := by rw [if_neg (show ¬ (false = true) by decide)] at H; exact H
         clear H
         have H := H1
         clear H1
         by_cases c32 : a0_5 ≥ (-10000)
         ·rw [if_pos c32] at H
          have c32b0 : decide ((-10000) ≤ a0_5) = true := decide_eq_true c32
          clear c32
          by_cases c33 : a0_5 ≤ 10000
          ·rw [if_pos c33] at H
           have c33b0 : decide (a0_5 ≤ 10000) = true := decide_eq_true c33
           clear c33
           by_cases c34 : a0_7 = 0
           ·rw [if_pos c34] at H
            have c34b0 : (a0_7 == 0) = true := beq_iff_eq.mpr c34
            have c34b1 : (a0_7 != 0) = false := bne_eq_false_iff_eq.mpr c34
            clear c34
            obtain rfl := Option.some.inj H
            obtain ⟨⟨Z35_0, Y35_0⟩, ⟨Z35_1, Y35_1⟩, ⟨Z35_2, Y35_2⟩, ⟨Z35_3, Y35_3⟩, ⟨Z35_4, Y35_4⟩, ⟨Z35_5, Y35_5⟩, ⟨Z35_6, Y35_6⟩, ⟨Z35_7, Y35_7⟩, Z35_8, Y35_8⟩ := cs9_ BK111.out
            go_wp2_with (first | ((with_reducible refine gate_dst (N := 54) rfl ?_); refine Kd.R_lit k38 _ 38 ?hg (N := 54) ?hd (xs := ([(⟨a0_1, a0_2, a0_3, a0_4⟩ : S38)] : List (S38))) (inner := [.int .i64 a0_1, .int .i64 a0_2, .int .i64 a0_3, .int .i64 a0_4]) (ok := fun _ => True) (okp := fun _ => True) ?hr ?hp (fun _ hk => hk) trivial (Below.refl _ _) (Nat.le_refl _) (by simp) ?_; (case hd => rfl); (case hg => rfl); (case hr => first | (go_simp; done) | (go_simp; rfl)); (case hp => exact (Reps.c4 (show Kd.M k38 _ _ _ (⟨a0_1, a0_2, a0_3, a0_4⟩ : S38) [.int .i64 a0_1, .int .i64 a0_2, .int .i64 a0_3, .int .i64 a0_4] from (k38_mkM _ _ _ (⟨a0_1, a0_2, a0_3, a0_4⟩ : S38) )) (Reps.none _ _))); intro v114 w36 ho37 hb hg_ hnew_; clear hg_ hnew_; (first | rw [← Ny113.out] at ho37 | (simp only [Int.reduceToNat] at ho37; rw [← Ny113.out] at ho37)); have n0_ := a_ (Kd.R_lower ho37 (below_size (bS1_ HB.out GE111.out))); have n1_ := a_ (kb_ BK111.out hb); have n2_ := a_ (below_step (bS1_ HB.out GE111.out) hb); clear BK111; clear HB; have HO115 := n0_; have BK111 := n1_; have HB := n2_; clear n0_ n1_ n2_; clear hb ho37; obtain ⟨Ao38, co38, eo38⟩ := Kd.R_slice HO115.out; subst eo38) | ((with_reducible refine gate_callee (f := 27) rfl ?_); refine gl_ (some 55) Try.func27 (by kernel_rfl) #[.slice Ao38 y113.length co38] ?_; (with_reducible refine (glue_May.calls kj1 _ _ y113 true _ ?side1 ?side2 A21.out).mono ?_); (case side1 => exact cr_ (Kd.R_reads' HO115.out).2.2); (case side2 => exact (Kd.R_reads' HO115.out).2.1); rintro e w39 ⟨rfl, hb⟩; refine ⟨_, rfl, ?_⟩; have n0_ := a_ (Kd.R_below (rv_ HO115.out) hb); have n1_ := a_ (kb_ BK111.out hb); have n2_ := a_ (below_step (bS1_ HB.out GE111.out) hb); clear HO115; clear BK111; clear HB; have HO115 := n0_; have BK111 := n1_; have HB := n2_; clear n0_ n1_ n2_; (try clear hb); (try clear hb2); (try clear hk); (try clear hi); obtain ⟨⟨Z40_0, Y40_0⟩, ⟨Z40_1, Y40_1⟩, ⟨Z40_2, Y40_2⟩, ⟨Z40_3, Y40_3⟩, ⟨Z40_4, Y40_4⟩, ⟨Z40_5, Y40_5⟩, ⟨Z40_6, Y40_6⟩, ⟨Z40_7, Y40_7⟩, Z40_8, Y40_8⟩ := cs9_ BK111.out))
            go_ret
            exact ⟨by first | rfl | (simp [errW_none, errW_some] <;> rfl) | (simp [*, errW_none, errW_some] <;> rfl), bS1_ HB.out GE111.out⟩
           ·rw [if_neg c34] at H
            have c34b0 : (a0_7 == 0) = false := beq_eq_false_iff_ne.mpr c34
            have c34b1 : (a0_7 != 0) = true := bne_iff_ne.mpr c34
            obtain rfl := Option.some.inj H
            obtain ⟨⟨Z41_0, Y41_0⟩, ⟨Z41_1, Y41_1⟩, ⟨Z41_2, Y41_2⟩, ⟨Z41_3, Y41_3⟩, ⟨Z41_4, Y41_4⟩, ⟨Z41_5, Y41_5⟩, ⟨Z41_6, Y41_6⟩, ⟨Z41_7, Y41_7⟩, Z41_8, Y41_8⟩ := cs9_ BK111.out
            go_wp2_with (first | ((with_reducible refine gate_dst (N := 54) rfl ?_); refine Kd.R_lit k38 _ 38 ?hg (N := 54) ?hd (xs := ([(⟨a0_1, a0_2, a0_3, a0_4⟩ : S38)] : List (S38))) (inner := [.int .i64 a0_1, .int .i64 a0_2, .int .i64 a0_3, .int .i64 a0_4]) (ok := fun _ => True) (okp := fun _ => True) ?hr ?hp (fun _ hk => hk) trivial (Below.refl _ _) (Nat.le_refl _) (by simp) ?_; (case hd => rfl); (case hg => rfl); (case hr => first | (go_simp; done) | (go_simp; rfl)); (case hp => exact (Reps.c4 (show Kd.M k38 _ _ _ (⟨a0_1, a0_2, a0_3, a0_4⟩ : S38) [.int .i64 a0_1, .int .i64 a0_2, .int .i64 a0_3, .int .i64 a0_4] from (k38_mkM _ _ _ (⟨a0_1, a0_2, a0_3, a0_4⟩ : S38) )) (Reps.none _ _))); intro v114 w42 ho43 hb hg_ hnew_; clear hg_ hnew_; (first | rw [← Ny113.out] at ho43 | (simp only [Int.reduceToNat] at ho43; rw [← Ny113.out] at ho43)); have n0_ := a_ (Kd.R_lower ho43 (below_size (bS1_ HB.out GE111.out))); have n1_ := a_ (kb_ BK111.out hb); have n2_ := a_ (below_step (bS1_ HB.out GE111.out) hb); clear BK111; clear HB; have HO115 := n0_; have BK111 := n1_; have HB := n2_; clear n0_ n1_ n2_; clear hb ho43; obtain ⟨Ao44, co44, eo44⟩ := Kd.R_slice HO115.out; subst eo44) | ((with_reducible refine gate_callee (f := 27) rfl ?_); refine gl_ (some 55) Try.func27 (by kernel_rfl) #[.slice Ao44 y113.length co44] ?_; (with_reducible refine (glue_May.calls kj1 _ _ y113 true _ ?side1 ?side2 A21.out).mono ?_); (case side1 => exact cr_ (Kd.R_reads' HO115.out).2.2); (case side2 => exact (Kd.R_reads' HO115.out).2.1); rintro e w45 ⟨rfl, hb⟩; refine ⟨_, rfl, ?_⟩; have n0_ := a_ (Kd.R_below (rv_ HO115.out) hb); have n1_ := a_ (kb_ BK111.out hb); have n2_ := a_ (below_step (bS1_ HB.out GE111.out) hb); clear HO115; clear BK111; clear HB; have HO115 := n0_; have BK111 := n1_; have HB := n2_; clear n0_ n1_ n2_; (try clear hb); (try clear hb2); (try clear hk); (try clear hi); obtain ⟨⟨Z46_0, Y46_0⟩, ⟨Z46_1, Y46_1⟩, ⟨Z46_2, Y46_2⟩, ⟨Z46_3, Y46_3⟩, ⟨Z46_4, Y46_4⟩, ⟨Z46_5, Y46_5⟩, ⟨Z46_6, Y46_6⟩, ⟨Z46_7, Y46_7⟩, Z46_8, Y46_8⟩ := cs9_ BK111.out))
            go_ret
            exact ⟨by first | rfl | (simp [errW_none, errW_some] <;> rfl) | (simp [*, errW_none, errW_some] <;> rfl), bS1_ HB.out GE111.out⟩
          ·rw [if_neg c33] at H
           have c33b0 : decide (a0_5 ≤ 10000) = false := decide_eq_false c33
           clear c33
           obtain rfl := Option.some.inj H
           obtain ⟨⟨Z47_0, Y47_0⟩, ⟨Z47_1, Y47_1⟩, ⟨Z47_2, Y47_2⟩, ⟨Z47_3, Y47_3⟩, ⟨Z47_4, Y47_4⟩, ⟨Z47_5, Y47_5⟩, ⟨Z47_6, Y47_6⟩, ⟨Z47_7, Y47_7⟩, Z47_8, Y47_8⟩ := cs9_ BK111.out
           go_wp2_with (first | ((with_reducible refine gate_dst (N := 54) rfl ?_); refine Kd.R_lit k38 _ 38 ?hg (N := 54) ?hd (xs := ([(⟨a0_1, a0_2, a0_3, a0_4⟩ : S38)] : List (S38))) (inner := [.int .i64 a0_1, .int .i64 a0_2, .int .i64 a0_3, .int .i64 a0_4]) (ok := fun _ => True) (okp := fun _ => True) ?hr ?hp (fun _ hk => hk) trivial (Below.refl _ _) (Nat.le_refl _) (by simp) ?_; (case hd => rfl); (case hg => rfl); (case hr => first | (go_simp; done) | (go_simp; rfl)); (case hp => exact (Reps.c4 (show Kd.M k38 _ _ _ (⟨a0_1, a0_2, a0_3, a0_4⟩ : S38) [.int .i64 a0_1, .int .i64 a0_2, .int .i64 a0_3, .int .i64 a0_4] from (k38_mkM _ _ _ (⟨a0_1, a0_2, a0_3, a0_4⟩ : S38) )) (Reps.none _ _))); intro v114 w48 ho49 hb hg_ hnew_; clear hg_ hnew_; (first | rw [← Ny113.out] at ho49 | (simp only [Int.reduceToNat] at ho49; rw [← Ny113.out] at ho49)); have n0_ := a_ (Kd.R_lower ho49 (below_size (bS1_ HB.out GE111.out))); have n1_ := a_ (kb_ BK111.out hb); have n2_ := a_ (below_step (bS1_ HB.out GE111.out) hb); clear BK111; clear HB; have HO115 := n0_; have BK111 := n1_; have HB := n2_; clear n0_ n1_ n2_; clear hb ho49; obtain ⟨Ao50, co50, eo50⟩ := Kd.R_slice HO115.out; subst eo50) | ((with_reducible refine gate_callee (f := 27) rfl ?_); refine gl_ (some 55) Try.func27 (by kernel_rfl) #[.slice Ao50 y113.length co50] ?_; (with_reducible refine (glue_May.calls kj1 _ _ y113 true _ ?side1 ?side2 A21.out).mono ?_); (case side1 => exact cr_ (Kd.R_reads' HO115.out).2.2); (case side2 => exact (Kd.R_reads' HO115.out).2.1); rintro e w51 ⟨rfl, hb⟩; refine ⟨_, rfl, ?_⟩; have n0_ := a_ (Kd.R_below (rv_ HO115.out) hb); have n1_ := a_ (kb_ BK111.out hb); have n2_ := a_ (below_step (bS1_ HB.out GE111.out) hb); clear HO115; clear BK111; clear HB; have HO115 := n0_; have BK111 := n1_; have HB := n2_; clear n0_ n1_ n2_; (try clear hb); (try clear hb2); (try clear hk); (try clear hi); obtain ⟨⟨Z52_0, Y52_0⟩, ⟨Z52_1, Y52_1⟩, ⟨Z52_2, Y52_2⟩, ⟨Z52_3, Y52_3⟩, ⟨Z52_4, Y52_4⟩, ⟨Z52_5, Y52_5⟩, ⟨Z52_6, Y52_6⟩, ⟨Z52_7, Y52_7⟩, Z52_8, Y52_8⟩ := cs9_ BK111.out))
           go_ret
           exact ⟨by first | rfl | (simp [errW_none, errW_some] <;> rfl) | (simp [*, errW_none, errW_some] <;> rfl), bS1_ HB.out GE111.out⟩
         ·rw [if_neg c32] at H
          have c32b0 : decide ((-10000) ≤ a0_5) = false := decide_eq_false c32
          clear c32
          obtain rfl := Option.some.inj H
          obtain ⟨⟨Z53_0, Y53_0⟩, ⟨Z53_1, Y53_1⟩, ⟨Z53_2, Y53_2⟩, ⟨Z53_3, Y53_3⟩, ⟨Z53_4, Y53_4⟩, ⟨Z53_5, Y53_5⟩, ⟨Z53_6, Y53_6⟩, ⟨Z53_7, Y53_7⟩, Z53_8, Y53_8⟩ := cs9_ BK111.out
          go_wp2_with (first | ((with_reducible refine gate_dst (N := 54) rfl ?_); refine Kd.R_lit k38 _ 38 ?hg (N := 54) ?hd (xs := ([(⟨a0_1, a0_2, a0_3, a0_4⟩ : S38)] : List (S38))) (inner := [.int .i64 a0_1, .int .i64 a0_2, .int .i64 a0_3, .int .i64 a0_4]) (ok := fun _ => True) (okp := fun _ => True) ?hr ?hp (fun _ hk => hk) trivial (Below.refl _ _) (Nat.le_refl _) (by simp) ?_; (case hd => rfl); (case hg => rfl); (case hr => first | (go_simp; done) | (go_simp; rfl)); (case hp => exact (Reps.c4 (show Kd.M k38 _ _ _ (⟨a0_1, a0_2, a0_3, a0_4⟩ : S38) [.int .i64 a0_1, .int .i64 a0_2, .int .i64 a0_3, .int .i64 a0_4] from (k38_mkM _ _ _ (⟨a0_1, a0_2, a0_3, a0_4⟩ : S38) )) (Reps.none _ _))); intro v114 w54 ho55 hb hg_ hnew_; clear hg_ hnew_; (first | rw [← Ny113.out] at ho55 | (simp only [Int.reduceToNat] at ho55; rw [← Ny113.out] at ho55)); have n0_ := a_ (Kd.R_lower ho55 (below_size (bS1_ HB.out GE111.out))); have n1_ := a_ (kb_ BK111.out hb); have n2_ := a_ (below_step (bS1_ HB.out GE111.out) hb); clear BK111; clear HB; have HO115 := n0_; have BK111 := n1_; have HB := n2_; clear n0_ n1_ n2_; clear hb ho55; obtain ⟨Ao56, co56, eo56⟩ := Kd.R_slice HO115.out; subst eo56) | ((with_reducible refine gate_callee (f := 27) rfl ?_); refine gl_ (some 55) Try.func27 (by kernel_rfl) #[.slice Ao56 y113.length co56] ?_; (with_reducible refine (glue_May.calls kj1 _ _ y113 true _ ?side1 ?side2 A21.out).mono ?_); (case side1 => exact cr_ (Kd.R_reads' HO115.out).2.2); (case side2 => exact (Kd.R_reads' HO115.out).2.1); rintro e w57 ⟨rfl, hb⟩; refine ⟨_, rfl, ?_⟩; have n0_ := a_ (Kd.R_below (rv_ HO115.out) hb); have n1_ := a_ (kb_ BK111.out hb); have n2_ := a_ (below_step (bS1_ HB.out GE111.out) hb); clear HO115; clear BK111; clear HB; have HO115 := n0_; have BK111 := n1_; have HB := n2_; clear n0_ n1_ n2_; (try clear hb); (try clear hb2); (try clear hk); (try clear hi); obtain ⟨⟨Z58_0, Y58_0⟩, ⟨Z58_1, Y58_1⟩, ⟨Z58_2, Y58_2⟩, ⟨Z58_3, Y58_3⟩, ⟨Z58_4, Y58_4⟩, ⟨Z58_5, Y58_5⟩, ⟨Z58_6, Y58_6⟩, ⟨Z58_7, Y58_7⟩, Z58_8, Y58_8⟩ := cs9_ BK111.out))
          go_ret
          exact ⟨by first | rfl | (simp [errW_none, errW_some] <;> rfl) | (simp [*, errW_none, errW_some] <;> rfl), bS1_ HB.out GE111.out⟩
       ·rw [if_neg c24] at H
        have c24b0 : (a0_5 == 0) = false := beq_eq_false_iff_ne.mpr c24
        have c24b1 : (a0_5 != 0) = true := bne_iff_ne.mpr c24
        obtain rfl := Option.some.inj H
        obtain ⟨⟨Z59_0, Y59_0⟩, ⟨Z59_1, Y59_1⟩, ⟨Z59_2, Y59_2⟩, ⟨Z59_3, Y59_3⟩, ⟨Z59_4, Y59_4⟩, ⟨Z59_5, Y59_5⟩, ⟨Z59_6, Y59_6⟩, ⟨Z59_7, Y59_7⟩, Z59_8, Y59_8⟩ := cs9_ BK111.out
        go_wp2_with (first | ((with_reducible refine gate_dst (N := 54) rfl ?_); refine Kd.R_lit k38 _ 38 ?hg (N := 54) ?hd (xs := ([(⟨a0_1, a0_2, a0_3, a0_4⟩ : S38)] : List (S38))) (inner := [.int .i64 a0_1, .int .i64 a0_2, .int .i64 a0_3, .int .i64 a0_4]) (ok := fun _ => True) (okp := fun _ => True) ?hr ?hp (fun _ hk => hk) trivial (Below.refl _ _) (Nat.le_refl _) (by simp) ?_; (case hd => rfl); (case hg => rfl); (case hr => first | (go_simp; done) | (go_simp; rfl)); (case hp => exact (Reps.c4 (show Kd.M k38 _ _ _ (⟨a0_1, a0_2, a0_3, a0_4⟩ : S38) [.int .i64 a0_1, .int .i64 a0_2, .int .i64 a0_3, .int .i64 a0_4] from (k38_mkM _ _ _ (⟨a0_1, a0_2, a0_3, a0_4⟩ : S38) )) (Reps.none _ _))); intro v114 w60 ho61 hb hg_ hnew_; clear hg_ hnew_; (first | rw [← Ny113.out] at ho61 | (simp only [Int.reduceToNat] at ho61; rw [← Ny113.out] at ho61)); have n0_ := a_ (Kd.R_lower ho61 (below_size (bS1_ HB.out GE111.out))); have n1_ := a_ (kb_ BK111.out hb); have n2_ := a_ (below_step (bS1_ HB.out GE111.out) hb); clear BK111; clear HB; have HO115 := n0_; have BK111 := n1_; have HB := n2_; clear n0_ n1_ n2_; clear hb ho61; obtain ⟨Ao62, co62, eo62⟩ := Kd.R_slice HO115.out; subst eo62) | ((with_reducible refine gate_callee (f := 27) rfl ?_); refine gl_ (some 55) Try.func27 (by kernel_rfl) #[.slice Ao62 y113.length co62] ?_; (with_reducible refine (glue_May.calls kj1 _ _ y113 true _ ?side1 ?side2 A21.out).mono ?_); (case side1 => exact cr_ (Kd.R_reads' HO115.out).2.2); (case side2 => exact (Kd.R_reads' HO115.out).2.1); rintro e w63 ⟨rfl, hb⟩; refine ⟨_, rfl, ?_⟩; have n0_ := a_ (Kd.R_below (rv_ HO115.out) hb); have n1_ := a_ (kb_ BK111.out hb); have n2_ := a_ (below_step (bS1_ HB.out GE111.out) hb); clear HO115; clear BK111; clear HB; have HO115 := n0_; have BK111 := n1_; have HB := n2_; clear n0_ n1_ n2_; (try clear hb); (try clear hb2); (try clear hk); (try clear hi); obtain ⟨⟨Z64_0, Y64_0⟩, ⟨Z64_1, Y64_1⟩, ⟨Z64_2, Y64_2⟩, ⟨Z64_3, Y64_3⟩, ⟨Z64_4, Y64_4⟩, ⟨Z64_5, Y64_5⟩, ⟨Z64_6, Y64_6⟩, ⟨Z64_7, Y64_7⟩, Z64_8, Y64_8⟩ := cs9_ BK111.out))
        go_ret
        exact ⟨by first | rfl | (simp [errW_none, errW_some] <;> rfl) | (simp [*, errW_none, errW_some] <;> rfl), bS1_ HB.out GE111.out⟩
      ·rw [if_neg c23] at H
       have c23b0 : decide (a0_3 ≤ a0_1) = false := decide_eq_false c23
       clear c23
       obtain rfl := Option.some.inj H
       obtain ⟨⟨Z65_0, Y65_0⟩, ⟨Z65_1, Y65_1⟩, ⟨Z65_2, Y65_2⟩, ⟨Z65_3, Y65_3⟩, ⟨Z65_4, Y65_4⟩, ⟨Z65_5, Y65_5⟩, ⟨Z65_6, Y65_6⟩, ⟨Z65_7, Y65_7⟩, Z65_8, Y65_8⟩ := cs9_ BK111.out
       go_wp2_with (first | ((with_reducible refine gate_dst (N := 54) rfl ?_); refine Kd.R_lit k38 _ 38 ?hg (N := 54) ?hd (xs := ([(⟨a0_1, a0_2, a0_3, a0_4⟩ : S38)] : List (S38))) (inner := [.int .i64 a0_1, .int .i64 a0_2, .int .i64 a0_3, .int .i64 a0_4]) (ok := fun _ => True) (okp := fun _ => True) ?hr ?hp (fun _ hk => hk) trivial (Below.refl _ _) (Nat.le_refl _) (by simp) ?_; (case hd => rfl); (case hg => rfl); (case hr => first | (go_simp; done) | (go_simp; rfl)); (case hp => exact (Reps.c4 (show Kd.M k38 _ _ _ (⟨a0_1, a0_2, a0_3, a0_4⟩ : S38) [.int .i64 a0_1, .int .i64 a0_2, .int .i64 a0_3, .int .i64 a0_4] from (k38_mkM _ _ _ (⟨a0_1, a0_2, a0_3, a0_4⟩ : S38) )) (Reps.none _ _))); intro v114 w66 ho67 hb hg_ hnew_; clear hg_ hnew_; (first | rw [← Ny113.out] at ho67 | (simp only [Int.reduceToNat] at ho67; rw [← Ny113.out] at ho67)); have n0_ := a_ (Kd.R_lower ho67 (below_size (bS1_ HB.out GE111.out))); have n1_ := a_ (kb_ BK111.out hb); have n2_ := a_ (below_step (bS1_ HB.out GE111.out) hb); clear BK111; clear HB; have HO115 := n0_; have BK111 := n1_; have HB := n2_; clear n0_ n1_ n2_; clear hb ho67; obtain ⟨Ao68, co68, eo68⟩ := Kd.R_slice HO115.out; subst eo68) | ((with_reducible refine gate_callee (f := 27) rfl ?_); refine gl_ (some 55) Try.func27 (by kernel_rfl) #[.slice Ao68 y113.length co68] ?_; (with_reducible refine (glue_May.calls kj1 _ _ y113 true _ ?side1 ?side2 A21.out).mono ?_); (case side1 => exact cr_ (Kd.R_reads' HO115.out).2.2); (case side2 => exact (Kd.R_reads' HO115.out).2.1); rintro e w69 ⟨rfl, hb⟩; refine ⟨_, rfl, ?_⟩; have n0_ := a_ (Kd.R_below (rv_ HO115.out) hb); have n1_ := a_ (kb_ BK111.out hb); have n2_ := a_ (below_step (bS1_ HB.out GE111.out) hb); clear HO115; clear BK111; clear HB; have HO115 := n0_; have BK111 := n1_; have HB := n2_; clear n0_ n1_ n2_; (try clear hb); (try clear hb2); (try clear hk); (try clear hi); obtain ⟨⟨Z70_0, Y70_0⟩, ⟨Z70_1, Y70_1⟩, ⟨Z70_2, Y70_2⟩, ⟨Z70_3, Y70_3⟩, ⟨Z70_4, Y70_4⟩, ⟨Z70_5, Y70_5⟩, ⟨Z70_6, Y70_6⟩, ⟨Z70_7, Y70_7⟩, Z70_8, Y70_8⟩ := cs9_ BK111.out))
       go_ret
       exact ⟨by first | rfl | (simp [errW_none, errW_some] <;> rfl) | (simp [*, errW_none, errW_some] <;> rfl), bS1_ HB.out GE111.out⟩
     ·replace c22 := Bool.eq_false_iff.mpr c22
      subst c22
      have H1 : (some false) = some r := by rw [if_neg (show ¬ (false = true) by decide)] at H; exact H
      clear H
      have H := H1
      clear H1
      obtain rfl := Option.some.inj H
      obtain ⟨⟨Z71_0, Y71_0⟩, ⟨Z71_1, Y71_1⟩, ⟨Z71_2, Y71_2⟩, ⟨Z71_3, Y71_3⟩, ⟨Z71_4, Y71_4⟩, ⟨Z71_5, Y71_5⟩, ⟨Z71_6, Y71_6⟩, ⟨Z71_7, Y71_7⟩, Z71_8, Y71_8⟩ := cs9_ BK111.out
      go_wp2_with (first | ((with_reducible refine gate_dst (N := 54) rfl ?_); refine Kd.R_lit k38 _ 38 ?hg (N := 54) ?hd (xs := ([(⟨a0_1, a0_2, a0_3, a0_4⟩ : S38)] : List (S38))) (inner := [.int .i64 a0_1, .int .i64 a0_2, .int .i64 a0_3, .int .i64 a0_4]) (ok := fun _ => True) (okp := fun _ => True) ?hr ?hp (fun _ hk => hk) trivial (Below.refl _ _) (Nat.le_refl _) (by simp) ?_; (case hd => rfl); (case hg => rfl); (case hr => first | (go_simp; done) | (go_simp; rfl)); (case hp => exact (Reps.c4 (show Kd.M k38 _ _ _ (⟨a0_1, a0_2, a0_3, a0_4⟩ : S38) [.int .i64 a0_1, .int .i64 a0_2, .int .i64 a0_3, .int .i64 a0_4] from (k38_mkM _ _ _ (⟨a0_1, a0_2, a0_3, a0_4⟩ : S38) )) (Reps.none _ _))); intro v114 w72 ho73 hb hg_ hnew_; clear hg_ hnew_; (first | rw [← Ny113.out] at ho73 | (simp only [Int.reduceToNat] at ho73; rw [← Ny113.out] at ho73)); have n0_ := a_ (Kd.R_lower ho73 (below_size (bS1_ HB.out GE111.out))); have n1_ := a_ (kb_ BK111.out hb); have n2_ := a_ (below_step (bS1_ HB.out GE111.out) hb); clear BK111; clear HB; have HO115 := n0_; have BK111 := n1_; have HB := n2_; clear n0_ n1_ n2_; clear hb ho73; obtain ⟨Ao74, co74, eo74⟩ := Kd.R_slice HO115.out; subst eo74) | ((with_reducible refine gate_callee (f := 27) rfl ?_); refine gl_ (some 55) Try.func27 (by kernel_rfl) #[.slice Ao74 y113.length co74] ?_; (with_reducible refine (glue_May.calls kj1 _ _ y113 false _ ?side1 ?side2 A21.out).mono ?_); (case side1 => exact cr_ (Kd.R_reads' HO115.out).2.2); (case side2 => exact (Kd.R_reads' HO115.out).2.1); rintro e w75 ⟨rfl, hb⟩; refine ⟨_, rfl, ?_⟩; have n0_ := a_ (Kd.R_below (rv_ HO115.out) hb); have n1_ := a_ (kb_ BK111.out hb); have n2_ := a_ (below_step (bS1_ HB.out GE111.out) hb); clear HO115; clear BK111; clear HB; have HO115 := n0_; have BK111 := n1_; have HB := n2_; clear n0_ n1_ n2_; (try clear hb); (try clear hb2); (try clear hk); (try clear hi)))
      go_ret
      exact ⟨by first | rfl | (simp [errW_none, errW_some] <;> rfl) | (simp [*, errW_none, errW_some] <;> rfl), bS1_ HB.out GE111.out⟩
    ·rw [if_neg c20] at H
     have c20b0 : (a0_0 == 1) = false := beq_eq_false_iff_ne.mpr c20
     have c20b1 : (a0_0 != 1) = true := bne_iff_ne.mpr c20
     by_cases c76 : a0_0 = 2
     ·rw [if_pos c76] at H
      have c76b0 : (a0_0 == 2) = true := beq_iff_eq.mpr c76
      have c76b1 : (a0_0 != 2) = false := bne_eq_false_iff_eq.mpr c76
      clear c76
      by_cases c77 : x3_1 = true
      ·subst c77
       have H1 : (if a0_5 ≥ (-10000) then (if a0_5 ≤ 10000 then (if a0_7 = 0 then (some (a0_8 == 0)) else (some false)) else (some false)) else (some false)) = some r := by rw [if_pos rfl] at H; exact H
       clear H
       have H := H1
       clear H1
       by_cases c78 : a0_5 ≥ (-10000)
       ·rw [if_pos c78] at H
        have c78b0 : decide ((-10000) ≤ a0_5) = true := decide_eq_true c78
        clear c78
        by_cases c79 : a0_5 ≤ 10000
        ·rw [if_pos c79] at H
         have c79b0 : decide (a0_5 ≤ 10000) = true := decide_eq_true c79
         clear c79
         by_cases c80 : a0_7 = 0
         ·rw [if_pos c80] at H
          have c80b0 : (a0_7 == 0) = true := beq_iff_eq.mpr c80
          have c80b1 : (a0_7 != 0) = false := bne_eq_false_iff_eq.mpr c80
          clear c80
          obtain rfl := Option.some.inj H
          obtain ⟨⟨Z81_0, Y81_0⟩, ⟨Z81_1, Y81_1⟩, ⟨Z81_2, Y81_2⟩, ⟨Z81_3, Y81_3⟩, ⟨Z81_4, Y81_4⟩, ⟨Z81_5, Y81_5⟩, ⟨Z81_6, Y81_6⟩, ⟨Z81_7, Y81_7⟩, Z81_8, Y81_8⟩ := cs9_ BK111.out
          go_wp2
          go_ret
          exact ⟨by first | rfl | (simp [errW_none, errW_some] <;> rfl) | (simp [*, errW_none, errW_some] <;> rfl), bS1_ HB.out GE111.out⟩
         ·rw [if_neg c80] at H
          have c80b0 : (a0_7 == 0) = false := beq_eq_false_iff_ne.mpr c80
          have c80b1 : (a0_7 != 0) = true := bne_iff_ne.mpr c80
          obtain rfl := Option.some.inj H
          obtain ⟨⟨Z82_0, Y82_0⟩, ⟨Z82_1, Y82_1⟩, ⟨Z82_2, Y82_2⟩, ⟨Z82_3, Y82_3⟩, ⟨Z82_4, Y82_4⟩, ⟨Z82_5, Y82_5⟩, ⟨Z82_6, Y82_6⟩, ⟨Z82_7, Y82_7⟩, Z82_8, Y82_8⟩ := cs9_ BK111.out
          go_wp2
          go_ret
          exact ⟨by first | rfl | (simp [errW_none, errW_some] <;> rfl) | (simp [*, errW_none, errW_some] <;> rfl), bS1_ HB.out GE111.out⟩
        ·rw [if_neg c79] at H
         have c79b0 : decide (a0_5 ≤ 10000) = false := decide_eq_false c79
         clear c79
         obtain rfl := Option.some.inj H
         obtain ⟨⟨Z83_0, Y83_0⟩, ⟨Z83_1, Y83_1⟩, ⟨Z83_2, Y83_2⟩, ⟨Z83_3, Y83_3⟩, ⟨Z83_4, Y83_4⟩, ⟨Z83_5, Y83_5⟩, ⟨Z83_6, Y83_6⟩, ⟨Z83_7, Y83_7⟩, Z83_8, Y83_8⟩ := cs9_ BK111.out
         go_wp2
         go_ret
         exact ⟨by first | rfl | (simp [errW_none, errW_some] <;> rfl) | (simp [*, errW_none, errW_some] <;> rfl), bS1_ HB.out GE111.out⟩
       ·rw [if_neg c78] at H
        have c78b0 : decide ((-10000) ≤ a0_5) = false := decide_eq_false c78
        clear c78
        obtain rfl := Option.some.inj H
        obtain ⟨⟨Z84_0, Y84_0⟩, ⟨Z84_1, Y84_1⟩, ⟨Z84_2, Y84_2⟩, ⟨Z84_3, Y84_3⟩, ⟨Z84_4, Y84_4⟩, ⟨Z84_5, Y84_5⟩, ⟨Z84_6, Y84_6⟩, ⟨Z84_7, Y84_7⟩, Z84_8, Y84_8⟩ := cs9_ BK111.out
        go_wp2
        go_ret
        exact ⟨by first | rfl | (simp [errW_none, errW_some] <;> rfl) | (simp [*, errW_none, errW_some] <;> rfl), bS1_ HB.out GE111.out⟩
      ·replace c77 := Bool.eq_false_iff.mpr c77
       subst c77
       have H1 : (some false) = some r := by rw [if_neg (show ¬ (false = true) by decide)] at H; exact H
       clear H
       have H := H1
       clear H1
       obtain rfl := Option.some.inj H
       obtain ⟨⟨Z85_0, Y85_0⟩, ⟨Z85_1, Y85_1⟩, ⟨Z85_2, Y85_2⟩, ⟨Z85_3, Y85_3⟩, ⟨Z85_4, Y85_4⟩, ⟨Z85_5, Y85_5⟩, ⟨Z85_6, Y85_6⟩, ⟨Z85_7, Y85_7⟩, Z85_8, Y85_8⟩ := cs9_ BK111.out
       go_wp2
       go_ret
       exact ⟨by first | rfl | (simp [errW_none, errW_some] <;> rfl) | (simp [*, errW_none, errW_some] <;> rfl), bS1_ HB.out GE111.out⟩
     ·rw [if_neg c76] at H
      have c76b0 : (a0_0 == 2) = false := beq_eq_false_iff_ne.mpr c76
      have c76b1 : (a0_0 != 2) = true := bne_iff_ne.mpr c76
      obtain rfl := Option.some.inj H
      obtain ⟨⟨Z86_0, Y86_0⟩, ⟨Z86_1, Y86_1⟩, ⟨Z86_2, Y86_2⟩, ⟨Z86_3, Y86_3⟩, ⟨Z86_4, Y86_4⟩, ⟨Z86_5, Y86_5⟩, ⟨Z86_6, Y86_6⟩, ⟨Z86_7, Y86_7⟩, Z86_8, Y86_8⟩ := cs9_ BK111.out
      go_wp2
      go_ret
      exact ⟨by first | rfl | (simp [errW_none, errW_some] <;> rfl) | (simp [*, errW_none, errW_some] <;> rfl), bS1_ HB.out GE111.out⟩

end Go.Proofs.Ytpfnfofaajpdmaa.PWi

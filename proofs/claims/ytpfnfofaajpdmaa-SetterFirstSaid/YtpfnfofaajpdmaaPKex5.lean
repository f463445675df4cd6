/- Written by a program of this session: functions of the given program as plain Lean functions, the walks that show it, and the row of each law, for every input that its statement speaks of. -/
import Derived.Test.YtpfnfofaajpdmaaPKex0
import Derived.Test.YtpfnfofaajpdmaaPKex2
import Derived.Test.YtpfnfofaajpdmaaPKex4
namespace Go.Proofs.Ytpfnfofaajpdmaa.PKe
open Go.RowKit Go.Proofs.YtpfnfofaajpdmaaW.PrintWords Go.Proofs.YtpfnfofaajpdmaaW.PrintLast Go.Proofs.YtpfnfofaajpdmaaW.PrintMore
attribute [local go_sem] max2_int min2_int max_two min_two max_three min_three max_four min_four   -- for this text's walks alone
set_option linter.unusedVariables false
set_option linter.unusedSimpArgs false

attribute [local go_sem high] eqA38
/-! ### item_right: function 26 -/
def item_right.j0 : Nat → Bool → Int → Int → Int → Int → Int → Int → Bool → Int → Int → Option (Bool)
 | 0, _, _, _, _, _, _, _, _, _, _ => none
 | k + 1, x3, x112000, x112001, x112002, x112003, x112004, x112005, x112006, x112007, x112008 => if x112000 = 0 then (if x3 = true then (if x112005 = 0 then (if x112006 = true then (some false) else (if x112007 ≥ 0 then (some (decide (x112008 ≥ 0))) else (some false))) else (some false)) else (some false)) else (if x112000 = 1 then ((glue_May.f k (([(⟨x112001, x112002, x112003, x112004⟩ : S38)] : List (S38)))).bind fun t116 => (if t116 = true then (if x112001 ≥ x112003 then (if x112005 = 0 then (if x112006 = true then (some false) else (if x112005 ≥ (-10000) then (if x112005 ≤ 10000 then (if x112007 = 0 then (some (x112008 == 0)) else (some false)) else (some false)) else (some false))) else (some false)) else (some false)) else (some false))) else (if x112000 = 2 then (if x3 = true then (if x112005 ≥ (-10000) then (if x112005 ≤ 10000 then (if x112007 = 0 then (some (x112008 == 0)) else (some false)) else (some false)) else (some false)) else (some false)) else (some false)))
def item_right.f (k : Nat) (a0_0 : Int) (a0_1 : Int) (a0_2 : Int) (a0_3 : Int) (a0_4 : Int) (a0_5 : Int) (a0_6 : Bool) (a0_7 : Int) (a0_8 : Int) : Option (Bool) := if (a0_2 == 0 && (a0_3 == 0 && (a0_4 == 0))) = true then (if a0_1 ≥ 0 then ((scaled_Fits.f a0_1).bind fun t112 => (item_right.j0 k t112 a0_0 a0_1 a0_2 a0_3 a0_4 a0_5 a0_6 a0_7 a0_8)) else (item_right.j0 k false a0_0 a0_1 a0_2 a0_3 a0_4 a0_5 a0_6 a0_7 a0_8)) else (item_right.j0 k false a0_0 a0_1 a0_2 a0_3 a0_4 a0_5 a0_6 a0_7 a0_8)
theorem item_right.mono_l : ∀ k, (∀ y0 y1 y2 y3 y4 y5 y6 y7 y8 y9, LeO (item_right.j0 k y0 y1 y2 y3 y4 y5 y6 y7 y8 y9) (item_right.j0 (k + 1) y0 y1 y2 y3 y4 y5 y6 y7 y8 y9))
 | 0 => fun _ _ _ _ _ _ _ _ _ _ r h => by simp [item_right.j0] at h
 | k + 1 => by
  have ih0 := item_right.mono_l k
  ·intro y0 y1 y2 y3 y4 y5 y6 y7 y8 y9
   unfold item_right.j0
   repeat' first
   | (with_reducible exact ih0 _ _ _ _ _ _ _ _ _ _)
   | (with_reducible exact glue_May.mono _ _)
   | (with_reducible exact LeO.refl _)
   | (with_reducible exact LeO.none _)
   | (with_reducible refine LeO.ite ?_ ?_)
   | (with_reducible refine LeO.bind ?_ (fun _ => ?_))
   | exact ih0 _ _ _ _ _ _ _ _ _ _
   | exact glue_May.mono _ _
   | exact LeO.none _
   | refine LeO.ite ?_ ?_
   | refine LeO.bind ?_ (fun _ => ?_)
theorem item_right.mono : ∀ a0 a1 a2 a3 a4 a5 a6 a7 a8 k, LeO (item_right.f k a0 a1 a2 a3 a4 a5 a6 a7 a8) (item_right.f (k + 1) a0 a1 a2 a3 a4 a5 a6 a7 a8) := by
 intro a0 a1 a2 a3 a4 a5 a6 a7 a8 k
 have ih0 := item_right.mono_l k
 unfold item_right.f
 repeat' first
   | (with_reducible exact ih0 _ _ _ _ _ _ _ _ _ _)
   | (with_reducible exact glue_May.mono _ _)
   | (with_reducible exact LeO.refl _)
   | (with_reducible exact LeO.none _)
   | (with_reducible refine LeO.ite ?_ ?_)
   | (with_reducible refine LeO.bind ?_ (fun _ => ?_))
   | exact ih0 _ _ _ _ _ _ _ _ _ _
   | exact glue_May.mono _ _
   | exact LeO.none _
   | refine LeO.ite ?_ ?_
   | refine LeO.bind ?_ (fun _ => ?_)
set_option maxHeartbeats 8000000 in
set_option maxRecDepth 100000 in
theorem item_right.calls (k : Nat) (a0_0 : Int) (a0_1 : Int) (a0_2 : Int) (a0_3 : Int) (a0_4 : Int) (a0_5 : Int) (a0_6 : Bool) (a0_7 : Int) (a0_8 : Int) (r : Bool) (w : World) (h : item_right.f k a0_0 a0_1 a0_2 a0_3 a0_4 a0_5 a0_6 a0_7 a0_8 = some r) :
  Calls Try.prog 26 #[.agg #[.int .i64 a0_0, .int .i64 a0_1, .int .i64 a0_2, .int .i64 a0_3, .int .i64 a0_4, .int .i64 a0_5, .bool a0_6, .int .i64 a0_7, .int .i64 a0_8]] w fun e w' => e = .returned (.bool r) ∧ Below w.heap.size w w' := by
 have hu40 := Try.underlying40
 have hu38 := Try.underlying38
 have HB := Aside0.mk (Below.refl w.heap.size w)
 have H : (if (a0_2 == 0 && (a0_3 == 0 && (a0_4 == 0))) = true then (if a0_1 ≥ 0 then ((scaled_Fits.f a0_1).bind fun t112 => (item_right.j0 k t112 a0_0 a0_1 a0_2 a0_3 a0_4 a0_5 a0_6 a0_7 a0_8)) else (item_right.j0 k false a0_0 a0_1 a0_2 a0_3 a0_4 a0_5 a0_6 a0_7 a0_8)) else (item_right.j0 k false a0_0 a0_1 a0_2 a0_3 a0_4 a0_5 a0_6 a0_7 a0_8)) = some r := h
 clear h
 have HC2 := Aside0.mk H
 clear H
 go_enter Try.func26, Try.ntmps26
 go_upto_region 1 with (first | ((with_reducible refine gate_dst (N := 1) rfl ?_); refine box_event ?hg (N := 1) ?hd (cs := #[.int .i64 a0_0, .int .i64 a0_1, .int .i64 a0_2, .int .i64 a0_3, .int .i64 a0_4, .int .i64 a0_5, .bool a0_6, .int .i64 a0_7, .int .i64 a0_8]) (t := 40) ?hr ?_; (case hd => rfl); (case hg => rfl); (case hr => first | (go_simp; done) | (go_simp; rfl)); intro gb111 hg w3 hbox hb; have n0_ := Aside0.mk (bs_ HB.out hb); have n1_ := Aside0.mk (hbox); have n2_ := Aside0.mk ((by rw [hg]; exact (below_size (bv_ HB.out)) : w.heap.size ≤ gb111)); have n3_ := Aside0.mk ((by rw [hg]; exact (below_size (bv_ HB.out)) : w.heap.size ≤ gb111)); clear HB; have HB := n0_; have BK111 := n1_; have GW111 := n2_; have GE111 := n3_; clear n0_ n1_ n2_ n3_; clear hb hbox hg))
 (try simp only [Act.put, List.setIfInBounds_toArray, List.set_cons_zero, List.set_cons_succ])
 go_cut [3] (fun v3 wc => ∃ (kq : Nat) (x3_1 : Bool), v3 = .bool x3_1 ∧ Aside0 (item_right.j0 kq x3_1 a0_0 a0_1 a0_2 a0_3 a0_4 a0_5 a0_6 a0_7 a0_8 = some r) ∧ Aside0 (kq ≤ k) ∧ Aside0 (wc.heap[gb111]? = some (.cells #[.int .i64 a0_0, .int .i64 a0_1, .int .i64 a0_2, .int .i64 a0_3, .int .i64 a0_4, .int .i64 a0_5, .bool a0_6, .int .i64 a0_7, .int .i64 a0_8] 40 (0, 0))) ∧ Aside0 (Below w.heap.size w wc))
 case first =>
  have H := HC2.out
  clear HC2
  by_cases c4 : (a0_2 == 0 && (a0_3 == 0 && (a0_4 == 0))) = true
  ·rw [if_pos c4] at H
   have c4b0 : (a0_2 == 0 && (a0_3 == 0 && (a0_4 == 0))) = true := c4
   (try (have c4b1 : decide (a0_2 = 0 && (a0_3 == 0 && (a0_4 == 0))) = true := by simpa using c4))
   (try (have c4b2 : (a0_2 == 0 && (a0_3 == 0 && (a0_4 == 0))) = true := by simpa using c4))
   clear c4
   (first | rw [c4b0] | (simp only [i64_w, i32_w]; rw [c4b0]) | skip)
   by_cases c5 : a0_1 ≥ 0
   ·rw [if_pos c5] at H
    have c5b0 : decide (0 ≤ a0_1) = true := decide_eq_true c5
    clear c5
    replace H := Option.bind_eq_some_iff.mp H
    obtain ⟨t112, A60, H⟩ := H
    replace H : (item_right.j0 k t112 a0_0 a0_1 a0_2 a0_3 a0_4 a0_5 a0_6 a0_7 a0_8) = some r := H
    have A6 := Aside0.mk A60
    clear A60
    have H' := Aside0.mk H
    clear H
    obtain ⟨⟨hcz7_0, hfz7_0⟩, ⟨hcz7_1, hfz7_1⟩, ⟨hcz7_2, hfz7_2⟩, ⟨hcz7_3, hfz7_3⟩, ⟨hcz7_4, hfz7_4⟩, ⟨hcz7_5, hfz7_5⟩, ⟨hcz7_6, hfz7_6⟩, ⟨hcz7_7, hfz7_7⟩, hcz7_8, hfz7_8⟩ := cs9_ BK111.out
    go_wp2_with (first | (go_at_call 41; (with_reducible refine (scaled_Fits.calls a0_1 t112 _ A6.out).mono ?_); rintro e w' ⟨rfl, ⟨nd, rfl⟩⟩))
    go_meet
    case rel => exact ⟨_, (t112), (by first | rfl | (simp; done) | (simp [*]; done)), H', ⟨by first | omega | exact Nat.le_refl _⟩, ⟨kv_ BK111.out⟩, ⟨by repeat (first | (with_reducible first | exact HB.out | apply below_alloc | apply pw_below_drewN | apply below_drew1 | refine below_set ?_ GE111.out) | exact HB.out)⟩⟩
   ·rw [if_neg c5] at H
    have c5b0 : decide (0 ≤ a0_1) = false := decide_eq_false c5
    clear c5
    have H' := Aside0.mk H
    clear H
    obtain ⟨⟨hcz8_0, hfz8_0⟩, ⟨hcz8_1, hfz8_1⟩, ⟨hcz8_2, hfz8_2⟩, ⟨hcz8_3, hfz8_3⟩, ⟨hcz8_4, hfz8_4⟩, ⟨hcz8_5, hfz8_5⟩, ⟨hcz8_6, hfz8_6⟩, ⟨hcz8_7, hfz8_7⟩, hcz8_8, hfz8_8⟩ := cs9_ BK111.out
    go_wp2
    go_meet
    case rel => exact ⟨_, (false), (by first | rfl | (simp; done) | (simp [*]; done)), H', ⟨by first | omega | exact Nat.le_refl _⟩, ⟨kv_ BK111.out⟩, ⟨by repeat (first | (with_reducible first | exact HB.out | apply below_alloc | apply pw_below_drewN | apply below_drew1 | refine below_set ?_ GE111.out) | exact HB.out)⟩⟩
  ·rw [if_neg c4] at H
   have c4b0 : (a0_2 == 0 && (a0_3 == 0 && (a0_4 == 0))) = false := by simpa using c4
   (try (have c4b1 : decide (a0_2 = 0 && (a0_3 == 0 && (a0_4 == 0))) = false := by simpa using c4))
   (try (have c4b2 : (a0_2 == 0 && (a0_3 == 0 && (a0_4 == 0))) = false := by simpa using c4))
   (try (have c4b3 : ¬ (a0_2 = 0 && (a0_3 == 0 && (a0_4 == 0))) := by simpa using c4))
   clear c4
   (first | rw [c4b0] | (simp only [i64_w, i32_w]; rw [c4b0]) | skip)
   have H' := Aside0.mk H
   clear H
   obtain ⟨⟨hcz9_0, hfz9_0⟩, ⟨hcz9_1, hfz9_1⟩, ⟨hcz9_2, hfz9_2⟩, ⟨hcz9_3, hfz9_3⟩, ⟨hcz9_4, hfz9_4⟩, ⟨hcz9_5, hfz9_5⟩, ⟨hcz9_6, hfz9_6⟩, ⟨hcz9_7, hfz9_7⟩, hcz9_8, hfz9_8⟩ := cs9_ BK111.out
   go_wp2
   go_meet
   case rel => exact ⟨_, (false), (by first | rfl | (simp; done) | (simp [*]; done)), H', ⟨by first | omega | exact Nat.le_refl _⟩, ⟨kv_ BK111.out⟩, ⟨by repeat (first | (with_reducible first | exact HB.out | apply below_alloc | apply pw_below_drewN | apply below_drew1 | refine below_set ?_ GE111.out) | exact HB.out)⟩⟩
 case rest =>
  clear HC2
  try clear c2
  try clear p2
  try clear c4
  try clear c4b0
  try clear c4b1
  try clear c4b2
  try clear c5
  try clear c5b0
  try clear hcz7_0
  try clear hcz7_1
  try clear hcz7_2
  try clear hcz7_3
  try clear hcz7_4
  try clear hcz7_5
  try clear hcz7_6
  try clear hcz7_7
  try clear hcz7_8
  try clear hcz8_0
  try clear hcz8_1
  try clear hcz8_2
  try clear hcz8_3
  try clear hcz8_4
  try clear hcz8_5
  try clear hcz8_6
  try clear hcz8_7
  try clear hcz8_8
  try clear hcz9_0
  try clear hcz9_1
  try clear hcz9_2
  try clear hcz9_3
  try clear hcz9_4
  try clear hcz9_5
  try clear hcz9_6
  try clear hcz9_7
  try clear hcz9_8
  try clear hfz7_0
  try clear hfz7_1
  try clear hfz7_2
  try clear hfz7_3
  try clear hfz7_4
  try clear hfz7_5
  try clear hfz7_6
  try clear hfz7_7
  try clear hfz7_8
  try clear hfz8_0
  try clear hfz8_1
  try clear hfz8_2
  try clear hfz8_3
  try clear hfz8_4
  try clear hfz8_5
  try clear hfz8_6
  try clear hfz8_7
  try clear hfz8_8
  try clear hfz9_0
  try clear hfz9_1
  try clear hfz9_2
  try clear hfz9_3
  try clear hfz9_4
  try clear hfz9_5
  try clear hfz9_6
  try clear hfz9_7
  try clear hfz9_8
  obtain ⟨kq, x3_1, rfl, HA, HJ1, BK111, HB⟩ := hcut
  cases kq with
  | zero => exact absurd HA.out (by simp [item_right.j0])
  | succ kj1 =>
   have H := HA.out
   clear HA
   simp only [item_right.j0] at H
   by_cases c10 : a0_0 = 0
   ·rw [if_pos c10] at H
    have c10b0 : (a0_0 == 0) = true := beq_iff_eq.mpr c10
    have c10b1 : (a0_0 != 0) = false := bne_eq_false_iff_eq.mpr c10
    clear c10
    by_cases c11 : x3_1 = true
    ·subst c11
     have H1 : (if a0_5 = 0 then (if a0_6 = true then (some false) else (if a0_7 ≥ 0 then (some (decide (a0_8 ≥ 0))) else (some false))) else (some false)) = some r := by rw [if_pos rfl] at H; exact H
     clear H
     have H := H1
     clear H1
     by_cases c12 : a0_5 = 0
     ·rw [if_pos c12] at H
      have c12b0 : (a0_5 == 0) = true := beq_iff_eq.mpr c12
      have c12b1 : (a0_5 != 0) = false := bne_eq_false_iff_eq.mpr c12
      clear c12
      by_cases c13 : a0_6 = true
      ·subst c13
       have H1 : (some false) = some r := by rw [if_pos rfl] at H; exact H
       clear H
       have H := H1
       clear H1
       obtain rfl := Option.some.inj H
       obtain ⟨⟨hcz14_0, hfz14_0⟩, ⟨hcz14_1, hfz14_1⟩, ⟨hcz14_2, hfz14_2⟩, ⟨hcz14_3, hfz14_3⟩, ⟨hcz14_4, hfz14_4⟩, ⟨hcz14_5, hfz14_5⟩, ⟨hcz14_6, hfz14_6⟩, ⟨hcz14_7, hfz14_7⟩, hcz14_8, hfz14_8⟩ := cs9_ BK111.out
       go_wp2
       go_ret
       exact ⟨by first | rfl | (simp [errW_none, errW_some] <;> rfl) | (simp [*, errW_none, errW_some] <;> rfl), by repeat (first | (with_reducible first | exact HB.out | apply below_alloc | apply pw_below_drewN | apply below_drew1 | refine below_set ?_ GE111.out) | exact HB.out)⟩
      ·replace c13 := Bool.eq_false_iff.mpr c13
       subst c13
       have H1 : (if a0_7 ≥ 0 then (some (decide (a0_8 ≥ 0))) else (some false)) = some r := by rw [if_neg (show ¬ (false = true) by decide)] at H; exact H
       clear H
       have H := H1
       clear H1
       by_cases c15 : a0_7 ≥ 0
       ·rw [if_pos c15] at H
        have c15b0 : decide (0 ≤ a0_7) = true := decide_eq_true c15
        clear c15
        obtain rfl := Option.some.inj H
        obtain ⟨⟨hcz16_0, hfz16_0⟩, ⟨hcz16_1, hfz16_1⟩, ⟨hcz16_2, hfz16_2⟩, ⟨hcz16_3, hfz16_3⟩, ⟨hcz16_4, hfz16_4⟩, ⟨hcz16_5, hfz16_5⟩, ⟨hcz16_6, hfz16_6⟩, ⟨hcz16_7, hfz16_7⟩, hcz16_8, hfz16_8⟩ := cs9_ BK111.out
        go_wp2
        go_ret
        exact ⟨by first | rfl | (simp [errW_none, errW_some] <;> rfl) | (simp [*, errW_none, errW_some] <;> rfl), by repeat (first | (with_reducible first | exact HB.out | apply below_alloc | apply pw_below_drewN | apply below_drew1 | refine below_set ?_ GE111.out) | exact HB.out)⟩
       ·rw [if_neg c15] at H
        have c15b0 : decide (0 ≤ a0_7) = false := decide_eq_false c15
        clear c15
        obtain rfl := Option.some.inj H
        obtain ⟨⟨hcz17_0, hfz17_0⟩, ⟨hcz17_1, hfz17_1⟩, ⟨hcz17_2, hfz17_2⟩, ⟨hcz17_3, hfz17_3⟩, ⟨hcz17_4, hfz17_4⟩, ⟨hcz17_5, hfz17_5⟩, ⟨hcz17_6, hfz17_6⟩, ⟨hcz17_7, hfz17_7⟩, hcz17_8, hfz17_8⟩ := cs9_ BK111.out
        go_wp2
        go_ret
        exact ⟨by first | rfl | (simp [errW_none, errW_some] <;> rfl) | (simp [*, errW_none, errW_some] <;> rfl), by repeat (first | (with_reducible first | exact HB.out | apply below_alloc | apply pw_below_drewN | apply below_drew1 | refine below_set ?_ GE111.out) | exact HB.out)⟩
     ·rw [if_neg c12] at H
      have c12b0 : (a0_5 == 0) = false := beq_eq_false_iff_ne.mpr c12
      have c12b1 : (a0_5 != 0) = true := bne_iff_ne.mpr c12
      obtain rfl := Option.some.inj H
      obtain ⟨⟨hcz18_0, hfz18_0⟩, ⟨hcz18_1, hfz18_1⟩, ⟨hcz18_2, hfz18_2⟩, ⟨hcz18_3, hfz18_3⟩, ⟨hcz18_4, hfz18_4⟩, ⟨hcz18_5, hfz18_5⟩, ⟨hcz18_6, hfz18_6⟩, ⟨hcz18_7, hfz18_7⟩, hcz18_8, hfz18_8⟩ := cs9_ BK111.out
      go_wp2
      go_ret
      exact ⟨by first | rfl | (simp [errW_none, errW_some] <;> rfl) | (simp [*, errW_none, errW_some] <;> rfl), by repeat (first | (with_reducible first | exact HB.out | apply below_alloc | apply pw_below_drewN | apply below_drew1 | refine below_set ?_ GE111.out) | exact HB.out)⟩
    ·replace c11 := Bool.eq_false_iff.mpr c11
     subst c11
     have H1 : (some false) = some r := by rw [if_neg (show ¬ (false = true) by decide)] at H; exact H
     clear H
     have H := H1
     clear H1
     obtain rfl := Option.some.inj H
     obtain ⟨⟨hcz19_0, hfz19_0⟩, ⟨hcz19_1, hfz19_1⟩, ⟨hcz19_2, hfz19_2⟩, ⟨hcz19_3, hfz19_3⟩, ⟨hcz19_4, hfz19_4⟩, ⟨hcz19_5, hfz19_5⟩, ⟨hcz19_6, hfz19_6⟩, ⟨hcz19_7, hfz19_7⟩, hcz19_8, hfz19_8⟩ := cs9_ BK111.out
     go_wp2
     go_ret
     exact ⟨by first | rfl | (simp [errW_none, errW_some] <;> rfl) | (simp [*, errW_none, errW_some] <;> rfl), by repeat (first | (with_reducible first | exact HB.out | apply below_alloc | apply pw_below_drewN | apply below_drew1 | refine below_set ?_ GE111.out) | exact HB.out)⟩
   ·rw [if_neg c10] at H
    have c10b0 : (a0_0 == 0) = false := beq_eq_false_iff_ne.mpr c10
    have c10b1 : (a0_0 != 0) = true := bne_iff_ne.mpr c10
    by_cases c20 : a0_0 = 1
    ·rw [if_pos c20] at H
     have c20b0 : (a0_0 == 1) = true := beq_iff_eq.mpr c20
     have c20b1 : (a0_0 != 1) = false := bne_eq_false_iff_eq.mpr c20
     clear c20
     obtain ⟨y113, hy113⟩ : ∃ y_ : List (S38), y_ = (([(⟨a0_1, a0_2, a0_3, a0_4⟩ : S38)] : List (S38))) := ⟨_, rfl⟩
     replace H : ((glue_May.f kj1 y113).bind fun t116 => (if t116 = true then (if a0_1 ≥ a0_3 then (if a0_5 = 0 then (if a0_6 = true then (some false) else (if a0_5 ≥ (-10000) then (if a0_5 ≤ 10000 then (if a0_7 = 0 then (some (a0_8 == 0)) else (some false)) else (some false)) else (some false))) else (some false)) else (some false)) else (some false))) = some r := by first | (rw [hy113]; with_reducible exact H) | (have H2_ := (Option.bind_some _ _).symm.trans H; rw [hy113]; with_reducible exact H2_) | (have H2_ := (Option.bind_some _ _).symm.trans H; with_reducible exact H2_) | with_reducible exact H | (rw [hy113]; exact H) | exact H
     have Ny113 := Aside0.mk hy113
     clear hy113
     replace H := Option.bind_eq_some_iff.mp H
     obtain ⟨t116, A210, H⟩ := H
     replace H : (if t116 = true then (if a0_1 ≥ a0_3 then (if a0_5 = 0 then (if a0_6 = true then (some false) else (if a0_5 ≥ (-10000) then (if a0_5 ≤ 10000 then (if a0_7 = 0 then (some (a0_8 == 0)) else (some false)) else (some false)) else (some false))) else (some false)) else (some false)) else (some false)) = some r := H
     have A21 := Aside0.mk A210
     clear A210
     by_cases c22 : t116 = true
     ·subst c22
      have H1 : (if a0_1 ≥ a0_3 then (if a0_5 = 0 then (if a0_6 = true then (some false) else (if a0_5 ≥ (-10000) then (if a0_5 ≤ 10000 then (if a0_7 = 0 then (some (a0_8 == 0)) else (some false)) else (some false)) else (some false))) else (some false)) else (some false)) = some r := by rw [if_pos rfl] at H; exact H
      clear H
      have H := H1
      clear H1
      by_cases c23 : a0_1 ≥ a0_3
      ·rw [if_pos c23] at H
       have c23b0 : decide (a0_3 ≤ a0_1) = true := decide_eq_true c23
       clear c23
       by_cases c24 : a0_5 = 0
       ·rw [if_pos c24] at H
        have c24b0 : (a0_5 == 0) = true := beq_iff_eq.mpr c24
        have c24b1 : (a0_5 != 0) = false := bne_eq_false_iff_eq.mpr c24
        clear c24
        by_cases c25 : a0_6 = true
        ·subst c25
         have H1 : (some false) = some r := by rw [if_pos rfl] at H; exact H
         clear H
         have H := H1
         clear H1
         obtain rfl := Option.some.inj H
         obtain ⟨⟨hcz26_0, hfz26_0⟩, ⟨hcz26_1, hfz26_1⟩, ⟨hcz26_2, hfz26_2⟩, ⟨hcz26_3, hfz26_3⟩, ⟨hcz26_4, hfz26_4⟩, ⟨hcz26_5, hfz26_5⟩, ⟨hcz26_6, hfz26_6⟩, ⟨hcz26_7, hfz26_7⟩, hcz26_8, hfz26_8⟩ := cs9_ BK111.out
         go_wp2_with (first | ((with_reducible refine gate_dst (N := 54) rfl ?_); refine Kd.R_lit k38 _ 38 ?hg (N := 54) ?hd (xs := ([(⟨a0_1, a0_2, a0_3, a0_4⟩ : S38)] : List (S38))) (inner := [.int .i64 a0_1, .int .i64 a0_2, .int .i64 a0_3, .int .i64 a0_4]) (ok := fun _ => True) (okp := fun _ => True) ?hr ?hp (fun _ hk => hk) trivial (Below.refl _ _) (Nat.le_refl _) (by simp) ?_; (case hd => rfl); (case hg => rfl); (case hr => first | (go_simp; done) | (go_simp; rfl)); (case hp => exact (Reps.c4 (show Kd.M k38 _ _ _ (⟨a0_1, a0_2, a0_3, a0_4⟩ : S38) [.int .i64 a0_1, .int .i64 a0_2, .int .i64 a0_3, .int .i64 a0_4] from (k38_mkM _ _ _ (⟨a0_1, a0_2, a0_3, a0_4⟩ : S38) )) (Reps.none _ _))); intro v114 w27 ho28 hb hg_ hnew_; clear hg_ hnew_; (first | rw [← Ny113.out] at ho28 | (simp only [Int.reduceToNat] at ho28; rw [← Ny113.out] at ho28)); have n0_ := Aside0.mk (Kd.R_lower ho28 (below_size (by repeat (first | (with_reducible first | exact HB.out | apply below_alloc | apply pw_below_drewN | apply below_drew1 | refine below_set ?_ GE111.out) | exact HB.out)))); have n1_ := Aside0.mk (kb_ BK111.out hb); have n2_ := Aside0.mk (below_step (by repeat (first | (with_reducible first | exact HB.out | apply below_alloc | apply pw_below_drewN | apply below_drew1 | refine below_set ?_ GE111.out) | exact HB.out)) hb); clear BK111; clear HB; have HO115 := n0_; have BK111 := n1_; have HB := n2_; clear n0_ n1_ n2_; clear hb ho28; obtain ⟨Ao29, co29, eo29⟩ := Kd.R_slice HO115.out; subst eo29) | ((with_reducible refine gate_callee (f := 27) rfl ?_); refine goesL_ (some 55) rfl rfl Try.func27 (by kernel_rfl) rfl #[.slice Ao29 y113.length co29] rfl (by (try simp only [List.map_toArray, List.map_cons, List.map_nil]); first | done | rfl | (simp only [List.length_drop, List.length_take]; rfl) | (simp only [*]; first | done | rfl)) ?_; (with_reducible refine (glue_May.calls kj1 _ _ y113 true _ ?side1 ?side2 A21.out).mono ?_); (case side1 => repeat (first | exact (Kd.R_reads' HO115.out).2.2 | (with_reducible refine Kd.C_alloc ?_ _) | (with_reducible refine Kd.C_drewN ?_ _) | (with_reducible refine Kd.C_drew ?_))); (case side2 => exact (Kd.R_reads' HO115.out).2.1); rintro e w30 ⟨rfl, hb⟩; refine ⟨_, rfl, ?_⟩; have n0_ := Aside0.mk (Kd.R_below (rv_ HO115.out) hb); have n1_ := Aside0.mk (kb_ BK111.out hb); have n2_ := Aside0.mk (below_step (by repeat (first | (with_reducible first | exact HB.out | apply below_alloc | apply pw_below_drewN | apply below_drew1 | refine below_set ?_ GE111.out) | exact HB.out)) hb); clear HO115; clear BK111; clear HB; have HO115 := n0_; have BK111 := n1_; have HB := n2_; clear n0_ n1_ n2_; (try clear hb); (try clear hb2); (try clear hk); (try clear hi); have hcz31_0 : w30.cell? ⟨gb111, 0, none⟩ = some (.int .i64 a0_0) := (blk_cell BK111.out 0).trans rfl; have hcz31_1 : w30.cell? ⟨gb111, 1, none⟩ = some (.int .i64 a0_1) := (blk_cell BK111.out 1).trans rfl; have hcz31_2 : w30.cell? ⟨gb111, 2, none⟩ = some (.int .i64 a0_2) := (blk_cell BK111.out 2).trans rfl; have hcz31_3 : w30.cell? ⟨gb111, 3, none⟩ = some (.int .i64 a0_3) := (blk_cell BK111.out 3).trans rfl; have hcz31_4 : w30.cell? ⟨gb111, 4, none⟩ = some (.int .i64 a0_4) := (blk_cell BK111.out 4).trans rfl; have hcz31_5 : w30.cell? ⟨gb111, 5, none⟩ = some (.int .i64 a0_5) := (blk_cell BK111.out 5).trans rfl; have hcz31_6 : w30.cell? ⟨gb111, 6, none⟩ = some (.bool true) := (blk_cell BK111.out 6).trans rfl; have hcz31_7 : w30.cell? ⟨gb111, 7, none⟩ = some (.int .i64 a0_7) := (blk_cell BK111.out 7).trans rfl; have hcz31_8 : w30.cell? ⟨gb111, 8, none⟩ = some (.int .i64 a0_8) := (blk_cell BK111.out 8).trans rfl; have hfz31_0 := blk_frozen BK111.out 0; have hfz31_1 := blk_frozen BK111.out 1; have hfz31_2 := blk_frozen BK111.out 2; have hfz31_3 := blk_frozen BK111.out 3; have hfz31_4 := blk_frozen BK111.out 4; have hfz31_5 := blk_frozen BK111.out 5; have hfz31_6 := blk_frozen BK111.out 6; have hfz31_7 := blk_frozen BK111.out 7; have hfz31_8 := blk_frozen BK111.out 8))
         go_ret
         exact ⟨by first | rfl | (simp [errW_none, errW_some] <;> rfl) | (simp [*, errW_none, errW_some] <;> rfl), by repeat (first | (with_reducible first | exact HB.out | apply below_alloc | apply pw_below_drewN | apply below_drew1 | refine below_set ?_ GE111.out) | exact HB.out)⟩
        ·replace c25 := Bool.eq_false_iff.mpr c25
         subst c25
         have H1 : (if a0_5 ≥ (-10000) then (if a0_5 ≤ 10000 then (if a0_7 = 0 then (some (a0_8 == 0)) else (some false)) else (some false)) else (some false)) = some r := by rw [if_neg (show ¬ (false = true) by decide)] at H; exact H
         clear H
         have H := H1
         clear H1
         by_cases c32 : a0_5 ≥ (-10000)
         ·rw [if_pos c32] at H
          have c32b0 : decide ((-10000) ≤ a0_5) = true := decide_eq_true c32
          clear c32
          by_cases c33 : a0_5 ≤ 10000
          ·rw [if_pos c33] at H
           have c33b0 : decide (a0_5 ≤ 10000) = true := decide_eq_true c33
           clear c33
           by_cases c34 : a0_7 = 0
           ·rw [if_pos c34] at H
            have c34b0 : (a0_7 == 0) = true := beq_iff_eq.mpr c34
            have c34b1 : (a0_7 != 0) = false := bne_eq_false_iff_eq.mpr c34
            clear c34
            obtain rfl := Option.some.inj H
            obtain ⟨⟨hcz35_0, hfz35_0⟩, ⟨hcz35_1, hfz35_1⟩, ⟨hcz35_2, hfz35_2⟩, ⟨hcz35_3, hfz35_3⟩, ⟨hcz35_4, hfz35_4⟩, ⟨hcz35_5, hfz35_5⟩, ⟨hcz35_6, hfz35_6⟩, ⟨hcz35_7, hfz35_7⟩, hcz35_8, hfz35_8⟩ := cs9_ BK111.out
            go_wp2_with (first | ((with_reducible refine gate_dst (N := 54) rfl ?_); refine Kd.R_lit k38 _ 38 ?hg (N := 54) ?hd (xs := ([(⟨a0_1, a0_2, a0_3, a0_4⟩ : S38)] : List (S38))) (inner := [.int .i64 a0_1, .int .i64 a0_2, .int .i64 a0_3, .int .i64 a0_4]) (ok := fun _ => True) (okp := fun _ => True) ?hr ?hp (fun _ hk => hk) trivial (Below.refl _ _) (Nat.le_refl _) (by simp) ?_; (case hd => rfl); (case hg => rfl); (case hr => first | (go_simp; done) | (go_simp; rfl)); (case hp => exact (Reps.c4 (show Kd.M k38 _ _ _ (⟨a0_1, a0_2, a0_3, a0_4⟩ : S38) [.int .i64 a0_1, .int .i64 a0_2, .int .i64 a0_3, .int .i64 a0_4] from (k38_mkM _ _ _ (⟨a0_1, a0_2, a0_3, a0_4⟩ : S38) )) (Reps.none _ _))); intro v114 w36 ho37 hb hg_ hnew_; clear hg_ hnew_; (first | rw [← Ny113.out] at ho37 | (simp only [Int.reduceToNat] at ho37; rw [← Ny113.out] at ho37)); have n0_ := Aside0.mk (Kd.R_lower ho37 (below_size (by repeat (first | (with_reducible first | exact HB.out | apply below_alloc | apply pw_below_drewN | apply below_drew1 | refine below_set ?_ GE111.out) | exact HB.out)))); have n1_ := Aside0.mk (kb_ BK111.out hb); have n2_ := Aside0.mk (below_step (by repeat (first | (with_reducible first | exact HB.out | apply below_alloc | apply pw_below_drewN | apply below_drew1 | refine below_set ?_ GE111.out) | exact HB.out)) hb); clear BK111; clear HB; have HO115 := n0_; have BK111 := n1_; have HB := n2_; clear n0_ n1_ n2_; clear hb ho37; obtain ⟨Ao38, co38, eo38⟩ := Kd.R_slice HO115.out; subst eo38) | ((with_reducible refine gate_callee (f := 27) rfl ?_); refine goesL_ (some 55) rfl rfl Try.func27 (by kernel_rfl) rfl #[.slice Ao38 y113.length co38] rfl (by (try simp only [List.map_toArray, List.map_cons, List.map_nil]); first | done | rfl | (simp only [List.length_drop, List.length_take]; rfl) | (simp only [*]; first | done | rfl)) ?_; (with_reducible refine (glue_May.calls kj1 _ _ y113 true _ ?side1 ?side2 A21.out).mono ?_); (case side1 => repeat (first | exact (Kd.R_reads' HO115.out).2.2 | (with_reducible refine Kd.C_alloc ?_ _) | (with_reducible refine Kd.C_drewN ?_ _) | (with_reducible refine Kd.C_drew ?_))); (case side2 => exact (Kd.R_reads' HO115.out).2.1); rintro e w39 ⟨rfl, hb⟩; refine ⟨_, rfl, ?_⟩; have n0_ := Aside0.mk (Kd.R_below (rv_ HO115.out) hb); have n1_ := Aside0.mk (kb_ BK111.out hb); have n2_ := Aside0.mk (below_step (by repeat (first | (with_reducible first | exact HB.out | apply below_alloc | apply pw_below_drewN | apply below_drew1 | refine below_set ?_ GE111.out) | exact HB.out)) hb); clear HO115; clear BK111; clear HB; have HO115 := n0_; have BK111 := n1_; have HB := n2_; clear n0_ n1_ n2_; (try clear hb); (try clear hb2); (try clear hk); (try clear hi); have hcz40_0 : w39.cell? ⟨gb111, 0, none⟩ = some (.int .i64 a0_0) := (blk_cell BK111.out 0).trans rfl; have hcz40_1 : w39.cell? ⟨gb111, 1, none⟩ = some (.int .i64 a0_1) := (blk_cell BK111.out 1).trans rfl; have hcz40_2 : w39.cell? ⟨gb111, 2, none⟩ = some (.int .i64 a0_2) := (blk_cell BK111.out 2).trans rfl; have hcz40_3 : w39.cell? ⟨gb111, 3, none⟩ = some (.int .i64 a0_3) := (blk_cell BK111.out 3).trans rfl; have hcz40_4 : w39.cell? ⟨gb111, 4, none⟩ = some (.int .i64 a0_4) := (blk_cell BK111.out 4).trans rfl; have hcz40_5 : w39.cell? ⟨gb111, 5, none⟩ = some (.int .i64 a0_5) := (blk_cell BK111.out 5).trans rfl; have hcz40_6 : w39.cell? ⟨gb111, 6, none⟩ = some (.bool false) := (blk_cell BK111.out 6).trans rfl; have hcz40_7 : w39.cell? ⟨gb111, 7, none⟩ = some (.int .i64 a0_7) := (blk_cell BK111.out 7).trans rfl; have hcz40_8 : w39.cell? ⟨gb111, 8, none⟩ = some (.int .i64 a0_8) := (blk_cell BK111.out 8).trans rfl; have hfz40_0 := blk_frozen BK111.out 0; have hfz40_1 := blk_frozen BK111.out 1; have hfz40_2 := blk_frozen BK111.out 2; have hfz40_3 := blk_frozen BK111.out 3; have hfz40_4 := blk_frozen BK111.out 4; have hfz40_5 := blk_frozen BK111.out 5; have hfz40_6 := blk_frozen BK111.out 6; have hfz40_7 := blk_frozen BK111.out 7; have hfz40_8 := blk_frozen BK111.out 8))
            go_ret
            exact ⟨by first | rfl | (simp [errW_none, errW_some] <;> rfl) | (simp [*, errW_none, errW_some] <;> rfl), by repeat (first | (with_reducible first | exact HB.out | apply below_alloc | apply pw_below_drewN | apply below_drew1 | refine below_set ?_ GE111.out) | exact HB.out)⟩
           ·rw [if_neg c34] at H
            have c34b0 : (a0_7 == 0) = false := beq_eq_false_iff_ne.mpr c34
            have c34b1 : (a0_7 != 0) = true := bne_iff_ne.mpr c34
            obtain rfl := Option.some.inj H
            obtain ⟨⟨hcz41_0, hfz41_0⟩, ⟨hcz41_1, hfz41_1⟩, ⟨hcz41_2, hfz41_2⟩, ⟨hcz41_3, hfz41_3⟩, ⟨hcz41_4, hfz41_4⟩, ⟨hcz41_5, hfz41_5⟩, ⟨hcz41_6, hfz41_6⟩, ⟨hcz41_7, hfz41_7⟩, hcz41_8, hfz41_8⟩ := cs9_ BK111.out
            go_wp2_with (first | ((with_reducible refine gate_dst (N := 54) rfl ?_); refine Kd.R_lit k38 _ 38 ?hg (N := 54) ?hd (xs := ([(⟨a0_1, a0_2, a0_3, a0_4⟩ : S38)] : List (S38))) (inner := [.int .i64 a0_1, .int .i64 a0_2, .int .i64 a0_3, .int .i64 a0_4]) (ok := fun _ => True) (okp := fun _ => True) ?hr ?hp (fun _ hk => hk) trivial (Below.refl _ _) (Nat.le_refl _) (by simp) ?_; (case hd => rfl); (case hg => rfl); (case hr => first | (go_simp; done) | (go_simp; rfl)); (case hp => exact (Reps.c4 (show Kd.M k38 _ _ _ (⟨a0_1, a0_2, a0_3, a0_4⟩ : S38) [.int .i64 a0_1, .int .i64 a0_2, .int .i64 a0_3, .int .i64 a0_4] from (k38_mkM _ _ _ (⟨a0_1, a0_2, a0_3, a0_4⟩ : S38) )) (Reps.none _ _))); intro v114 w42 ho43 hb hg_ hnew_; clear hg_ hnew_; (first | rw [← Ny113.out] at ho43 | (simp only [Int.reduceToNat] at ho43; rw [← Ny113.out] at ho43)); have n0_ := Aside0.mk (Kd.R_lower ho43 (below_size (by repeat (first | (with_reducible first | exact HB.out | apply below_alloc | apply pw_below_drewN | apply below_drew1 | refine below_set ?_ GE111.out) | exact HB.out)))); have n1_ := Aside0.mk (kb_ BK111.out hb); have n2_ := Aside0.mk (below_step (by repeat (first | (with_reducible first | exact HB.out | apply below_alloc | apply pw_below_drewN | apply below_drew1 | refine below_set ?_ GE111.out) | exact HB.out)) hb); clear BK111; clear HB; have HO115 := n0_; have BK111 := n1_; have HB := n2_; clear n0_ n1_ n2_; clear hb ho43; obtain ⟨Ao44, co44, eo44⟩ := Kd.R_slice HO115.out; subst eo44) | ((with_reducible refine gate_callee (f := 27) rfl ?_); refine goesL_ (some 55) rfl rfl Try.func27 (by kernel_rfl) rfl #[.slice Ao44 y113.length co44] rfl (by (try simp only [List.map_toArray, List.map_cons, List.map_nil]); first | done | rfl | (simp only [List.length_drop, List.length_take]; rfl) | (simp only [*]; first | done | rfl)) ?_; (with_reducible refine (glue_May.calls kj1 _ _ y113 true _ ?side1 ?side2 A21.out).mono ?_); (case side1 => repeat (first | exact (Kd.R_reads' HO115.out).2.2 | (with_reducible refine Kd.C_alloc ?_ _) | (with_reducible refine Kd.C_drewN ?_ _) | (with_reducible refine Kd.C_drew ?_))); (case side2 => exact (Kd.R_reads' HO115.out).2.1); rintro e w45 ⟨rfl, hb⟩; refine ⟨_, rfl, ?_⟩; have n0_ := Aside0.mk (Kd.R_below (rv_ HO115.out) hb); have n1_ := Aside0.mk (kb_ BK111.out hb); have n2_ := Aside0.mk (below_step (by repeat (first | (with_reducible first | exact HB.out | apply below_alloc | apply pw_below_drewN | apply below_drew1 | refine below_set ?_ GE111.out) | exact HB.out)) hb); clear HO115; clear BK111; clear HB; have HO115 := n0_; have BK111 := n1_; have HB := n2_; clear n0_ n1_ n2_; (try clear hb); (try clear hb2); (try clear hk); (try clear hi); have hcz46_0 : w45.cell? ⟨gb111, 0, none⟩ = some (.int .i64 a0_0) := (blk_cell BK111.out 0).trans rfl; have hcz46_1 : w45.cell? ⟨gb111, 1, none⟩ = some (.int .i64 a0_1) := (blk_cell BK111.out 1).trans rfl; have hcz46_2 : w45.cell? ⟨gb111, 2, none⟩ = some (.int .i64 a0_2) := (blk_cell BK111.out 2).trans rfl; have hcz46_3 : w45.cell? ⟨gb111, 3, none⟩ = some (.int .i64 a0_3) := (blk_cell BK111.out 3).trans rfl; have hcz46_4 : w45.cell? ⟨gb111, 4, none⟩ = some (.int .i64 a0_4) := (blk_cell BK111.out 4).trans rfl; have hcz46_5 : w45.cell? ⟨gb111, 5, none⟩ = some (.int .i64 a0_5) := (blk_cell BK111.out 5).trans rfl; have hcz46_6 : w45.cell? ⟨gb111, 6, none⟩ = some (.bool false) := (blk_cell BK111.out 6).trans rfl; have hcz46_7 : w45.cell? ⟨gb111, 7, none⟩ = some (.int .i64 a0_7) := (blk_cell BK111.out 7).trans rfl; have hcz46_8 : w45.cell? ⟨gb111, 8, none⟩ = some (.int .i64 a0_8) := (blk_cell BK111.out 8).trans rfl; have hfz46_0 := blk_frozen BK111.out 0; have hfz46_1 := blk_frozen BK111.out 1; have hfz46_2 := blk_frozen BK111.out 2; have hfz46_3 := blk_frozen BK111.out 3; have hfz46_4 := blk_frozen BK111.out 4; have hfz46_5 := blk_frozen BK111.out 5; have hfz46_6 := blk_frozen BK111.out 6; have hfz46_7 := blk_frozen BK111.out 7; have hfz46_8 := blk_frozen BK111.out 8))
            go_ret
            exact ⟨by first | rfl | (simp [errW_none, errW_some] <;> rfl) | (simp [*, errW_none, errW_some] <;> rfl), by repeat (first | (with_reducible first | exact HB.out | apply below_alloc | apply pw_below_drewN | apply below_drew1 | refine below_set ?_ GE111.out) | exact HB.out)⟩
          ·rw [if_neg c33] at H
           have c33b0 : decide (a0_5 ≤ 10000) = false := decide_eq_false c33
           clear c33
           obtain rfl := Option.some.inj H
           obtain ⟨⟨hcz47_0, hfz47_0⟩, ⟨hcz47_1, hfz47_1⟩, ⟨hcz47_2, hfz47_2⟩, ⟨hcz47_3, hfz47_3⟩, ⟨hcz47_4, hfz47_4⟩, ⟨hcz47_5, hfz47_5⟩, ⟨hcz47_6, hfz47_6⟩, ⟨hcz47_7, hfz47_7⟩, hcz47_8, hfz47_8⟩ := cs9_ BK111.out
           go_wp2_with (first | ((with_reducible refine gate_dst (N := 54) rfl ?_); refine Kd.R_lit k38 _ 38 ?hg (N := 54) ?hd (xs := ([(⟨a0_1, a0_2, a0_3, a0_4⟩ : S38)] : List (S38))) (inner := [.int .i64 a0_1, .int .i64 a0_2, .int .i64 a0_3, .int .i64 a0_4]) (ok := fun _ => True) (okp := fun _ => True) ?hr ?hp (fun _ hk => hk) trivial (Below.refl _ _) (Nat.le_refl _) (by simp) ?_; (case hd => rfl); (case hg => rfl); (case hr => first | (go_simp; done) | (go_simp; rfl)); (case hp => exact (Reps.c4 (show Kd.M k38 _ _ _ (⟨a0_1, a0_2, a0_3, a0_4⟩ : S38) [.int .i64 a0_1, .int .i64 a0_2, .int .i64 a0_3, .int .i64 a0_4] from (k38_mkM _ _ _ (⟨a0_1, a0_2, a0_3, a0_4⟩ : S38) )) (Reps.none _ _))); intro v114 w48 ho49 hb hg_ hnew_; clear hg_ hnew_; (first | rw [← Ny113.out] at ho49 | (simp only [Int.reduceToNat] at ho49; rw [← Ny113.out] at ho49)); have n0_ := Aside0.mk (Kd.R_lower ho49 (below_size (by repeat (first | (with_reducible first | exact HB.out | apply below_alloc | apply pw_below_drewN | apply below_drew1 | refine below_set ?_ GE111.out) | exact HB.out)))); have n1_ := Aside0.mk (kb_ BK111.out hb); have n2_ := Aside0.mk (below_step (by repeat (first | (with_reducible first | exact HB.out | apply below_alloc | apply pw_below_drewN | apply below_drew1 | refine below_set ?_ GE111.out) | exact HB.out)) hb); clear BK111; clear HB; have HO115 := n0_; have BK111 := n1_; have HB := n2_; clear n0_ n1_ n2_; clear hb ho49; obtain ⟨Ao50, co50, eo50⟩ := Kd.R_slice HO115.out; subst eo50) | ((with_reducible refine gate_callee (f := 27) rfl ?_); refine goesL_ (some 55) rfl rfl Try.func27 (by kernel_rfl) rfl #[.slice Ao50 y113.length co50] rfl (by (try simp only [List.map_toArray, List.map_cons, List.map_nil]); first | done | rfl | (simp only [List.length_drop, List.length_take]; rfl) | (simp only [*]; first | done | rfl)) ?_; (with_reducible refine (glue_May.calls kj1 _ _ y113 true _ ?side1 ?side2 A21.out).mono ?_); (case side1 => repeat (first | exact (Kd.R_reads' HO115.out).2.2 | (with_reducible refine Kd.C_alloc ?_ _) | (with_reducible refine Kd.C_drewN ?_ _) | (with_reducible refine Kd.C_drew ?_))); (case side2 => exact (Kd.R_reads' HO115.out).2.1); rintro e w51 ⟨rfl, hb⟩; refine ⟨_, rfl, ?_⟩; have n0_ := Aside0.mk (Kd.R_below (rv_ HO115.out) hb); have n1_ := Aside0.mk (kb_ BK111.out hb); have n2_ := Aside0.mk (below_step (by repeat (first | (with_reducible first | exact HB.out | apply below_alloc | apply pw_below_drewN | apply below_drew1 | refine below_set ?_ GE111.out) | exact HB.out)) hb); clear HO115; clear BK111; clear HB; have HO115 := n0_; have BK111 := n1_; have HB := n2_; clear n0_ n1_ n2_; (try clear hb); (try clear hb2); (try clear hk); (try clear hi); have hcz52_0 : w51.cell? ⟨gb111, 0, none⟩ = some (.int .i64 a0_0) := (blk_cell BK111.out 0).trans rfl; have hcz52_1 : w51.cell? ⟨gb111, 1, none⟩ = some (.int .i64 a0_1) := (blk_cell BK111.out 1).trans rfl; have hcz52_2 : w51.cell? ⟨gb111, 2, none⟩ = some (.int .i64 a0_2) := (blk_cell BK111.out 2).trans rfl; have hcz52_3 : w51.cell? ⟨gb111, 3, none⟩ = some (.int .i64 a0_3) := (blk_cell BK111.out 3).trans rfl; have hcz52_4 : w51.cell? ⟨gb111, 4, none⟩ = some (.int .i64 a0_4) := (blk_cell BK111.out 4).trans rfl; have hcz52_5 : w51.cell? ⟨gb111, 5, none⟩ = some (.int .i64 a0_5) := (blk_cell BK111.out 5).trans rfl; have hcz52_6 : w51.cell? ⟨gb111, 6, none⟩ = some (.bool false) := (blk_cell BK111.out 6).trans rfl; have hcz52_7 : w51.cell? ⟨gb111, 7, none⟩ = some (.int .i64 a0_7) := (blk_cell BK111.out 7).trans rfl; have hcz52_8 : w51.cell? ⟨gb111, 8, none⟩ = some (.int .i64 a0_8) := (blk_cell BK111.out 8).trans rfl; have hfz52_0 := blk_frozen BK111.out 0; have hfz52_1 := blk_frozen BK111.out 1; have hfz52_2 := blk_frozen BK111.out 2; have hfz52_3 := blk_frozen BK111.out 3; have hfz52_4 := blk_frozen BK111.out 4; have hfz52_5 := blk_frozen BK111.out 5; have hfz52_6 := blk_frozen BK111.out 6; have hfz52_7 := blk_frozen BK111.out 7; have hfz52_8 := blk_frozen BK111.out 8))
           go_ret
           exact ⟨by first | rfl | (simp [errW_none, errW_some] <;> rfl) | (simp [*, errW_none, errW_some] <;> rfl), by repeat (first | (with_reducible first | exact HB.out | apply below_alloc | apply pw_below_drewN | apply below_drew1 | refine below_set ?_ GE111.out) | exact HB.out)⟩
         ·rw [if_neg c32] at H
          have c32b0 : decide ((-10000) ≤ a0_5) = false := decide_eq_false c32
          clear c32
          obtain rfl := Option.some.inj H
          obtain ⟨⟨hcz53_0, hfz53_0⟩, ⟨hcz53_1, hfz53_1⟩, ⟨hcz53_2, hfz53_2⟩, ⟨hcz53_3, hfz53_3⟩, ⟨hcz53_4, hfz53_4⟩, ⟨hcz53_5, hfz53_5⟩, ⟨hcz53_6, hfz53_6⟩, ⟨hcz53_7, hfz53_7⟩, hcz53_8, hfz53_8⟩ := cs9_ BK111.out
          go_wp2_with (first | ((with_reducible refine gate_dst (N := 54) rfl ?_); refine Kd.R_lit k38 _ 38 ?hg (N := 54) ?hd (xs := ([(⟨a0_1, a0_2, a0_3, a0_4⟩ : S38)] : List (S38))) (inner := [.int .i64 a0_1, .int .i64 a0_2, .int .i64 a0_3, .int .i64 a0_4]) (ok := fun _ => True) (okp := fun _ => True) ?hr ?hp (fun _ hk => hk) trivial (Below.refl _ _) (Nat.le_refl _) (by simp) ?_; (case hd => rfl); (case hg => rfl); (case hr => first | (go_simp; done) | (go_simp; rfl)); (case hp => exact (Reps.c4 (show Kd.M k38 _ _ _ (⟨a0_1, a0_2, a0_3, a0_4⟩ : S38) [.int .i64 a0_1, .int .i64 a0_2, .int .i64 a0_3, .int .i64 a0_4] from (k38_mkM _ _ _ (⟨a0_1, a0_2, a0_3, a0_4⟩ : S38) )) (Reps.none _ _))); intro v114 w54 ho55 hb hg_ hnew_; clear hg_ hnew_; (first | rw [← Ny113.out] at ho55 | (simp only [Int.reduceToNat] at ho55; rw [← Ny113.out] at ho55)); have n0_ := Aside0.mk (Kd.R_lower ho55 (below_size (by repeat (first | (with_reducible first | exact HB.out | apply below_alloc | apply pw_below_drewN | apply below_drew1 | refine below_set ?_ GE111.out) | exact HB.out)))); have n1_ := Aside0.mk (kb_ BK111.out hb); have n2_ := Aside0.mk (below_step (by repeat (first | (with_reducible first | exact HB.out | apply below_alloc | apply pw_below_drewN | apply below_drew1 | refine below_set ?_ GE111.out) | exact HB.out)) hb); clear BK111; clear HB; have HO115 := n0_; have BK111 := n1_; have HB := n2_; clear n0_ n1_ n2_; clear hb ho55; obtain ⟨Ao56, co56, eo56⟩ := Kd.R_slice HO115.out; subst eo56) | ((with_reducible refine gate_callee (f := 27) rfl ?_); refine goesL_ (some 55) rfl rfl Try.func27 (by kernel_rfl) rfl #[.slice Ao56 y113.length co56] rfl (by (try simp only [List.map_toArray, List.map_cons, List.map_nil]); first | done | rfl | (simp only [List.length_drop, List.length_take]; rfl) | (simp only [*]; first | done | rfl)) ?_; (with_reducible refine (glue_May.calls kj1 _ _ y113 true _ ?side1 ?side2 A21.out).mono ?_); (case side1 => repeat (first | exact (Kd.R_reads' HO115.out).2.2 | (with_reducible refine Kd.C_alloc ?_ _) | (with_reducible refine Kd.C_drewN ?_ _) | (with_reducible refine Kd.C_drew ?_))); (case side2 => exact (Kd.R_reads' HO115.out).2.1); rintro e w57 ⟨rfl, hb⟩; refine ⟨_, rfl, ?_⟩; have n0_ := Aside0.mk (Kd.R_below (rv_ HO115.out) hb); have n1_ := Aside0.mk (kb_ BK111.out hb); have n2_ := Aside0.mk (below_step (by repeat (first | (with_reducible first | exact HB.out | apply below_alloc | apply pw_below_drewN | apply below_drew1 | refine below_set ?_ GE111.out) | exact HB.out)) hb); clear HO115; clear BK111; clear HB; have HO115 := n0_; have BK111 := n1_; have HB := n2_; clear n0_ n1_ n2_; (try clear hb); (try clear hb2); (try clear hk); (try clear hi); have hcz58_0 : w57.cell? ⟨gb111, 0, none⟩ = some (.int .i64 a0_0) := (blk_cell BK111.out 0).trans rfl; have hcz58_1 : w57.cell? ⟨gb111, 1, none⟩ = some (.int .i64 a0_1) := (blk_cell BK111.out 1).trans rfl; have hcz58_2 : w57.cell? ⟨gb111, 2, none⟩ = some (.int .i64 a0_2) := (blk_cell BK111.out 2).trans rfl; have hcz58_3 : w57.cell? ⟨gb111, 3, none⟩ = some (.int .i64 a0_3) := (blk_cell BK111.out 3).trans rfl; have hcz58_4 : w57.cell? ⟨gb111, 4, none⟩ = some (.int .i64 a0_4) := (blk_cell BK111.out 4).trans rfl; have hcz58_5 : w57.cell? ⟨gb111, 5, none⟩ = some (.int .i64 a0_5) := (blk_cell BK111.out 5).trans rfl; have hcz58_6 : w57.cell? ⟨gb111, 6, none⟩ = some (.bool false) := (blk_cell BK111.out 6).trans rfl; have hcz58_7 : w57.cell? ⟨gb111, 7, none⟩ = some (.int .i64 a0_7) := (blk_cell BK111.out 7).trans rfl; have hcz58_8 : w57.cell? ⟨gb111, 8, none⟩ = some (.int .i64 a0_8) := (blk_cell BK111.out 8).trans rfl; have hfz58_0 := blk_frozen BK111.out 0; have hfz58_1 := blk_frozen BK111.out 1; have hfz58_2 := blk_frozen BK111.out 2; have hfz58_3 := blk_frozen BK111.out 3; have hfz58_4 := blk_frozen BK111.out 4; have hfz58_5 := blk_frozen BK111.out 5; have hfz58_6 := blk_frozen BK111.out 6; have hfz58_7 := blk_frozen BK111.out 7; have hfz58_8 := blk_frozen BK111.out 8))
          go_ret
          exact ⟨by first | rfl | (simp [errW_none, errW_some] <;> rfl) | (simp [*, errW_none, errW_some] <;> rfl), by repeat (first | (with_reducible first | exact HB.out | apply below_alloc | apply pw_below_drewN | apply below_drew1 | refine below_set ?_ GE111.out) | exact HB.out)⟩
       ·rw [if_neg c24] at H
        have c24b0 : (a0_5 == 0) = false := beq_eq_false_iff_ne.mpr c24
        have c24b1 : (a0_5 != 0) = true := bne_iff_ne.mpr c24
        obtain rfl := Option.some.inj H
        obtain ⟨⟨hcz59_0, hfz59_0⟩, ⟨hcz59_1, hfz59_1⟩, ⟨hcz59_2, hfz59_2⟩, ⟨hcz59_3, hfz59_3⟩, ⟨hcz59_4, hfz59_4⟩, ⟨hcz59_5, hfz59_5⟩, ⟨hcz59_6, hfz59_6⟩, ⟨hcz59_7, hfz59_7⟩, hcz59_8, hfz59_8⟩ := cs9_ BK111.out
        go_wp2_with (first | ((with_reducible refine gate_dst (N := 54) rfl ?_); refine Kd.R_lit k38 _ 38 ?hg (N := 54) ?hd (xs := ([(⟨a0_1, a0_2, a0_3, a0_4⟩ : S38)] : List (S38))) (inner := [.int .i64 a0_1, .int .i64 a0_2, .int .i64 a0_3, .int .i64 a0_4]) (ok := fun _ => True) (okp := fun _ => True) ?hr ?hp (fun _ hk => hk) trivial (Below.refl _ _) (Nat.le_refl _) (by simp) ?_; (case hd => rfl); (case hg => rfl); (case hr => first | (go_simp; done) | (go_simp; rfl)); (case hp => exact (Reps.c4 (show Kd.M k38 _ _ _ (⟨a0_1, a0_2, a0_3, a0_4⟩ : S38) [.int .i64 a0_1, .int .i64 a0_2, .int .i64 a0_3, .int .i64 a0_4] from (k38_mkM _ _ _ (⟨a0_1, a0_2, a0_3, a0_4⟩ : S38) )) (Reps.none _ _))); intro v114 w60 ho61 hb hg_ hnew_; clear hg_ hnew_; (first | rw [← Ny113.out] at ho61 | (simp only [Int.reduceToNat] at ho61; rw [← Ny113.out] at ho61)); have n0_ := Aside0.mk (Kd.R_lower ho61 (below_size (by repeat (first | (with_reducible first | exact HB.out | apply below_alloc | apply pw_below_drewN | apply below_drew1 | refine below_set ?_ GE111.out) | exact HB.out)))); have n1_ := Aside0.mk (kb_ BK111.out hb); have n2_ := Aside0.mk (below_step (by repeat (first | (with_reducible first | exact HB.out | apply below_alloc | apply pw_below_drewN | apply below_drew1 | refine below_set ?_ GE111.out) | exact HB.out)) hb); clear BK111; clear HB; have HO115 := n0_; have BK111 := n1_; have HB := n2_; clear n0_ n1_ n2_; clear hb ho61; obtain ⟨Ao62, co62, eo62⟩ := Kd.R_slice HO115.out; subst eo62) | ((with_reducible refine gate_callee (f := 27) rfl ?_); refine goesL_ (some 55) rfl rfl Try.func27 (by kernel_rfl) rfl #[.slice Ao62 y113.length co62] rfl (by (try simp only [List.map_toArray, List.map_cons, List.map_nil]); first | done | rfl | (simp only [List.length_drop, List.length_take]; rfl) | (simp only [*]; first | done | rfl)) ?_; (with_reducible refine (glue_May.calls kj1 _ _ y113 true _ ?side1 ?side2 A21.out).mono ?_); (case side1 => repeat (first | exact (Kd.R_reads' HO115.out).2.2 | (with_reducible refine Kd.C_alloc ?_ _) | (with_reducible refine Kd.C_drewN ?_ _) | (with_reducible refine Kd.C_drew ?_))); (case side2 => exact (Kd.R_reads' HO115.out).2.1); rintro e w63 ⟨rfl, hb⟩; refine ⟨_, rfl, ?_⟩; have n0_ := Aside0.mk (Kd.R_below (rv_ HO115.out) hb); have n1_ := Aside0.mk (kb_ BK111.out hb); have n2_ := Aside0.mk (below_step (by repeat (first | (with_reducible first | exact HB.out | apply below_alloc | apply pw_below_drewN | apply below_drew1 | refine below_set ?_ GE111.out) | exact HB.out)) hb); clear HO115; clear BK111; clear HB; have HO115 := n0_; have BK111 := n1_; have HB := n2_; clear n0_ n1_ n2_; (try clear hb); (try clear hb2); (try clear hk); (try clear hi); have hcz64_0 : w63.cell? ⟨gb111, 0, none⟩ = some (.int .i64 a0_0) := (blk_cell BK111.out 0).trans rfl; have hcz64_1 : w63.cell? ⟨gb111, 1, none⟩ = some (.int .i64 a0_1) := (blk_cell BK111.out 1).trans rfl; have hcz64_2 : w63.cell? ⟨gb111, 2, none⟩ = some (.int .i64 a0_2) := (blk_cell BK111.out 2).trans rfl; have hcz64_3 : w63.cell? ⟨gb111, 3, none⟩ = some (.int .i64 a0_3) := (blk_cell BK111.out 3).trans rfl; have hcz64_4 : w63.cell? ⟨gb111, 4, none⟩ = some (.int .i64 a0_4) := (blk_cell BK111.out 4).trans rfl; have hcz64_5 : w63.cell? ⟨gb111, 5, none⟩ = some (.int .i64 a0_5) := (blk_cell BK111.out 5).trans rfl; have hcz64_6 : w63.cell? ⟨gb111, 6, none⟩ = some (.bool a0_6) := (blk_cell BK111.out 6).trans rfl; have hcz64_7 : w63.cell? ⟨gb111, 7, none⟩ = some (.int .i64 a0_7) := (blk_cell BK111.out 7).trans rfl; have hcz64_8 : w63.cell? ⟨gb111, 8, none⟩ = some (.int .i64 a0_8) := (blk_cell BK111.out 8).trans rfl; have hfz64_0 := blk_frozen BK111.out 0; have hfz64_1 := blk_frozen BK111.out 1; have hfz64_2 := blk_frozen BK111.out 2; have hfz64_3 := blk_frozen BK111.out 3; have hfz64_4 := blk_frozen BK111.out 4; have hfz64_5 := blk_frozen BK111.out 5; have hfz64_6 := blk_frozen BK111.out 6; have hfz64_7 := blk_frozen BK111.out 7; have hfz64_8 := blk_frozen BK111.out 8))
        go_ret
        exact ⟨by first | rfl | (simp [errW_none, errW_some] <;> rfl) | (simp [*, errW_none, errW_some] <;> rfl), by repeat (first | (with_reducible first | exact HB.out | apply below_alloc | apply pw_below_drewN | apply below_drew1 | refine below_set ?_ GE111.out) | exact HB.out)⟩
      ·rw [if_neg c23] at H
       have c23b0 : decide (a0_3 ≤ a0_1) = false := decide_eq_false c23
       clear c23
       obtain rfl := Option.some.inj H
       obtain ⟨⟨hcz65_0, hfz65_0⟩, ⟨hcz65_1, hfz65_1⟩, ⟨hcz65_2, hfz65_2⟩, ⟨hcz65_3, hfz65_3⟩, ⟨hcz65_4, hfz65_4⟩, ⟨hcz65_5, hfz65_5⟩, ⟨hcz65_6, hfz65_6⟩, ⟨hcz65_7, hfz65_7⟩, hcz65_8, hfz65_8⟩ := cs9_ BK111.out
       go_wp2_with (first | ((with_reducible refine gate_dst (N := 54) rfl ?_); refine Kd.R_lit k38 _ 38 ?hg (N := 54) ?hd (xs := ([(⟨a0_1, a0_2, a0_3, a0_4⟩ : S38)] : List (S38))) (inner := [.int .i64 a0_1, .int .i64 a0_2, .int .i64 a0_3, .int .i64 a0_4]) (ok := fun _ => True) (okp := fun _ => True) ?hr ?hp (fun _ hk => hk) trivial (Below.refl _ _) (Nat.le_refl _) (by simp) ?_; (case hd => rfl); (case hg => rfl); (case hr => first | (go_simp; done) | (go_simp; rfl)); (case hp => exact (Reps.c4 (show Kd.M k38 _ _ _ (⟨a0_1, a0_2, a0_3, a0_4⟩ : S38) [.int .i64 a0_1, .int .i64 a0_2, .int .i64 a0_3, .int .i64 a0_4] from (k38_mkM _ _ _ (⟨a0_1, a0_2, a0_3, a0_4⟩ : S38) )) (Reps.none _ _))); intro v114 w66 ho67 hb hg_ hnew_; clear hg_ hnew_; (first | rw [← Ny113.out] at ho67 | (simp only [Int.reduceToNat] at ho67; rw [← Ny113.out] at ho67)); have n0_ := Aside0.mk (Kd.R_lower ho67 (below_size (by repeat (first | (with_reducible first | exact HB.out | apply below_alloc | apply pw_below_drewN | apply below_drew1 | refine below_set ?_ GE111.out) | exact HB.out)))); have n1_ := Aside0.mk (kb_ BK111.out hb); have n2_ := Aside0.mk (below_step (by repeat (first | (with_reducible first | exact HB.out | apply below_alloc | apply pw_below_drewN | apply below_drew1 | refine below_set ?_ GE111.out) | exact HB.out)) hb); clear BK111; clear HB; have HO115 := n0_; have BK111 := n1_; have HB := n2_; clear n0_ n1_ n2_; clear hb ho67; obtain ⟨Ao68, co68, eo68⟩ := Kd.R_slice HO115.out; subst eo68) | ((with_reducible refine gate_callee (f := 27) rfl ?_); refine goesL_ (some 55) rfl rfl Try.func27 (by kernel_rfl) rfl #[.slice Ao68 y113.length co68] rfl (by (try simp only [List.map_toArray, List.map_cons, List.map_nil]); first | done | rfl | (simp only [List.length_drop, List.length_take]; rfl) | (simp only [*]; first | done | rfl)) ?_; (with_reducible refine (glue_May.calls kj1 _ _ y113 true _ ?side1 ?side2 A21.out).mono ?_); (case side1 => repeat (first | exact (Kd.R_reads' HO115.out).2.2 | (with_reducible refine Kd.C_alloc ?_ _) | (with_reducible refine Kd.C_drewN ?_ _) | (with_reducible refine Kd.C_drew ?_))); (case side2 => exact (Kd.R_reads' HO115.out).2.1); rintro e w69 ⟨rfl, hb⟩; refine ⟨_, rfl, ?_⟩; have n0_ := Aside0.mk (Kd.R_below (rv_ HO115.out) hb); have n1_ := Aside0.mk (kb_ BK111.out hb); have n2_ := Aside0.mk (below_step (by repeat (first | (with_reducible first | exact HB.out | apply below_alloc | apply pw_below_drewN | apply below_drew1 | refine below_set ?_ GE111.out) | exact HB.out)) hb); clear HO115; clear BK111; clear HB; have HO115 := n0_; have BK111 := n1_; have HB := n2_; clear n0_ n1_ n2_; (try clear hb); (try clear hb2); (try clear hk); (try clear hi); have hcz70_0 : w69.cell? ⟨gb111, 0, none⟩ = some (.int .i64 a0_0) := (blk_cell BK111.out 0).trans rfl; have hcz70_1 : w69.cell? ⟨gb111, 1, none⟩ = some (.int .i64 a0_1) := (blk_cell BK111.out 1).trans rfl; have hcz70_2 : w69.cell? ⟨gb111, 2, none⟩ = some (.int .i64 a0_2) := (blk_cell BK111.out 2).trans rfl; have hcz70_3 : w69.cell? ⟨gb111, 3, none⟩ = some (.int .i64 a0_3) := (blk_cell BK111.out 3).trans rfl; have hcz70_4 : w69.cell? ⟨gb111, 4, none⟩ = some (.int .i64 a0_4) := (blk_cell BK111.out 4).trans rfl; have hcz70_5 : w69.cell? ⟨gb111, 5, none⟩ = some (.int .i64 a0_5) := (blk_cell BK111.out 5).trans rfl; have hcz70_6 : w69.cell? ⟨gb111, 6, none⟩ = some (.bool a0_6) := (blk_cell BK111.out 6).trans rfl; have hcz70_7 : w69.cell? ⟨gb111, 7, none⟩ = some (.int .i64 a0_7) := (blk_cell BK111.out 7).trans rfl; have hcz70_8 : w69.cell? ⟨gb111, 8, none⟩ = some (.int .i64 a0_8) := (blk_cell BK111.out 8).trans rfl; have hfz70_0 := blk_frozen BK111.out 0; have hfz70_1 := blk_frozen BK111.out 1; have hfz70_2 := blk_frozen BK111.out 2; have hfz70_3 := blk_frozen BK111.out 3; have hfz70_4 := blk_frozen BK111.out 4; have hfz70_5 := blk_frozen BK111.out 5; have hfz70_6 := blk_frozen BK111.out 6; have hfz70_7 := blk_frozen BK111.out 7; have hfz70_8 := blk_frozen BK111.out 8))
       go_ret
       exact ⟨by first | rfl | (simp [errW_none, errW_some] <;> rfl) | (simp [*, errW_none, errW_some] <;> rfl), by repeat (first | (with_reducible first | exact HB.out | apply below_alloc | apply pw_below_drewN | apply below_drew1 | refine below_set ?_ GE111.out) | exact HB.out)⟩
     ·replace c22 := Bool.eq_false_iff.mpr c22
      subst c22
      have H1 : (some false) = some r := by rw [if_neg (show ¬ (false = true) by decide)] at H; exact H
      clear H
      have H := H1
      clear H1
      obtain rfl := Option.some.inj H
      obtain ⟨⟨hcz71_0, hfz71_0⟩, ⟨hcz71_1, hfz71_1⟩, ⟨hcz71_2, hfz71_2⟩, ⟨hcz71_3, hfz71_3⟩, ⟨hcz71_4, hfz71_4⟩, ⟨hcz71_5, hfz71_5⟩, ⟨hcz71_6, hfz71_6⟩, ⟨hcz71_7, hfz71_7⟩, hcz71_8, hfz71_8⟩ := cs9_ BK111.out
      go_wp2_with (first | ((with_reducible refine gate_dst (N := 54) rfl ?_); refine Kd.R_lit k38 _ 38 ?hg (N := 54) ?hd (xs := ([(⟨a0_1, a0_2, a0_3, a0_4⟩ : S38)] : List (S38))) (inner := [.int .i64 a0_1, .int .i64 a0_2, .int .i64 a0_3, .int .i64 a0_4]) (ok := fun _ => True) (okp := fun _ => True) ?hr ?hp (fun _ hk => hk) trivial (Below.refl _ _) (Nat.le_refl _) (by simp) ?_; (case hd => rfl); (case hg => rfl); (case hr => first | (go_simp; done) | (go_simp; rfl)); (case hp => exact (Reps.c4 (show Kd.M k38 _ _ _ (⟨a0_1, a0_2, a0_3, a0_4⟩ : S38) [.int .i64 a0_1, .int .i64 a0_2, .int .i64 a0_3, .int .i64 a0_4] from (k38_mkM _ _ _ (⟨a0_1, a0_2, a0_3, a0_4⟩ : S38) )) (Reps.none _ _))); intro v114 w72 ho73 hb hg_ hnew_; clear hg_ hnew_; (first | rw [← Ny113.out] at ho73 | (simp only [Int.reduceToNat] at ho73; rw [← Ny113.out] at ho73)); have n0_ := Aside0.mk (Kd.R_lower ho73 (below_size (by repeat (first | (with_reducible first | exact HB.out | apply below_alloc | apply pw_below_drewN | apply below_drew1 | refine below_set ?_ GE111.out) | exact HB.out)))); have n1_ := Aside0.mk (kb_ BK111.out hb); have n2_ := Aside0.mk (below_step (by repeat (first | (with_reducible first | exact HB.out | apply below_alloc | apply pw_below_drewN | apply below_drew1 | refine below_set ?_ GE111.out) | exact HB.out)) hb); clear BK111; clear HB; have HO115 := n0_; have BK111 := n1_; have HB := n2_; clear n0_ n1_ n2_; clear hb ho73; obtain ⟨Ao74, co74, eo74⟩ := Kd.R_slice HO115.out; subst eo74) | ((with_reducible refine gate_callee (f := 27) rfl ?_); refine goesL_ (some 55) rfl rfl Try.func27 (by kernel_rfl) rfl #[.slice Ao74 y113.length co74] rfl (by (try simp only [List.map_toArray, List.map_cons, List.map_nil]); first | done | rfl | (simp only [List.length_drop, List.length_take]; rfl) | (simp only [*]; first | done | rfl)) ?_; (with_reducible refine (glue_May.calls kj1 _ _ y113 false _ ?side1 ?side2 A21.out).mono ?_); (case side1 => repeat (first | exact (Kd.R_reads' HO115.out).2.2 | (with_reducible refine Kd.C_alloc ?_ _) | (with_reducible refine Kd.C_drewN ?_ _) | (with_reducible refine Kd.C_drew ?_))); (case side2 => exact (Kd.R_reads' HO115.out).2.1); rintro e w75 ⟨rfl, hb⟩; refine ⟨_, rfl, ?_⟩; have n0_ := Aside0.mk (Kd.R_below (rv_ HO115.out) hb); have n1_ := Aside0.mk (kb_ BK111.out hb); have n2_ := Aside0.mk (below_step (by repeat (first | (with_reducible first | exact HB.out | apply below_alloc | apply pw_below_drewN | apply below_drew1 | refine below_set ?_ GE111.out) | exact HB.out)) hb); clear HO115; clear BK111; clear HB; have HO115 := n0_; have BK111 := n1_; have HB := n2_; clear n0_ n1_ n2_; (try clear hb); (try clear hb2); (try clear hk); (try clear hi)))
      go_ret
      exact ⟨by first | rfl | (simp [errW_none, errW_some] <;> rfl) | (simp [*, errW_none, errW_some] <;> rfl), by repeat (first | (with_reducible first | exact HB.out | apply below_alloc | apply pw_below_drewN | apply below_drew1 | refine below_set ?_ GE111.out) | exact HB.out)⟩
    ·rw [if_neg c20] at H
     have c20b0 : (a0_0 == 1) = false := beq_eq_false_iff_ne.mpr c20
     have c20b1 : (a0_0 != 1) = true := bne_iff_ne.mpr c20
     by_cases c76 : a0_0 = 2
     ·rw [if_pos c76] at H
      have c76b0 : (a0_0 == 2) = true := beq_iff_eq.mpr c76
      have c76b1 : (a0_0 != 2) = false := bne_eq_false_iff_eq.mpr c76
      clear c76
      by_cases c77 : x3_1 = true
      ·subst c77
       have H1 : (if a0_5 ≥ (-10000) then (if a0_5 ≤ 10000 then (if a0_7 = 0 then (some (a0_8 == 0)) else (some false)) else (some false)) else (some false)) = some r := by rw [if_pos rfl] at H; exact H
       clear H
       have H := H1
       clear H1
       by_cases c78 : a0_5 ≥ (-10000)
       ·rw [if_pos c78] at H
        have c78b0 : decide ((-10000) ≤ a0_5) = true := decide_eq_true c78
        clear c78
        by_cases c79 : a0_5 ≤ 10000
        ·rw [if_pos c79] at H
         have c79b0 : decide (a0_5 ≤ 10000) = true := decide_eq_true c79
         clear c79
         by_cases c80 : a0_7 = 0
         ·rw [if_pos c80] at H
          have c80b0 : (a0_7 == 0) = true := beq_iff_eq.mpr c80
          have c80b1 : (a0_7 != 0) = false := bne_eq_false_iff_eq.mpr c80
          clear c80
          obtain rfl := Option.some.inj H
          obtain ⟨⟨hcz81_0, hfz81_0⟩, ⟨hcz81_1, hfz81_1⟩, ⟨hcz81_2, hfz81_2⟩, ⟨hcz81_3, hfz81_3⟩, ⟨hcz81_4, hfz81_4⟩, ⟨hcz81_5, hfz81_5⟩, ⟨hcz81_6, hfz81_6⟩, ⟨hcz81_7, hfz81_7⟩, hcz81_8, hfz81_8⟩ := cs9_ BK111.out
          go_wp2
          go_ret
          exact ⟨by first | rfl | (simp [errW_none, errW_some] <;> rfl) | (simp [*, errW_none, errW_some] <;> rfl), by repeat (first | (with_reducible first | exact HB.out | apply below_alloc | apply pw_below_drewN | apply below_drew1 | refine below_set ?_ GE111.out) | exact HB.out)⟩
         ·rw [if_neg c80] at H
          have c80b0 : (a0_7 == 0) = false := beq_eq_false_iff_ne.mpr c80
          have c80b1 : (a0_7 != 0) = true := bne_iff_ne.mpr c80
          obtain rfl := Option.some.inj H
          obtain ⟨⟨hcz82_0, hfz82_0⟩, ⟨hcz82_1, hfz82_1⟩, ⟨hcz82_2, hfz82_2⟩, ⟨hcz82_3, hfz82_3⟩, ⟨hcz82_4, hfz82_4⟩, ⟨hcz82_5, hfz82_5⟩, ⟨hcz82_6, hfz82_6⟩, ⟨hcz82_7, hfz82_7⟩, hcz82_8, hfz82_8⟩ := cs9_ BK111.out
          go_wp2
          go_ret
          exact ⟨by first | rfl | (simp [errW_none, errW_some] <;> rfl) | (simp [*, errW_none, errW_some] <;> rfl), by repeat (first | (with_reducible first | exact HB.out | apply below_alloc | apply pw_below_drewN | apply below_drew1 | refine below_set ?_ GE111.out) | exact HB.out)⟩
        ·rw [if_neg c79] at H
         have c79b0 : decide (a0_5 ≤ 10000) = false := decide_eq_false c79
         clear c79
         obtain rfl := Option.some.inj H
         obtain ⟨⟨hcz83_0, hfz83_0⟩, ⟨hcz83_1, hfz83_1⟩, ⟨hcz83_2, hfz83_2⟩, ⟨hcz83_3, hfz83_3⟩, ⟨hcz83_4, hfz83_4⟩, ⟨hcz83_5, hfz83_5⟩, ⟨hcz83_6, hfz83_6⟩, ⟨hcz83_7, hfz83_7⟩, hcz83_8, hfz83_8⟩ := cs9_ BK111.out
         go_wp2
         go_ret
         exact ⟨by first | rfl | (simp [errW_none, errW_some] <;> rfl) | (simp [*, errW_none, errW_some] <;> rfl), by repeat (first | (with_reducible first | exact HB.out | apply below_alloc | apply pw_below_drewN | apply below_drew1 | refine below_set ?_ GE111.out) | exact HB.out)⟩
       ·rw [if_neg c78] at H
        have c78b0 : decide ((-10000) ≤ a0_5) = false := decide_eq_false c78
        clear c78
        obtain rfl := Option.some.inj H
        obtain ⟨⟨hcz84_0, hfz84_0⟩, ⟨hcz84_1, hfz84_1⟩, ⟨hcz84_2, hfz84_2⟩, ⟨hcz84_3, hfz84_3⟩, ⟨hcz84_4, hfz84_4⟩, ⟨hcz84_5, hfz84_5⟩, ⟨hcz84_6, hfz84_6⟩, ⟨hcz84_7, hfz84_7⟩, hcz84_8, hfz84_8⟩ := cs9_ BK111.out
        go_wp2
        go_ret
        exact ⟨by first | rfl | (simp [errW_none, errW_some] <;> rfl) | (simp [*, errW_none, errW_some] <;> rfl), by repeat (first | (with_reducible first | exact HB.out | apply below_alloc | apply pw_below_drewN | apply below_drew1 | refine below_set ?_ GE111.out) | exact HB.out)⟩
      ·replace c77 := Bool.eq_false_iff.mpr c77
       subst c77
       have H1 : (some false) = some r := by rw [if_neg (show ¬ (false = true) by decide)] at H; exact H
       clear H
       have H := H1
       clear H1
       obtain rfl := Option.some.inj H
       obtain ⟨⟨hcz85_0, hfz85_0⟩, ⟨hcz85_1, hfz85_1⟩, ⟨hcz85_2, hfz85_2⟩, ⟨hcz85_3, hfz85_3⟩, ⟨hcz85_4, hfz85_4⟩, ⟨hcz85_5, hfz85_5⟩, ⟨hcz85_6, hfz85_6⟩, ⟨hcz85_7, hfz85_7⟩, hcz85_8, hfz85_8⟩ := cs9_ BK111.out
       go_wp2
       go_ret
       exact ⟨by first | rfl | (simp [errW_none, errW_some] <;> rfl) | (simp [*, errW_none, errW_some] <;> rfl), by repeat (first | (with_reducible first | exact HB.out | apply below_alloc | apply pw_below_drewN | apply below_drew1 | refine below_set ?_ GE111.out) | exact HB.out)⟩
     ·rw [if_neg c76] at H
      have c76b0 : (a0_0 == 2) = false := beq_eq_false_iff_ne.mpr c76
      have c76b1 : (a0_0 != 2) = true := bne_iff_ne.mpr c76
      obtain rfl := Option.some.inj H
      obtain ⟨⟨hcz86_0, hfz86_0⟩, ⟨hcz86_1, hfz86_1⟩, ⟨hcz86_2, hfz86_2⟩, ⟨hcz86_3, hfz86_3⟩, ⟨hcz86_4, hfz86_4⟩, ⟨hcz86_5, hfz86_5⟩, ⟨hcz86_6, hfz86_6⟩, ⟨hcz86_7, hfz86_7⟩, hcz86_8, hfz86_8⟩ := cs9_ BK111.out
      go_wp2
      go_ret
      exact ⟨by first | rfl | (simp [errW_none, errW_some] <;> rfl) | (simp [*, errW_none, errW_some] <;> rfl), by repeat (first | (with_reducible first | exact HB.out | apply below_alloc | apply pw_below_drewN | apply below_drew1 | refine below_set ?_ GE111.out) | exact HB.out)⟩

end Go.Proofs.Ytpfnfofaajpdmaa.PKe

/- Written by a program of this session: functions of the given program as plain Lean functions, the walks that show it, and the row of each law, for every input that its statement speaks of. -/
import Derived.Test.YtpfnfofaajpdmaaPLnx0
import Derived.Test.YtpfnfofaajpdmaaPLnx1
import Derived.Test.YtpfnfofaajpdmaaPLnx12
import Derived.Test.YtpfnfofaajpdmaaPLnx21
namespace Go.Proofs.Ytpfnfofaajpdmaa.PLn
open Go.RowKit Go.Proofs.YtpfnfofaajpdmaaW.PrintWords Go.Proofs.YtpfnfofaajpdmaaW.PrintLast Go.Proofs.YtpfnfofaajpdmaaW.PrintMore
attribute [local go_sem] max2_int min2_int max_two min_two max_three min_three max_four min_four   -- for this text's walks alone
set_option linter.unusedVariables false
set_option linter.unusedSimpArgs false

attribute [local go_sem high] eqA28
/-! ### variorumlaw12_SetterLines: function 3 -/
def variorumlaw12_SetterLines.j0 : Nat → List (S40) → List Int → Int → Bool → Option (Bool)
 | 0, _, _, _, _ => none
 | k + 1, x0, x1, x2, x18 => if x18 = true then ((variorumlaw12_fixed.f k).bind fun t492 => (some t492)) else ((setter_Lines.f k x0 x1 x2).bind fun bt493 => ((variorumref12_Lines.f k x0 x1 x2).bind fun bt499 => ((variorumlaw12_fixed.f k).bind fun t505 => (if t505 = true then ((variorumref12_Same.f k bt493.1 bt499.1).bind fun t506 => (if t506 = true then (if (bt493.2.1 == bt499.2.1 && (bt493.2.2 == bt499.2.2)) = true then ((setter_Words.f k bt493.1).bind fun t507 => ((variorumref12_Words.f k bt499.1).bind fun t510 => ((variorumref12_Placed.f k t507 t510).bind fun t513 => (some t513)))) else (none)) else (none))) else (none)))))
def variorumlaw12_SetterLines.f (k : Nat) (l0 : List (S40)) (l1 : List Int) (a2 : Int) : Option (Bool) := if (l0.length : Int) > 300 then (variorumlaw12_SetterLines.j0 k l0 l1 a2 true) else (variorumlaw12_SetterLines.j0 k l0 l1 a2 (decide ((l1.length : Int) > 100)))
theorem variorumlaw12_SetterLines.mono_l : ∀ k, (∀ y0 y1 y2 y3, LeO (variorumlaw12_SetterLines.j0 k y0 y1 y2 y3) (variorumlaw12_SetterLines.j0 (k + 1) y0 y1 y2 y3))
 | 0 => fun _ _ _ _ r h => by simp [variorumlaw12_SetterLines.j0] at h
 | k + 1 => by
  have ih0 := variorumlaw12_SetterLines.mono_l k
  ·intro y0 y1 y2 y3
   unfold variorumlaw12_SetterLines.j0
   repeat' first | (with_reducible first | exact ih0 _ _ _ _ | exact setter_Lines.mono _ _ _ _ | exact setter_Words.mono _ _ | exact variorumlaw12_fixed.mono _ | exact variorumref12_Lines.mono _ _ _ _ | exact variorumref12_Placed.mono _ _ _ | exact variorumref12_Same.mono _ _ _ | exact variorumref12_Words.mono _ _ | exact LeO.refl _ | exact LeO.none _ | refine LeO.ite ?_ ?_ | refine LeO.bind ?_ (fun _ => ?_)) | exact LeO.none _ | refine LeO.ite ?_ ?_ | refine LeO.bind ?_ (fun _ => ?_)
theorem variorumlaw12_SetterLines.mono : ∀ a0 a1 a2 k, LeO (variorumlaw12_SetterLines.f k a0 a1 a2) (variorumlaw12_SetterLines.f (k + 1) a0 a1 a2) := by
 intro a0 a1 a2 k
 have ih0 := variorumlaw12_SetterLines.mono_l k
 unfold variorumlaw12_SetterLines.f
 repeat' first
   | (with_reducible exact ih0 _ _ _ _)
   | (with_reducible exact setter_Lines.mono _ _ _ _)
   | (with_reducible exact setter_Words.mono _ _)
   | (with_reducible exact variorumlaw12_fixed.mono _)
   | (with_reducible exact variorumref12_Lines.mono _ _ _ _)
   | (with_reducible exact variorumref12_Placed.mono _ _ _)
   | (with_reducible exact variorumref12_Same.mono _ _ _)
   | (with_reducible exact variorumref12_Words.mono _ _)
   | (with_reducible exact LeO.refl _)
   | (with_reducible exact LeO.none _)
   | (with_reducible refine LeO.ite ?_ ?_)
   | (with_reducible refine LeO.bind ?_ (fun _ => ?_))
   | exact ih0 _ _ _ _
   | exact setter_Lines.mono _ _ _ _
   | exact setter_Words.mono _ _
   | exact variorumlaw12_fixed.mono _
   | exact variorumref12_Lines.mono _ _ _ _
   | exact variorumref12_Placed.mono _ _ _
   | exact variorumref12_Same.mono _ _ _
   | exact variorumref12_Words.mono _ _
   | exact LeO.none _
   | refine LeO.ite ?_ ?_
   | refine LeO.bind ?_ (fun _ => ?_)
set_option maxHeartbeats 8000000 in
set_option maxRecDepth 100000 in
theorem variorumlaw12_SetterLines.calls (k : Nat) (A0 : Option Addr) (c0 : Nat) (l0 : List (S40)) (A1 : Option Addr) (c1 : Nat) (l1 : List Int) (a2 : Int) (r : Bool) (w : World) (hr0 : Kd.C k40 w A0 l0.length l0) (hc0 : l0.length ≤ c0) (hr1 : Kd.C (Kd.int .i64) w A1 l1.length l1) (hc1 : l1.length ≤ c1) (h : variorumlaw12_SetterLines.f k l0 l1 a2 = some r) :
  Calls Try.prog 3 #[.slice A0 l0.length c0, .slice A1 l1.length c1, .int .i64 a2] w fun e w' => e = .returned (.bool r) ∧ Below w.heap.size w w' := by
 have hu28 := Try.underlying28
 have HR0 := a_ hr0
 have HC0 := a_ hc0
 clear hr0 hc0
 have HR1 := a_ hr1
 have HC1 := a_ hc1
 clear hr1 hc1
 have HB := a_ (Below.refl w.heap.size w)
 have H : (if (l0.length : Int) > 300 then (variorumlaw12_SetterLines.j0 k l0 l1 a2 true) else (variorumlaw12_SetterLines.j0 k l0 l1 a2 (decide ((l1.length : Int) > 100)))) = some r := h
 clear h
 have HC4 := a_ H
 clear H
 go_enter Try.func3, Try.ntmps3
 go_upto_region 1 with (fail)
 go_cut [18] (fun v18 wc => ∃ (kq : Nat) (x18_3 : Bool), v18 = .bool x18_3 ∧ Aside0 (variorumlaw12_SetterLines.j0 kq l0 l1 a2 x18_3 = some r) ∧ Aside0 (kq ≤ k) ∧ Aside0 (Below w.heap.size w wc))
 case first =>
  have H := HC4.out
  clear HC4
  by_cases c5 : (l0.length : Int) > 300
  ·rw [if_pos c5] at H
   have c5b0 : decide (300 < (l0.length : Int)) = true := decide_eq_true c5
   have c5b1 : decide (300 < l0.length) = true := decide_eq_true (by omega)
   clear c5
   (first | rw [c5b0] | (simp only [i64_w, i32_w]; rw [c5b0]) | skip)
   have H' := a_ H
   clear H
   go_wp2
   go_meet
   case rel => exact ⟨_, (true), (by first | rfl | (simp; done) | (simp [*]; done)), H', ⟨by first | omega | exact Nat.le_refl _⟩, ⟨bv_ HB.out⟩⟩
  ·rw [if_neg c5] at H
   have c5b0 : decide (300 < (l0.length : Int)) = false := decide_eq_false c5
   have c5b1 : decide (300 < l0.length) = false := decide_eq_false (by omega)
   clear c5
   (first | rw [c5b0] | (simp only [i64_w, i32_w]; rw [c5b0]) | skip)
   have H' := a_ H
   clear H
   go_wp2
   go_meet
   case rel => exact ⟨_, (decide ((l1.length : Int) > 100)), (by first | rfl | (simp; done) | (simp [*]; done)), H', ⟨by first | omega | exact Nat.le_refl _⟩, ⟨bv_ HB.out⟩⟩
 case rest =>
  clear HC4
  try clear c1
  try clear p2
  try clear c3
  try clear c5
  try clear c5b0
  try clear c5b1
  obtain ⟨kq, x18_3, rfl, HA, HJ3, HB⟩ := hcut
  cases kq with
  | zero => exact absurd HA.out (by simp [variorumlaw12_SetterLines.j0])
  | succ kj3 =>
   have H := HA.out
   clear HA
   simp only [variorumlaw12_SetterLines.j0] at H
   by_cases c6 : x18_3 = true
   ·subst c6
    have H1 : ((variorumlaw12_fixed.f kj3).bind fun t492 => (some t492)) = some r := by rw [if_pos rfl] at H; exact H
    clear H
    have H := H1
    clear H1
    replace H := Option.bind_eq_some_iff.mp H
    obtain ⟨t492, A70, H⟩ := H
    replace H : (some t492) = some r := H
    have A7 := a_ A70
    clear A70
    obtain rfl := Option.some.inj H
    go_wp2_with (first | ((with_reducible refine gate_callee (f := 7) rfl ?_); refine gl_ (some 19) Try.func7 (by kernel_rfl) #[] ?_; (with_reducible refine (variorumlaw12_fixed.calls kj3  t492 _ A7.out).mono ?_); rintro e w8 ⟨rfl, hb⟩; refine ⟨_, rfl, ?_⟩; have n0_ := a_ (bs_ HB.out hb); clear HB; have HB := n0_; clear n0_; (try clear hb); (try clear hb2); (try clear hk); (try clear hi)))
    go_ret
    exact ⟨by first | rfl | (simp [errW_none, errW_some] <;> rfl) | (simp [*, errW_none, errW_some] <;> rfl), bv_ HB.out⟩
   ·replace c6 := Bool.eq_false_iff.mpr c6
    subst c6
    have H1 : ((setter_Lines.f kj3 l0 l1 a2).bind fun bt493 => ((variorumref12_Lines.f kj3 l0 l1 a2).bind fun bt499 => ((variorumlaw12_fixed.f kj3).bind fun t505 => (if t505 = true then ((variorumref12_Same.f kj3 bt493.1 bt499.1).bind fun t506 => (if t506 = true then (if (bt493.2.1 == bt499.2.1 && (bt493.2.2 == bt499.2.2)) = true then ((setter_Words.f kj3 bt493.1).bind fun t507 => ((variorumref12_Words.f kj3 bt499.1).bind fun t510 => ((variorumref12_Placed.f kj3 t507 t510).bind fun t513 => (some t513)))) else (none)) else (none))) else (none))))) = some r := by rw [if_neg (show ¬ (false = true) by decide)] at H; exact H
    clear H
    have H := H1
    clear H1
    replace H := Option.bind_eq_some_iff.mp H
    obtain ⟨⟨t493, t496, t497⟩, A90, H⟩ := H
    replace H : ((variorumref12_Lines.f kj3 l0 l1 a2).bind fun bt499 => ((variorumlaw12_fixed.f kj3).bind fun t505 => (if t505 = true then ((variorumref12_Same.f kj3 t493 bt499.1).bind fun t506 => (if t506 = true then (if (t496 == bt499.2.1 && (t497 == bt499.2.2)) = true then ((setter_Words.f kj3 t493).bind fun t507 => ((variorumref12_Words.f kj3 bt499.1).bind fun t510 => ((variorumref12_Placed.f kj3 t507 t510).bind fun t513 => (some t513)))) else (none)) else (none))) else (none)))) = some r := H
    have A9 := a_ A90
    clear A90
    replace H := Option.bind_eq_some_iff.mp H
    obtain ⟨⟨t499, t502, t503⟩, A100, H⟩ := H
    replace H : ((variorumlaw12_fixed.f kj3).bind fun t505 => (if t505 = true then ((variorumref12_Same.f kj3 t493 t499).bind fun t506 => (if t506 = true then (if (t496 == t502 && (t497 == t503)) = true then ((setter_Words.f kj3 t493).bind fun t507 => ((variorumref12_Words.f kj3 t499).bind fun t510 => ((variorumref12_Placed.f kj3 t507 t510).bind fun t513 => (some t513)))) else (none)) else (none))) else (none))) = some r := H
    have A10 := a_ A100
    clear A100
    replace H := Option.bind_eq_some_iff.mp H
    obtain ⟨t505, A110, H⟩ := H
    replace H : (if t505 = true then ((variorumref12_Same.f kj3 t493 t499).bind fun t506 => (if t506 = true then (if (t496 == t502 && (t497 == t503)) = true then ((setter_Words.f kj3 t493).bind fun t507 => ((variorumref12_Words.f kj3 t499).bind fun t510 => ((variorumref12_Placed.f kj3 t507 t510).bind fun t513 => (some t513)))) else (none)) else (none))) else (none)) = some r := H
    have A11 := a_ A110
    clear A110
    by_cases c12 : t505 = true
    ·subst c12
     have H1 : ((variorumref12_Same.f kj3 t493 t499).bind fun t506 => (if t506 = true then (if (t496 == t502 && (t497 == t503)) = true then ((setter_Words.f kj3 t493).bind fun t507 => ((variorumref12_Words.f kj3 t499).bind fun t510 => ((variorumref12_Placed.f kj3 t507 t510).bind fun t513 => (some t513)))) else (none)) else (none))) = some r := by rw [if_pos rfl] at H; exact H
     clear H
     have H := H1
     clear H1
     replace H := Option.bind_eq_some_iff.mp H
     obtain ⟨t506, A130, H⟩ := H
     replace H : (if t506 = true then (if (t496 == t502 && (t497 == t503)) = true then ((setter_Words.f kj3 t493).bind fun t507 => ((variorumref12_Words.f kj3 t499).bind fun t510 => ((variorumref12_Placed.f kj3 t507 t510).bind fun t513 => (some t513)))) else (none)) else (none)) = some r := H
     have A13 := a_ A130
     clear A130
     by_cases c14 : t506 = true
     ·subst c14
      have H1 : (if (t496 == t502 && (t497 == t503)) = true then ((setter_Words.f kj3 t493).bind fun t507 => ((variorumref12_Words.f kj3 t499).bind fun t510 => ((variorumref12_Placed.f kj3 t507 t510).bind fun t513 => (some t513)))) else (none)) = some r := by rw [if_pos rfl] at H; exact H
      clear H
      have H := H1
      clear H1
      by_cases c15 : (t496 == t502 && (t497 == t503)) = true
      ·rw [if_pos c15] at H
       have c15b0 : (t496 == t502 && (t497 == t503)) = true := c15
       (try (have c15b1 : decide (t496 = t502 && (t497 == t503)) = true := by simpa using c15))
       (try (have c15b2 : (t496 == t502 && (t497 == t503)) = true := by simpa using c15))
       clear c15
       replace H := Option.bind_eq_some_iff.mp H
       obtain ⟨t507, A160, H⟩ := H
       replace H : ((variorumref12_Words.f kj3 t499).bind fun t510 => ((variorumref12_Placed.f kj3 t507 t510).bind fun t513 => (some t513))) = some r := H
       have A16 := a_ A160
       clear A160
       replace H := Option.bind_eq_some_iff.mp H
       obtain ⟨t510, A170, H⟩ := H
       replace H : ((variorumref12_Placed.f kj3 t507 t510).bind fun t513 => (some t513)) = some r := H
       have A17 := a_ A170
       clear A170
       replace H := Option.bind_eq_some_iff.mp H
       obtain ⟨t513, A180, H⟩ := H
       replace H : (some t513) = some r := H
       have A18 := a_ A180
       clear A180
       obtain rfl := Option.some.inj H
       go_wp2_with (first | ((with_reducible refine gate_callee (f := 8) rfl ?_); refine gl_ (some 24) Try.func8 (by kernel_rfl) #[.slice A0 l0.length c0, .slice A1 l1.length c1, .int .i64 a2] ?_; (with_reducible refine (setter_Lines.calls kj3 _ _ l0 _ _ l1 a2 t493 t496 t497 _ ?side1 ?side2 ?side3 ?side4 A9.out).mono ?_); (case side1 => exact cw_ HR0.out HB.out); (case side2 => exact HC0.out); (case side3 => exact cw_ HR1.out HB.out); (case side4 => exact HC1.out); rintro e w19 ⟨v494, rfl, ho0, hb⟩; refine ⟨_, rfl, ?_⟩; have n0_ := a_ (Kd.S_lower ho0 (below_size (bv_ HB.out))); have n1_ := a_ (bs_ HB.out hb); clear HB; have HO495 := n0_; have HB := n1_; clear n0_ n1_; (try clear hb); (try clear hb2); (try clear hk); (try clear hi); (try clear ho0)) | ((with_reducible refine gate_dst (N := 8) rfl ?_); (try (refine gate_guard (by rfl) ?_; dsimp only)); refine box_event ?hg (N := 8) ?hd (cs := #[.int .i64 0, .int .i64 0]) (t := 28) ?hr ?_; (case hd => rfl); (case hg => rfl); (case hr => first | (go_simp; done) | (go_simp; rfl)); intro gb498 hg w20 hbox hb; have n0_ := a_ (Kd.S_below (sv_ HO495.out) hb); have n1_ := a_ (bs_ HB.out hb); have n2_ := a_ (hbox); have n3_ := a_ ((by rw [hg]; exact (below_size (bv_ HB.out)) : w.heap.size ≤ gb498)); have n4_ := a_ ((by rw [hg]; exact (below_size (bv_ HB.out)) : w.heap.size ≤ gb498)); clear HO495; clear HB; have HO495 := n0_; have HB := n1_; have BK498 := n2_; have GW498 := n3_; have GE498 := n4_; clear n0_ n1_ n2_ n3_ n4_; clear hb hbox hg; obtain ⟨⟨Z21_0, Y21_0⟩, Z21_1, Y21_1⟩ := cs2_ BK498.out) | ((with_reducible refine gate_callee (f := 9) rfl ?_); refine gl_ (some 31) Try.func9 (by kernel_rfl) #[.slice A0 l0.length c0, .slice A1 l1.length c1, .int .i64 a2] ?_; (with_reducible refine (variorumref12_Lines.calls kj3 _ _ l0 _ _ l1 a2 t499 t502 t503 _ ?side1 ?side2 ?side3 ?side4 A10.out).mono ?_); (case side1 => exact Kd.C_below HR0.out (bS1_ HB.out GE498.out)); (case side2 => exact HC0.out); (case side3 => exact Kd.C_below HR1.out (bS1_ HB.out GE498.out)); (case side4 => exact HC1.out); rintro e w22 ⟨v500, rfl, ho0, hb⟩; refine ⟨_, rfl, ?_⟩; have n0_ := a_ (Kd.S_elder' (by (with_reducible repeat (first | apply Kd.S_alloc | apply Kd.S_drewN | apply Kd.S_drew)); exact (Kd.S_mono (Kd.S_far (p := ⟨gb498, 1, none⟩) (Kd.S_far (p := ⟨gb498, 0, none⟩) (Kd.S_types HO495.out BK498.out (by decide)) (fun _ hk => hk.2) (.int .i64 t496)) (fun _ hk => hk.2) (.int .i64 t497)) (fun _ h_ => h_.1))) (Kd.S_base ho0) hb); have n1_ := a_ (Kd.S_lower (Kd.S_new' ho0 (Kd.S_lt (by (with_reducible repeat (first | apply Kd.S_alloc | apply Kd.S_drewN | apply Kd.S_drew)); exact (Kd.S_mono (Kd.S_far (p := ⟨gb498, 1, none⟩) (Kd.S_far (p := ⟨gb498, 0, none⟩) (Kd.S_types HO495.out BK498.out (by decide)) (fun _ hk => hk.2) (.int .i64 t496)) (fun _ hk => hk.2) (.int .i64 t497)) (fun _ h_ => h_.1))))) (below_size (bS1_ HB.out GE498.out))); have n2_ := a_ (blk_below (g := gb498) (o := .cells #[.int .i64 t496, .int .i64 t497] 28 (0, 0)) (kp0_ BK498.out) hb); have n3_ := a_ (below_step (bS1_ HB.out GE498.out) hb); clear HO495; clear BK498; clear HB; have HO495 := n0_; have HO501 := n1_; have BK498 := n2_; have HB := n3_; clear n0_ n1_ n2_ n3_; (try clear hb); (try clear hb2); (try clear hk); (try clear hi); (try clear ho0)) | ((with_reducible refine gate_dst (N := 10) rfl ?_); (try (refine gate_guard (by rfl) ?_; dsimp only)); refine box_event ?hg (N := 10) ?hd (cs := #[.int .i64 0, .int .i64 0]) (t := 28) ?hr ?_; (case hd => rfl); (case hg => rfl); (case hr => first | (go_simp; done) | (go_simp; rfl)); intro gb504 hg w23 hbox hb; have n0_ := a_ (Kd.S_below (sv_ HO495.out) hb); have n1_ := a_ (Kd.S_below (sv_ HO501.out) hb); have n2_ := a_ (kb_ BK498.out hb); have n3_ := a_ (below_step (bS1_ HB.out GE498.out) hb); have n4_ := a_ (hbox); have n5_ := a_ ((by rw [hg]; exact (below_size (bS1_ HB.out GE498.out)) : w.heap.size ≤ gb504)); have n6_ := a_ ((by rw [hg]; exact (below_size (bS1_ HB.out GE498.out)) : w.heap.size ≤ gb504)); have n7_ := a_ ((by rw [hg]; exact Nat.ne_of_lt (blk_lt (kv_ BK498.out)) : gb498 ≠ gb504)); have n8_ := a_ ((by rw [hg]; exact Nat.ne_of_gt (blk_lt (kv_ BK498.out)) : gb504 ≠ gb498)); clear HO495; clear HO501; clear BK498; clear HB; have HO495 := n0_; have HO501 := n1_; have BK498 := n2_; have HB := n3_; have BK504 := n4_; have GW504 := n5_; have GE504 := n6_; have NB498_504 := n7_; have NB504_498 := n8_; clear n0_ n1_ n2_ n3_ n4_ n5_ n6_ n7_ n8_; clear hb hbox hg; have hnb24 := NB504_498.out; have hnc24 := NB498_504.out; obtain ⟨⟨Z25_0, Y25_0⟩, Z25_1, Y25_1⟩ := cs2_ BK504.out) | ((with_reducible refine gate_callee (f := 7) rfl ?_); refine gl_ (some 34) Try.func7 (by kernel_rfl) #[] ?_; (with_reducible refine (variorumlaw12_fixed.calls kj3  true _ A11.out).mono ?_); rintro e w26 ⟨rfl, hb⟩; refine ⟨_, rfl, ?_⟩; have n0_ := a_ (Kd.S_below (by (with_reducible repeat (first | apply Kd.S_alloc | apply Kd.S_drewN | apply Kd.S_drew)); exact (Kd.S_mono (Kd.S_far (p := ⟨gb504, 1, none⟩) (Kd.S_far (p := ⟨gb504, 0, none⟩) (Kd.S_types HO495.out BK504.out (by decide)) (fun _ hk => hk.2) (.int .i64 t502)) (fun _ hk => hk.2) (.int .i64 t503)) (fun _ h_ => h_.1))) hb); have n1_ := a_ (Kd.S_below (by (with_reducible repeat (first | apply Kd.S_alloc | apply Kd.S_drewN | apply Kd.S_drew)); exact (Kd.S_mono (Kd.S_far (p := ⟨gb504, 1, none⟩) (Kd.S_far (p := ⟨gb504, 0, none⟩) (Kd.S_types HO501.out BK504.out (by decide)) (fun _ hk => hk.2) (.int .i64 t502)) (fun _ hk => hk.2) (.int .i64 t503)) (fun _ h_ => h_.1))) hb); have n2_ := a_ (blk_below (kf1_ BK498.out NB498_504.out) hb); have n3_ := a_ (blk_below (g := gb504) (o := .cells #[.int .i64 t502, .int .i64 t503] 28 (0, 0)) (kp0_ BK504.out) hb); have n4_ := a_ (below_step (bS2_ HB.out GE498.out GE504.out) hb); clear HO495; clear HO501; clear BK498; clear BK504; clear HB; have HO495 := n0_; have HO501 := n1_; have BK498 := n2_; have BK504 := n3_; have HB := n4_; clear n0_ n1_ n2_ n3_ n4_; (try clear hb); (try clear hb2); (try clear hk); (try clear hi); obtain ⟨Ao27, co27, eo27⟩ := Kd.S_slice HO495.out; subst eo27; obtain ⟨Ao28, co28, eo28⟩ := Kd.S_slice HO501.out; subst eo28) | (go_at_call 10; (with_reducible refine (variorumref12_Same.calls kj3 _ _ t493 _ _ t499 true _ ?side1 ?side2 ?side3 ?side4 A13.out).mono ?_); (case side1 => repeat (first | exact (Kd.S_reads' HO495.out).2.2 | (with_reducible refine Kd.C_alloc ?_ _) | (with_reducible refine Kd.C_drewN ?_ _) | (with_reducible refine Kd.C_drew ?_))); (case side2 => exact (Kd.S_reads' HO495.out).2.1); (case side3 => repeat (first | exact (Kd.S_reads' HO501.out).2.2 | (with_reducible refine Kd.C_alloc ?_ _) | (with_reducible refine Kd.C_drewN ?_ _) | (with_reducible refine Kd.C_drew ?_))); (case side4 => exact (Kd.S_reads' HO501.out).2.1); rintro e w29 ⟨rfl, hb⟩; have n0_ := a_ (Kd.S_below (sv_ HO495.out) hb); have n1_ := a_ (Kd.S_below (sv_ HO501.out) hb); have n2_ := a_ (kb_ BK498.out hb); have n3_ := a_ (kb_ BK504.out hb); have n4_ := a_ (below_step (bS2_ HB.out GE498.out GE504.out) hb); clear HO495; clear HO501; clear BK498; clear BK504; clear HB; have HO495 := n0_; have HO501 := n1_; have BK498 := n2_; have BK504 := n3_; have HB := n4_; clear n0_ n1_ n2_ n3_ n4_; (try clear hb); (try clear hb2); (try clear hk); (try clear hi); obtain ⟨⟨Z30_0, Y30_0⟩, Z30_1, Y30_1⟩ := cs2_ BK498.out; obtain ⟨⟨Z31_0, Y31_0⟩, Z31_1, Y31_1⟩ := cs2_ BK504.out) | (go_at_call 12; (with_reducible refine (setter_Words.calls kj3 _ _ t493 t507 _ ?side1 ?side2 A16.out).mono ?_); (case side1 => repeat (first | exact (Kd.S_reads' HO495.out).2.2 | (with_reducible refine Kd.C_alloc ?_ _) | (with_reducible refine Kd.C_drewN ?_ _) | (with_reducible refine Kd.C_drew ?_))); (case side2 => exact (Kd.S_reads' HO495.out).2.1); rintro e w32 ⟨v508, rfl, ho0, hb⟩; have n0_ := a_ (Kd.S_elder' (sv_ HO495.out) (Kd.R_base ho0) hb); have n1_ := a_ (Kd.S_elder' (sv_ HO501.out) (Kd.R_base ho0) hb); have n2_ := a_ (Kd.R_lower ho0 (below_size (bS2_ HB.out GE498.out GE504.out))); have n3_ := a_ (kb_ BK498.out hb); have n4_ := a_ (kb_ BK504.out hb); have n5_ := a_ (below_step (bS2_ HB.out GE498.out GE504.out) hb); clear HO495; clear HO501; clear BK498; clear BK504; clear HB; have HO495 := n0_; have HO501 := n1_; have HO509 := n2_; have BK498 := n3_; have BK504 := n4_; have HB := n5_; clear n0_ n1_ n2_ n3_ n4_ n5_; (try clear hb); (try clear hb2); (try clear hk); (try clear hi); (try clear ho0)) | (go_at_call 13; (with_reducible refine (variorumref12_Words.calls kj3 _ _ t499 t510 _ ?side1 ?side2 A17.out).mono ?_); (case side1 => repeat (first | exact (Kd.S_reads' HO501.out).2.2 | (with_reducible refine Kd.C_alloc ?_ _) | (with_reducible refine Kd.C_drewN ?_ _) | (with_reducible refine Kd.C_drew ?_))); (case side2 => exact (Kd.S_reads' HO501.out).2.1); rintro e w33 ⟨v511, rfl, ho0, hb⟩; have n0_ := a_ (Kd.S_elder' (sv_ HO495.out) (Kd.R_base ho0) hb); have n1_ := a_ (Kd.S_elder' (sv_ HO501.out) (Kd.R_base ho0) hb); have n2_ := a_ (Kd.R_elder' (rv_ HO509.out) (Kd.R_base ho0) hb); have n3_ := a_ (Kd.R_lower (Kd.R_new' ho0 (Kd.R_lt (rv_ HO509.out))) (below_size (bS2_ HB.out GE498.out GE504.out))); have n4_ := a_ (kb_ BK498.out hb); have n5_ := a_ (kb_ BK504.out hb); have n6_ := a_ (below_step (bS2_ HB.out GE498.out GE504.out) hb); clear HO495; clear HO501; clear HO509; clear BK498; clear BK504; clear HB; have HO495 := n0_; have HO501 := n1_; have HO509 := n2_; have HO512 := n3_; have BK498 := n4_; have BK504 := n5_; have HB := n6_; clear n0_ n1_ n2_ n3_ n4_ n5_ n6_; (try clear hb); (try clear hb2); (try clear hk); (try clear hi); (try clear ho0); obtain ⟨Ao34, co34, eo34⟩ := Kd.R_slice HO509.out; subst eo34; obtain ⟨Ao35, co35, eo35⟩ := Kd.R_slice HO512.out; subst eo35) | (go_at_call 11; (with_reducible refine (variorumref12_Placed.calls kj3 _ _ t507 _ _ t510 t513 _ ?side1 ?side2 ?side3 ?side4 A18.out).mono ?_); (case side1 => exact cr_ (Kd.R_reads' HO509.out).2.2); (case side2 => exact (Kd.R_reads' HO509.out).2.1); (case side3 => exact cr_ (Kd.R_reads' HO512.out).2.2); (case side4 => exact (Kd.R_reads' HO512.out).2.1); rintro e w' ⟨rfl, ⟨nd, rfl⟩⟩))
       go_ret
       exact ⟨by first | rfl | (simp [errW_none, errW_some] <;> rfl) | (simp [*, errW_none, errW_some] <;> rfl), bS2_ HB.out GE498.out GE504.out⟩
      ·rw [if_neg c15] at H
       exact absurd H (by simp)
     ·replace c14 := Bool.eq_false_iff.mpr c14
      subst c14
      have H1 : (none) = some r := by rw [if_neg (show ¬ (false = true) by decide)] at H; exact H
      clear H
      have H := H1
      clear H1
      exact absurd H (by simp)
    ·replace c12 := Bool.eq_false_iff.mpr c12
     subst c12
     have H1 : (none) = some r := by rw [if_neg (show ¬ (false = true) by decide)] at H; exact H
     clear H
     have H := H1
     clear H1
     exact absurd H (by simp)

/-- The one statement about numbers and lists that is left of the law. -/
def variorumlaw12_SetterLines.Pure : Prop := ∀ (x0 : List (S40)) (x1 : List Int) (x2 : Int), (x0.length * 72 ≤ 140737488351232 ∧ ∀ y0 ∈ x0, ((Lit.int .i64 y0.f0).wf = true ∧ (((Lit.int .i64 y0.f1.f0).wf = true ∧ ((Lit.int .i64 y0.f1.f1).wf = true ∧ ((Lit.int .i64 y0.f1.f2).wf = true ∧ ((Lit.int .i64 y0.f1.f3).wf = true)))) ∧ ((Lit.int .i64 y0.f2).wf = true ∧ (True ∧ ((Lit.int .i64 y0.f4).wf = true ∧ ((Lit.int .i64 y0.f5).wf = true))))))) → (x1.length * 8 ≤ 140737488351232 ∧ ∀ y0 ∈ x1, (Lit.int .i64 y0).wf = true) → (Lit.int .i64 x2).wf = true → ∃ k, variorumlaw12_SetterLines.f k x0 x1 x2 = some true

end Go.Proofs.Ytpfnfofaajpdmaa.PLn

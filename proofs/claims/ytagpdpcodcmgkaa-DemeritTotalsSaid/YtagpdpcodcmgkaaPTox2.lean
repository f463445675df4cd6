/- Written by a program of this session: functions of the given program as plain Lean functions, the walks that show it, and the row of each law, for every input that its statement speaks of. -/
import Derived.Test.YtagpdpcodcmgkaaPTox0
import Derived.Test.YtagpdpcodcmgkaaPTox1
namespace Go.Proofs.Ytagpdpcodcmgkaa.PTo
open Go.RowKit Go.Proofs.YtagpdpcodcmgkaaW.PrintWords Go.Proofs.YtagpdpcodcmgkaaW.PrintLast
set_option linter.unusedVariables false
set_option linter.unusedSimpArgs false

/-! ### demerit_may: function 23 -/
mutual
def demerit_may.j0 : Nat → List (S47) → Int → Int → Bool → Option (Bool)
 | 0, _, _, _, _ => none
 | k + 1, x0, x1, x2, x33 => if x33 = true then (some false) else (demerit_may.l0 k x0 x2 (wrap64 (x1 + 1)))
def demerit_may.l0 : Nat → List (S47) → Int → Int → Option (Bool)
 | 0, _, _, _ => none
 | k + 1, x0, x2, x7 => if x7 < x2 then (if 0 ≤ x7 then (if x7 < (x0.length : Int) then ((demerit_Forced.f ((rd_T47 x0 x7).f0) ((rd_T47 x0 x7).f1.f0) ((rd_T47 x0 x7).f1.f1) ((rd_T47 x0 x7).f1.f2) ((rd_T47 x0 x7).f1.f3) ((rd_T47 x0 x7).f2) ((rd_T47 x0 x7).f3) ((rd_T47 x0 x7).f4) ((rd_T47 x0 x7).f5)).bind fun t130 => (if t130 = true then (some false) else (demerit_may.l0 k x0 x2 (wrap64 (x7 + 1))))) else (none)) else (none)) else (some true)
end
def demerit_may.f (k : Nat) (l0 : List (S47)) (a1 : Int) (a2 : Int) : Option (Bool) := if a1 = (-1) then ((demerit_Legal.f k l0 a2).bind fun t124 => (if t124 = true then (if a1 ≥ a2 then (demerit_may.j0 k l0 a1 a2 true) else ((demerit_Start.f k l0 a1).bind fun t125 => (demerit_may.j0 k l0 a1 a2 (decide (t125 > a2))))) else (demerit_may.j0 k l0 a1 a2 true))) else ((demerit_Legal.f k l0 a1).bind fun t126 => (if t126 = true then ((demerit_Legal.f k l0 a2).bind fun t127 => (if t127 = true then (if a1 ≥ a2 then (demerit_may.j0 k l0 a1 a2 true) else ((demerit_Start.f k l0 a1).bind fun t128 => (demerit_may.j0 k l0 a1 a2 (decide (t128 > a2))))) else (demerit_may.j0 k l0 a1 a2 true))) else (demerit_may.j0 k l0 a1 a2 true)))
theorem demerit_may.mono_l : ∀ k, (∀ y0 y1 y2 y3, LeO (demerit_may.j0 k y0 y1 y2 y3) (demerit_may.j0 (k + 1) y0 y1 y2 y3)) ∧ (∀ y0 y1 y2, LeO (demerit_may.l0 k y0 y1 y2) (demerit_may.l0 (k + 1) y0 y1 y2))
 | 0 => ⟨fun _ _ _ _ r h => by simp [demerit_may.j0] at h, fun _ _ _ r h => by simp [demerit_may.l0] at h⟩
 | k + 1 => by
  obtain ⟨ih0, ih1⟩ := demerit_may.mono_l k
  refine ⟨?_, ?_⟩
  ·intro y0 y1 y2 y3
   unfold demerit_may.j0
   repeat' first
   | (with_reducible exact ih0 _ _ _ _)
   | (with_reducible exact ih1 _ _ _)
   | (with_reducible exact demerit_Legal.mono _ _ _)
   | (with_reducible exact demerit_Start.mono _ _ _)
   | (with_reducible exact LeO.refl _)
   | (with_reducible exact LeO.none _)
   | (with_reducible refine LeO.ite ?_ ?_)
   | (with_reducible refine LeO.bind ?_ (fun _ => ?_))
   | exact ih0 _ _ _ _
   | exact ih1 _ _ _
   | exact demerit_Legal.mono _ _ _
   | exact demerit_Start.mono _ _ _
   | exact LeO.none _
   | refine LeO.ite ?_ ?_
   | refine LeO.bind ?_ (fun _ => ?_)
  ·intro y0 y1 y2
   unfold demerit_may.l0
   repeat' first
   | (with_reducible exact ih0 _ _ _ _)
   | (with_reducible exact ih1 _ _ _)
   | (with_reducible exact demerit_Legal.mono _ _ _)
   | (with_reducible exact demerit_Start.mono _ _ _)
   | (with_reducible exact LeO.refl _)
   | (with_reducible exact LeO.none _)
   | (with_reducible refine LeO.ite ?_ ?_)
   | (with_reducible refine LeO.bind ?_ (fun _ => ?_))
   | exact ih0 _ _ _ _
   | exact ih1 _ _ _
   | exact demerit_Legal.mono _ _ _
   | exact demerit_Start.mono _ _ _
   | exact LeO.none _
   | refine LeO.ite ?_ ?_
   | refine LeO.bind ?_ (fun _ => ?_)
theorem demerit_may.mono : ∀ a0 a1 a2 k, LeO (demerit_may.f k a0 a1 a2) (demerit_may.f (k + 1) a0 a1 a2) := by
 intro a0 a1 a2 k
 obtain ⟨ih0, ih1⟩ := demerit_may.mono_l k
 unfold demerit_may.f
 repeat' first
   | (with_reducible exact ih0 _ _ _ _)
   | (with_reducible exact ih1 _ _ _)
   | (with_reducible exact demerit_Legal.mono _ _ _)
   | (with_reducible exact demerit_Start.mono _ _ _)
   | (with_reducible exact LeO.refl _)
   | (with_reducible exact LeO.none _)
   | (with_reducible refine LeO.ite ?_ ?_)
   | (with_reducible refine LeO.bind ?_ (fun _ => ?_))
   | exact ih0 _ _ _ _
   | exact ih1 _ _ _
   | exact demerit_Legal.mono _ _ _
   | exact demerit_Start.mono _ _ _
   | exact LeO.none _
   | refine LeO.ite ?_ ?_
   | refine LeO.bind ?_ (fun _ => ?_)
set_option maxHeartbeats 8000000 in
set_option maxRecDepth 100000 in
theorem demerit_may.calls (k : Nat) (A0 : Option Addr) (c0 : Nat) (l0 : List (S47)) (a1 : Int) (a2 : Int) (r : Bool) (w : World) (hr0 : Kd.C k47 w A0 l0.length l0) (hc0 : l0.length ≤ c0) (h : demerit_may.f k l0 a1 a2 = some r) :
  Calls Try.prog 23 #[.slice A0 l0.length c0, .int .i64 a1, .int .i64 a2] w fun e w' => e = .returned (.bool r) ∧ Below w.heap.size w w' := by
 have hu47 := Try.underlying47
 have HR0 := Aside0.mk hr0
 have HC0 := Aside0.mk hc0
 clear hr0 hc0
 have HB := Aside0.mk (Below.refl w.heap.size w)
 have H : (if a1 = (-1) then ((demerit_Legal.f k l0 a2).bind fun t124 => (if t124 = true then (if a1 ≥ a2 then (demerit_may.j0 k l0 a1 a2 true) else ((demerit_Start.f k l0 a1).bind fun t125 => (demerit_may.j0 k l0 a1 a2 (decide (t125 > a2))))) else (demerit_may.j0 k l0 a1 a2 true))) else ((demerit_Legal.f k l0 a1).bind fun t126 => (if t126 = true then ((demerit_Legal.f k l0 a2).bind fun t127 => (if t127 = true then (if a1 ≥ a2 then (demerit_may.j0 k l0 a1 a2 true) else ((demerit_Start.f k l0 a1).bind fun t128 => (demerit_may.j0 k l0 a1 a2 (decide (t128 > a2))))) else (demerit_may.j0 k l0 a1 a2 true))) else (demerit_may.j0 k l0 a1 a2 true)))) = some r := h
 clear h
 have HC4 := Aside0.mk H
 clear H
 go_enter Try.func23, Try.ntmps23
 go_upto_region 1 with (fail)
 go_cut [33] (fun v33 wc => ∃ (kq : Nat) (x33_3 : Bool), v33 = .bool x33_3 ∧ Aside0 (demerit_may.j0 kq l0 a1 a2 x33_3 = some r) ∧ Aside0 (kq ≤ k) ∧ Aside0 (Below w.heap.size w wc))
 case first =>
  have H := HC4.out
  clear HC4
  by_cases c5 : a1 = (-1)
  ·rw [if_pos c5] at H
   have c5b0 : (a1 == (-1)) = true := beq_iff_eq.mpr c5
   have c5b1 : (a1 != (-1)) = false := bne_eq_false_iff_eq.mpr c5
   clear c5
   (first | rw [c5b0] | (simp only [i64_w, i32_w]; rw [c5b0]) | skip)
   replace H := Option.bind_eq_some_iff.mp H
   obtain ⟨t124, A60, H⟩ := H
   replace H : (if t124 = true then (if a1 ≥ a2 then (demerit_may.j0 k l0 a1 a2 true) else ((demerit_Start.f k l0 a1).bind fun t125 => (demerit_may.j0 k l0 a1 a2 (decide (t125 > a2))))) else (demerit_may.j0 k l0 a1 a2 true)) = some r := H
   have A6 := Aside0.mk A60
   clear A60
   by_cases c7 : t124 = true
   ·subst c7
    have H1 : (if a1 ≥ a2 then (demerit_may.j0 k l0 a1 a2 true) else ((demerit_Start.f k l0 a1).bind fun t125 => (demerit_may.j0 k l0 a1 a2 (decide (t125 > a2))))) = some r := by rw [if_pos rfl] at H; exact H
    clear H
    have H := H1
    clear H1
    by_cases c8 : a1 ≥ a2
    ·rw [if_pos c8] at H
     have c8b0 : decide (a2 ≤ a1) = true := decide_eq_true c8
     clear c8
     have H' := Aside0.mk H
     clear H
     go_wp2_with (first | (go_at_call 11; (with_reducible refine (demerit_Legal.calls k _ _ l0 a2 true _ ?side1 ?side2 A6.out).mono ?_); (case side1 => repeat (first | exact (Kd.C_below HR0.out HB.out) | (with_reducible refine Kd.C_alloc ?_ _) | (with_reducible refine Kd.C_drewN ?_ _) | (with_reducible refine Kd.C_drew ?_))); (case side2 => exact HC0.out); rintro e w' ⟨rfl, ⟨nd, rfl⟩⟩))
     go_meet
     case rel => exact ⟨_, (true), (by first | rfl | (simp; done) | (simp [*]; done)), H', ⟨by first | omega | exact Nat.le_refl _⟩, ⟨by repeat (first | (with_reducible first | exact HB.out | apply below_alloc | apply pw_below_drewN | apply below_drew1) | exact HB.out)⟩⟩
    ·rw [if_neg c8] at H
     have c8b0 : decide (a2 ≤ a1) = false := decide_eq_false c8
     clear c8
     replace H := Option.bind_eq_some_iff.mp H
     obtain ⟨t125, A90, H⟩ := H
     replace H : (demerit_may.j0 k l0 a1 a2 (decide (t125 > a2))) = some r := H
     have A9 := Aside0.mk A90
     clear A90
     have H' := Aside0.mk H
     clear H
     go_wp2_with (first | (go_at_call 11; (with_reducible refine (demerit_Legal.calls k _ _ l0 a2 true _ ?side1 ?side2 A6.out).mono ?_); (case side1 => repeat (first | exact (Kd.C_below HR0.out HB.out) | (with_reducible refine Kd.C_alloc ?_ _) | (with_reducible refine Kd.C_drewN ?_ _) | (with_reducible refine Kd.C_drew ?_))); (case side2 => exact HC0.out); rintro e w' ⟨rfl, ⟨nd, rfl⟩⟩) | (go_at_call 12; (with_reducible refine (demerit_Start.calls k _ _ l0 a1 t125 _ ?side1 ?side2 A9.out).mono ?_); (case side1 => repeat (first | exact (Kd.C_below HR0.out (by repeat (first | (with_reducible first | exact HB.out | apply below_alloc | apply pw_below_drewN | apply below_drew1) | exact HB.out))) | (with_reducible refine Kd.C_alloc ?_ _) | (with_reducible refine Kd.C_drewN ?_ _) | (with_reducible refine Kd.C_drew ?_))); (case side2 => exact HC0.out); rintro e w10 ⟨rfl, hb⟩; have n0_ := Aside0.mk (below_step (by repeat (first | (with_reducible first | exact HB.out | apply below_alloc | apply pw_below_drewN | apply below_drew1) | exact HB.out)) hb); clear HB; have HB := n0_; clear n0_; (try clear hb); (try clear hb2); (try clear hk); (try clear hi)))
     go_meet
     case rel => exact ⟨_, (decide (t125 > a2)), (by first | rfl | (simp; done) | (simp [*]; done)), H', ⟨by first | omega | exact Nat.le_refl _⟩, ⟨by repeat (first | (with_reducible first | exact HB.out | apply below_alloc | apply pw_below_drewN | apply below_drew1) | exact HB.out)⟩⟩
   ·replace c7 := Bool.eq_false_iff.mpr c7
    subst c7
    have H1 : (demerit_may.j0 k l0 a1 a2 true) = some r := by rw [if_neg (show ¬ (false = true) by decide)] at H; exact H
    clear H
    have H := H1
    clear H1
    have H' := Aside0.mk H
    clear H
    go_wp2_with (first | (go_at_call 11; (with_reducible refine (demerit_Legal.calls k _ _ l0 a2 false _ ?side1 ?side2 A6.out).mono ?_); (case side1 => repeat (first | exact (Kd.C_below HR0.out HB.out) | (with_reducible refine Kd.C_alloc ?_ _) | (with_reducible refine Kd.C_drewN ?_ _) | (with_reducible refine Kd.C_drew ?_))); (case side2 => exact HC0.out); rintro e w' ⟨rfl, ⟨nd, rfl⟩⟩))
    go_meet
    case rel => exact ⟨_, (true), (by first | rfl | (simp; done) | (simp [*]; done)), H', ⟨by first | omega | exact Nat.le_refl _⟩, ⟨by repeat (first | (with_reducible first | exact HB.out | apply below_alloc | apply pw_below_drewN | apply below_drew1) | exact HB.out)⟩⟩
  ·rw [if_neg c5] at H
   have c5b0 : (a1 == (-1)) = false := beq_eq_false_iff_ne.mpr c5
   have c5b1 : (a1 != (-1)) = true := bne_iff_ne.mpr c5
   (first | rw [c5b0] | (simp only [i64_w, i32_w]; rw [c5b0]) | skip)
   replace H := Option.bind_eq_some_iff.mp H
   obtain ⟨t126, A110, H⟩ := H
   replace H : (if t126 = true then ((demerit_Legal.f k l0 a2).bind fun t127 => (if t127 = true then (if a1 ≥ a2 then (demerit_may.j0 k l0 a1 a2 true) else ((demerit_Start.f k l0 a1).bind fun t128 => (demerit_may.j0 k l0 a1 a2 (decide (t128 > a2))))) else (demerit_may.j0 k l0 a1 a2 true))) else (demerit_may.j0 k l0 a1 a2 true)) = some r := H
   have A11 := Aside0.mk A110
   clear A110
   by_cases c12 : t126 = true
   ·subst c12
    have H1 : ((demerit_Legal.f k l0 a2).bind fun t127 => (if t127 = true then (if a1 ≥ a2 then (demerit_may.j0 k l0 a1 a2 true) else ((demerit_Start.f k l0 a1).bind fun t128 => (demerit_may.j0 k l0 a1 a2 (decide (t128 > a2))))) else (demerit_may.j0 k l0 a1 a2 true))) = some r := by rw [if_pos rfl] at H; exact H
    clear H
    have H := H1
    clear H1
    replace H := Option.bind_eq_some_iff.mp H
    obtain ⟨t127, A130, H⟩ := H
    replace H : (if t127 = true then (if a1 ≥ a2 then (demerit_may.j0 k l0 a1 a2 true) else ((demerit_Start.f k l0 a1).bind fun t128 => (demerit_may.j0 k l0 a1 a2 (decide (t128 > a2))))) else (demerit_may.j0 k l0 a1 a2 true)) = some r := H
    have A13 := Aside0.mk A130
    clear A130
    by_cases c14 : t127 = true
    ·subst c14
     have H1 : (if a1 ≥ a2 then (demerit_may.j0 k l0 a1 a2 true) else ((demerit_Start.f k l0 a1).bind fun t128 => (demerit_may.j0 k l0 a1 a2 (decide (t128 > a2))))) = some r := by rw [if_pos rfl] at H; exact H
     clear H
     have H := H1
     clear H1
     by_cases c15 : a1 ≥ a2
     ·rw [if_pos c15] at H
      have c15b0 : decide (a2 ≤ a1) = true := decide_eq_true c15
      clear c15
      have H' := Aside0.mk H
      clear H
      go_wp2_with (first | (go_at_call 11; (with_reducible refine (demerit_Legal.calls k _ _ l0 a1 true _ ?side1 ?side2 A11.out).mono ?_); (case side1 => repeat (first | exact (Kd.C_below HR0.out HB.out) | (with_reducible refine Kd.C_alloc ?_ _) | (with_reducible refine Kd.C_drewN ?_ _) | (with_reducible refine Kd.C_drew ?_))); (case side2 => exact HC0.out); rintro e w' ⟨rfl, ⟨nd, rfl⟩⟩) | (go_at_call 11; (with_reducible refine (demerit_Legal.calls k _ _ l0 a2 true _ ?side1 ?side2 A13.out).mono ?_); (case side1 => repeat (first | exact (Kd.C_below HR0.out (by repeat (first | (with_reducible first | exact HB.out | apply below_alloc | apply pw_below_drewN | apply below_drew1) | exact HB.out))) | (with_reducible refine Kd.C_alloc ?_ _) | (with_reducible refine Kd.C_drewN ?_ _) | (with_reducible refine Kd.C_drew ?_))); (case side2 => exact HC0.out); rintro e w' ⟨rfl, ⟨nd, rfl⟩⟩))
      go_meet
      case rel => exact ⟨_, (true), (by first | rfl | (simp; done) | (simp [*]; done)), H', ⟨by first | omega | exact Nat.le_refl _⟩, ⟨by repeat (first | (with_reducible first | exact HB.out | apply below_alloc | apply pw_below_drewN | apply below_drew1) | exact HB.out)⟩⟩
     ·rw [if_neg c15] at H
      have c15b0 : decide (a2 ≤ a1) = false := decide_eq_false c15
      clear c15
      replace H := Option.bind_eq_some_iff.mp H
      obtain ⟨t128, A160, H⟩ := H
      replace H : (demerit_may.j0 k l0 a1 a2 (decide (t128 > a2))) = some r := H
      have A16 := Aside0.mk A160
      clear A160
      have H' := Aside0.mk H
      clear H
      go_wp2_with (first | (go_at_call 11; (with_reducible refine (demerit_Legal.calls k _ _ l0 a1 true _ ?side1 ?side2 A11.out).mono ?_); (case side1 => repeat (first | exact (Kd.C_below HR0.out HB.out) | (with_reducible refine Kd.C_alloc ?_ _) | (with_reducible refine Kd.C_drewN ?_ _) | (with_reducible refine Kd.C_drew ?_))); (case side2 => exact HC0.out); rintro e w' ⟨rfl, ⟨nd, rfl⟩⟩) | (go_at_call 11; (with_reducible refine (demerit_Legal.calls k _ _ l0 a2 true _ ?side1 ?side2 A13.out).mono ?_); (case side1 => repeat (first | exact (Kd.C_below HR0.out (by repeat (first | (with_reducible first | exact HB.out | apply below_alloc | apply pw_below_drewN | apply below_drew1) | exact HB.out))) | (with_reducible refine Kd.C_alloc ?_ _) | (with_reducible refine Kd.C_drewN ?_ _) | (with_reducible refine Kd.C_drew ?_))); (case side2 => exact HC0.out); rintro e w' ⟨rfl, ⟨nd, rfl⟩⟩) | (go_at_call 12; (with_reducible refine (demerit_Start.calls k _ _ l0 a1 t128 _ ?side1 ?side2 A16.out).mono ?_); (case side1 => repeat (first | exact (Kd.C_below HR0.out (by repeat (first | (with_reducible first | exact HB.out | apply below_alloc | apply pw_below_drewN | apply below_drew1) | exact HB.out))) | (with_reducible refine Kd.C_alloc ?_ _) | (with_reducible refine Kd.C_drewN ?_ _) | (with_reducible refine Kd.C_drew ?_))); (case side2 => exact HC0.out); rintro e w17 ⟨rfl, hb⟩; have n0_ := Aside0.mk (below_step (by repeat (first | (with_reducible first | exact HB.out | apply below_alloc | apply pw_below_drewN | apply below_drew1) | exact HB.out)) hb); clear HB; have HB := n0_; clear n0_; (try clear hb); (try clear hb2); (try clear hk); (try clear hi)))
      go_meet
      case rel => exact ⟨_, (decide (t128 > a2)), (by first | rfl | (simp; done) | (simp [*]; done)), H', ⟨by first | omega | exact Nat.le_refl _⟩, ⟨by repeat (first | (with_reducible first | exact HB.out | apply below_alloc | apply pw_below_drewN | apply below_drew1) | exact HB.out)⟩⟩
    ·replace c14 := Bool.eq_false_iff.mpr c14
     subst c14
     have H1 : (demerit_may.j0 k l0 a1 a2 true) = some r := by rw [if_neg (show ¬ (false = true) by decide)] at H; exact H
     clear H
     have H := H1
     clear H1
     have H' := Aside0.mk H
     clear H
     go_wp2_with (first | (go_at_call 11; (with_reducible refine (demerit_Legal.calls k _ _ l0 a1 true _ ?side1 ?side2 A11.out).mono ?_); (case side1 => repeat (first | exact (Kd.C_below HR0.out HB.out) | (with_reducible refine Kd.C_alloc ?_ _) | (with_reducible refine Kd.C_drewN ?_ _) | (with_reducible refine Kd.C_drew ?_))); (case side2 => exact HC0.out); rintro e w' ⟨rfl, ⟨nd, rfl⟩⟩) | (go_at_call 11; (with_reducible refine (demerit_Legal.calls k _ _ l0 a2 false _ ?side1 ?side2 A13.out).mono ?_); (case side1 => repeat (first | exact (Kd.C_below HR0.out (by repeat (first | (with_reducible first | exact HB.out | apply below_alloc | apply pw_below_drewN | apply below_drew1) | exact HB.out))) | (with_reducible refine Kd.C_alloc ?_ _) | (with_reducible refine Kd.C_drewN ?_ _) | (with_reducible refine Kd.C_drew ?_))); (case side2 => exact HC0.out); rintro e w' ⟨rfl, ⟨nd, rfl⟩⟩))
     go_meet
     case rel => exact ⟨_, (true), (by first | rfl | (simp; done) | (simp [*]; done)), H', ⟨by first | omega | exact Nat.le_refl _⟩, ⟨by repeat (first | (with_reducible first | exact HB.out | apply below_alloc | apply pw_below_drewN | apply below_drew1) | exact HB.out)⟩⟩
   ·replace c12 := Bool.eq_false_iff.mpr c12
    subst c12
    have H1 : (demerit_may.j0 k l0 a1 a2 true) = some r := by rw [if_neg (show ¬ (false = true) by decide)] at H; exact H
    clear H
    have H := H1
    clear H1
    have H' := Aside0.mk H
    clear H
    go_wp2_with (first | (go_at_call 11; (with_reducible refine (demerit_Legal.calls k _ _ l0 a1 false _ ?side1 ?side2 A11.out).mono ?_); (case side1 => repeat (first | exact (Kd.C_below HR0.out HB.out) | (with_reducible refine Kd.C_alloc ?_ _) | (with_reducible refine Kd.C_drewN ?_ _) | (with_reducible refine Kd.C_drew ?_))); (case side2 => exact HC0.out); rintro e w' ⟨rfl, ⟨nd, rfl⟩⟩))
    go_meet
    case rel => exact ⟨_, (true), (by first | rfl | (simp; done) | (simp [*]; done)), H', ⟨by first | omega | exact Nat.le_refl _⟩, ⟨by repeat (first | (with_reducible first | exact HB.out | apply below_alloc | apply pw_below_drewN | apply below_drew1) | exact HB.out)⟩⟩
 case rest =>
  clear HC4
  try clear c1
  try clear c2
  try clear p2
  try clear c5
  try clear c5b0
  try clear c5b1
  try clear c7
  try clear c8
  try clear c8b0
  try clear c12
  try clear c14
  try clear c15
  try clear c15b0
  obtain ⟨kq, x33_3, rfl, HA, HJ3, HB⟩ := hcut
  cases kq with
  | zero => exact absurd HA.out (by simp [demerit_may.j0])
  | succ kj3 =>
   have H := HA.out
   clear HA
   simp only [demerit_may.j0] at H
   by_cases c18 : x33_3 = true
   ·subst c18
    have H1 : (some false) = some r := by rw [if_pos rfl] at H; exact H
    clear H
    have H := H1
    clear H1
    obtain rfl := Option.some.inj H
    go_wp2
    go_ret
    exact ⟨by first | rfl | (simp [errW_none, errW_some] <;> rfl) | (simp [*, errW_none, errW_some] <;> rfl), by repeat (first | (with_reducible first | exact HB.out | apply below_alloc | apply pw_below_drewN | apply below_drew1) | exact HB.out)⟩
   ·replace c18 := Bool.eq_false_iff.mpr c18
    subst c18
    have H1 : (demerit_may.l0 kj3 l0 a2 (wrap64 (a1 + 1))) = some r := by rw [if_neg (show ¬ (false = true) by decide)] at H; exact H
    clear H
    have H := H1
    clear H1
    have H' := Aside0.mk H
    clear H
    go_wp2
    go_loopg [7] kj3 (fun kq v7 w' => ∃ (x7_2 : Int), v7 = .int .i64 x7_2 ∧ Aside0 (demerit_may.l0 kq l0 a2 x7_2 = some r) ∧ Aside0 (kq ≤ kj3) ∧ Aside0 (Below w.heap.size w w'))
    case atStart => exact ⟨(wrap64 (a1 + 1)), (by first | rfl | (simp; done) | (simp [*]; done)), H', ⟨Nat.le_refl _⟩, ⟨by repeat (first | (with_reducible first | exact HB.out | apply below_alloc | apply pw_below_drewN | apply below_drew1) | exact HB.out)⟩⟩
    case round =>
     clear H'
     try clear c1
     try clear c2
     try clear p2
     try clear c5
     try clear c5b0
     try clear c5b1
     try clear p6
     try clear c7
     try clear c8
     try clear c8b0
     try clear c12
     try clear c14
     try clear c15
     try clear c15b0
     try clear c18
     try clear p2
     obtain ⟨x7_2, rfl, HA, HK2, HB⟩ := hrel
     cases gk with
     | zero => exact absurd HA.out (by simp [demerit_may.l0])
     | succ k2 =>
      have H := HA.out
      clear HA
      simp only [demerit_may.l0] at H
      by_cases c19 : x7_2 < a2
      ·rw [if_pos c19] at H
       have c19b0 : decide (x7_2 < a2) = true := decide_eq_true c19
       clear c19
       by_cases c20 : 0 ≤ x7_2
       ·rw [if_pos c20] at H
        have c20b0 : decide (0 ≤ x7_2) = true := decide_eq_true c20
        clear c20
        by_cases c21 : x7_2 < (l0.length : Int)
        ·rw [if_pos c21] at H
         have c21b0 : decide (x7_2 < (l0.length : Int)) = true := decide_eq_true c21
         clear c21
         replace H := Option.bind_eq_some_iff.mp H
         obtain ⟨t130, A220, H⟩ := H
         replace H : (if t130 = true then (some false) else (demerit_may.l0 k2 l0 a2 (wrap64 (x7_2 + 1)))) = some r := H
         have A22 := Aside0.mk A220
         clear A220
         by_cases c23 : t130 = true
         ·subst c23
          have H1 : (some false) = some r := by rw [if_pos rfl] at H; exact H
          clear H
          have H := H1
          clear H1
          obtain rfl := Option.some.inj H
          have p129 : 0 ≤ (x7_2 : Int) := of_decide_eq_true (by first | (with_reducible assumption) | assumption)
          have q129 : x7_2 < (l0.length : Int) := of_decide_eq_true (by first | (with_reducible assumption) | assumption)
          obtain ⟨ad129, e129, hx129_0, hx129_1, hx129_2, hx129_3, hx129_4, hx129_5, hx129_6, hx129_7, hx129_8⟩ := at_T47 HR0.out x7_2 p129 q129
          cases e129
          replace hx129_0 := (HB.out.cell (World.block_lt_of_cell? w _ hx129_0)).trans hx129_0
          replace hx129_1 := (HB.out.cell (World.block_lt_of_cell? w _ hx129_1)).trans hx129_1
          replace hx129_2 := (HB.out.cell (World.block_lt_of_cell? w _ hx129_2)).trans hx129_2
          replace hx129_3 := (HB.out.cell (World.block_lt_of_cell? w _ hx129_3)).trans hx129_3
          replace hx129_4 := (HB.out.cell (World.block_lt_of_cell? w _ hx129_4)).trans hx129_4
          replace hx129_5 := (HB.out.cell (World.block_lt_of_cell? w _ hx129_5)).trans hx129_5
          replace hx129_6 := (HB.out.cell (World.block_lt_of_cell? w _ hx129_6)).trans hx129_6
          replace hx129_7 := (HB.out.cell (World.block_lt_of_cell? w _ hx129_7)).trans hx129_7
          replace hx129_8 := (HB.out.cell (World.block_lt_of_cell? w _ hx129_8)).trans hx129_8
          replace p129 := eq_true p129
          replace q129 := eq_true q129
          go_wp2_with (first | ((with_reducible refine gate_callee (f := 21) rfl ?_); refine goesL_ (some 45) rfl rfl Try.func21 (by kernel_rfl) rfl #[.agg #[.int .i64 ((rd_T47 l0 x7_2).f0), .int .i64 ((rd_T47 l0 x7_2).f1.f0), .int .i64 ((rd_T47 l0 x7_2).f1.f1), .int .i64 ((rd_T47 l0 x7_2).f1.f2), .int .i64 ((rd_T47 l0 x7_2).f1.f3), .int .i64 ((rd_T47 l0 x7_2).f2), .bool ((rd_T47 l0 x7_2).f3), .int .i64 ((rd_T47 l0 x7_2).f4), .int .i64 ((rd_T47 l0 x7_2).f5)]] rfl (by (try simp only [List.map_toArray, List.map_cons, List.map_nil]); first | done | rfl | (simp only [List.length_drop, List.length_take]; rfl) | (simp only [*]; first | done | rfl)) ?_; (with_reducible refine (demerit_Forced.calls ((rd_T47 l0 x7_2).f0) ((rd_T47 l0 x7_2).f1.f0) ((rd_T47 l0 x7_2).f1.f1) ((rd_T47 l0 x7_2).f1.f2) ((rd_T47 l0 x7_2).f1.f3) ((rd_T47 l0 x7_2).f2) ((rd_T47 l0 x7_2).f3) ((rd_T47 l0 x7_2).f4) ((rd_T47 l0 x7_2).f5) true _ A22.out).mono ?_); rintro e w24 ⟨rfl, hb⟩; refine ⟨_, rfl, ?_⟩; have n0_ := Aside0.mk (below_step (by repeat (first | (with_reducible first | exact HB.out | apply below_alloc | apply pw_below_drewN | apply below_drew1) | exact HB.out)) hb); clear HB; have HB := n0_; clear n0_; (try clear hb); (try clear hb2); (try clear hk); (try clear hi)))
          go_ret
          exact ⟨by first | rfl | (simp [errW_none, errW_some] <;> rfl) | (simp [*, errW_none, errW_some] <;> rfl), by repeat (first | (with_reducible first | exact HB.out | apply below_alloc | apply pw_below_drewN | apply below_drew1) | exact HB.out)⟩
         ·replace c23 := Bool.eq_false_iff.mpr c23
          subst c23
          have H1 : (demerit_may.l0 k2 l0 a2 (wrap64 (x7_2 + 1))) = some r := by rw [if_neg (show ¬ (false = true) by decide)] at H; exact H
          clear H
          have H := H1
          clear H1
          have H' := Aside0.mk H
          clear H
          have p129 : 0 ≤ (x7_2 : Int) := of_decide_eq_true (by first | (with_reducible assumption) | assumption)
          have q129 : x7_2 < (l0.length : Int) := of_decide_eq_true (by first | (with_reducible assumption) | assumption)
          obtain ⟨ad129, e129, hx129_0, hx129_1, hx129_2, hx129_3, hx129_4, hx129_5, hx129_6, hx129_7, hx129_8⟩ := at_T47 HR0.out x7_2 p129 q129
          cases e129
          replace hx129_0 := (HB.out.cell (World.block_lt_of_cell? w _ hx129_0)).trans hx129_0
          replace hx129_1 := (HB.out.cell (World.block_lt_of_cell? w _ hx129_1)).trans hx129_1
          replace hx129_2 := (HB.out.cell (World.block_lt_of_cell? w _ hx129_2)).trans hx129_2
          replace hx129_3 := (HB.out.cell (World.block_lt_of_cell? w _ hx129_3)).trans hx129_3
          replace hx129_4 := (HB.out.cell (World.block_lt_of_cell? w _ hx129_4)).trans hx129_4
          replace hx129_5 := (HB.out.cell (World.block_lt_of_cell? w _ hx129_5)).trans hx129_5
          replace hx129_6 := (HB.out.cell (World.block_lt_of_cell? w _ hx129_6)).trans hx129_6
          replace hx129_7 := (HB.out.cell (World.block_lt_of_cell? w _ hx129_7)).trans hx129_7
          replace hx129_8 := (HB.out.cell (World.block_lt_of_cell? w _ hx129_8)).trans hx129_8
          replace p129 := eq_true p129
          replace q129 := eq_true q129
          go_wp2_with (first | ((with_reducible refine gate_callee (f := 21) rfl ?_); refine goesL_ (some 45) rfl rfl Try.func21 (by kernel_rfl) rfl #[.agg #[.int .i64 ((rd_T47 l0 x7_2).f0), .int .i64 ((rd_T47 l0 x7_2).f1.f0), .int .i64 ((rd_T47 l0 x7_2).f1.f1), .int .i64 ((rd_T47 l0 x7_2).f1.f2), .int .i64 ((rd_T47 l0 x7_2).f1.f3), .int .i64 ((rd_T47 l0 x7_2).f2), .bool ((rd_T47 l0 x7_2).f3), .int .i64 ((rd_T47 l0 x7_2).f4), .int .i64 ((rd_T47 l0 x7_2).f5)]] rfl (by (try simp only [List.map_toArray, List.map_cons, List.map_nil]); first | done | rfl | (simp only [List.length_drop, List.length_take]; rfl) | (simp only [*]; first | done | rfl)) ?_; (with_reducible refine (demerit_Forced.calls ((rd_T47 l0 x7_2).f0) ((rd_T47 l0 x7_2).f1.f0) ((rd_T47 l0 x7_2).f1.f1) ((rd_T47 l0 x7_2).f1.f2) ((rd_T47 l0 x7_2).f1.f3) ((rd_T47 l0 x7_2).f2) ((rd_T47 l0 x7_2).f3) ((rd_T47 l0 x7_2).f4) ((rd_T47 l0 x7_2).f5) false _ A22.out).mono ?_); rintro e w25 ⟨rfl, hb⟩; refine ⟨_, rfl, ?_⟩; have n0_ := Aside0.mk (below_step (by repeat (first | (with_reducible first | exact HB.out | apply below_alloc | apply pw_below_drewN | apply below_drew1) | exact HB.out)) hb); clear HB; have HB := n0_; clear n0_; (try clear hb); (try clear hb2); (try clear hk); (try clear hi)))
          go_roundg k2
          case measure => have := HJ3.out; have := HK2.out; omega
          case rel => exact ⟨(wrap64 (x7_2 + 1)), (by first | rfl | (simp; done) | (simp [*]; done)), H', ⟨by have := HJ3.out; have := HK2.out; omega⟩, ⟨by repeat (first | (with_reducible first | exact HB.out | apply below_alloc | apply pw_below_drewN | apply below_drew1) | exact HB.out)⟩⟩
        ·rw [if_neg c21] at H
         exact absurd H (by simp)
       ·rw [if_neg c20] at H
        exact absurd H (by simp)
      ·rw [if_neg c19] at H
       have c19b0 : decide (x7_2 < a2) = false := decide_eq_false c19
       clear c19
       obtain rfl := Option.some.inj H
       go_wp2
       go_ret
       exact ⟨by first | rfl | (simp [errW_none, errW_some] <;> rfl) | (simp [*, errW_none, errW_some] <;> rfl), by repeat (first | (with_reducible first | exact HB.out | apply below_alloc | apply pw_below_drewN | apply below_drew1) | exact HB.out)⟩

/-! ### scaled_Fits: function 38 -/
def scaled_Fits.f (a0 : Int) : Option (Bool) := if a0 ≥ (-1073741823) then (some (decide (a0 ≤ 1073741823))) else (some false)
set_option maxHeartbeats 8000000 in
set_option maxRecDepth 100000 in
theorem scaled_Fits.calls (a0 : Int) (r : Bool) (w : World) (h : scaled_Fits.f a0 = some r) :
  Calls Try.prog 38 #[.int .i64 a0] w fun e w' => e = .returned (.bool r) ∧ Drawn0 w w' := by
 have H : (if a0 ≥ (-1073741823) then (some (decide (a0 ≤ 1073741823))) else (some false)) = some r := h
 clear h
 by_cases c2 : a0 ≥ (-1073741823)
 ·rw [if_pos c2] at H
  have c2b0 : decide ((-1073741823) ≤ a0) = true := decide_eq_true c2
  clear c2
  obtain rfl := Option.some.inj H
  go_enter Try.func38, Try.ntmps38
  go_wp2
  go_ret
  exact ⟨by first | rfl | (simp; done) | (simp [*]; done), by repeat (first | exact Drawn0.refl _ | apply Drawn0.step)⟩
 ·rw [if_neg c2] at H
  have c2b0 : decide ((-1073741823) ≤ a0) = false := decide_eq_false c2
  clear c2
  obtain rfl := Option.some.inj H
  go_enter Try.func38, Try.ntmps38
  go_wp2
  go_ret
  exact ⟨by first | rfl | (simp; done) | (simp [*]; done), by repeat (first | exact Drawn0.refl _ | apply Drawn0.step)⟩

/-! ### glue_amount: function 39 -/
def glue_amount.f (a0 : Int) : Option (Bool) := if a0 ≥ 0 then ((scaled_Fits.f a0).bind fun t131 => (some t131)) else (some false)
set_option maxHeartbeats 8000000 in
set_option maxRecDepth 100000 in
theorem glue_amount.calls (a0 : Int) (r : Bool) (w : World) (h : glue_amount.f a0 = some r) :
  Calls Try.prog 39 #[.int .i64 a0] w fun e w' => e = .returned (.bool r) ∧ Drawn0 w w' := by
 have H : (if a0 ≥ 0 then ((scaled_Fits.f a0).bind fun t131 => (some t131)) else (some false)) = some r := h
 clear h
 by_cases c2 : a0 ≥ 0
 ·rw [if_pos c2] at H
  have c2b0 : decide (0 ≤ a0) = true := decide_eq_true c2
  clear c2
  replace H := Option.bind_eq_some_iff.mp H
  obtain ⟨t131, A30, H⟩ := H
  replace H : (some t131) = some r := H
  have A3 := Aside0.mk A30
  clear A30
  obtain rfl := Option.some.inj H
  go_enter Try.func39, Try.ntmps39
  go_wp2_with (first | (go_at_call 38; (with_reducible refine (scaled_Fits.calls a0 t131 _ A3.out).mono ?_); rintro e w' ⟨rfl, ⟨nd, rfl⟩⟩))
  go_ret
  exact ⟨by first | rfl | (simp; done) | (simp [*]; done), by repeat (first | exact Drawn0.refl _ | apply Drawn0.step)⟩
 ·rw [if_neg c2] at H
  have c2b0 : decide (0 ≤ a0) = false := decide_eq_false c2
  clear c2
  obtain rfl := Option.some.inj H
  go_enter Try.func39, Try.ntmps39
  go_wp2
  go_ret
  exact ⟨by first | rfl | (simp; done) | (simp [*]; done), by repeat (first | exact Drawn0.refl _ | apply Drawn0.step)⟩

/-! ### glue_May: function 36 -/
def glue_May.l0 : Nat → List (S45) → Int → Int → Int → Int → Int → Option (Bool)
 | 0, _, _, _, _, _, _ => none
 | k + 1, x9, x10, x11, x133000, x133001, x133002 => if x11 < x10 then (if 0 ≤ x11 then (if x11 < (x9.length : Int) then ((scaled_Fits.f ((rd_T45 x9 x11).f0)).bind fun t138 => (if t138 = true then ((glue_amount.f ((rd_T45 x9 x11).f1)).bind fun t139 => (if t139 = true then ((glue_amount.f ((rd_T45 x9 x11).f2)).bind fun t140 => (if t140 = true then (if ((rd_T45 x9 x11).f3) < 0 then (some false) else (if ((rd_T45 x9 x11).f3) > 3 then (some false) else (glue_May.l0 k x9 x10 (wrap64 (x11 + 1)) (wrap64 (x133000 + (mx ((rd_T45 x9 x11).f0) (wrap64 (-((rd_T45 x9 x11).f0)))))) (wrap64 (x133001 + ((rd_T45 x9 x11).f1))) (wrap64 (x133002 + ((rd_T45 x9 x11).f2)))))) else (some false))) else (some false))) else (some false))) else (none)) else (none)) else ((glue_amount.f x133000).bind fun t133 => (if t133 = true then ((glue_amount.f x133001).bind fun t134 => (if t134 = true then ((glue_amount.f x133002).bind fun t135 => (some t135)) else (some false))) else (some false)))
def glue_May.f (k : Nat) (l0 : List (S45)) : Option (Bool) := if (l0.length : Int) > 2000 then (some false) else (glue_May.l0 k l0 (l0.length : Int) 0 0 0 0)
theorem glue_May.mono_l : ∀ k, (∀ y0 y1 y2 y3 y4 y5, LeO (glue_May.l0 k y0 y1 y2 y3 y4 y5) (glue_May.l0 (k + 1) y0 y1 y2 y3 y4 y5))
 | 0 => fun _ _ _ _ _ _ r h => by simp [glue_May.l0] at h
 | k + 1 => by
  have ih0 := glue_May.mono_l k
  ·intro y0 y1 y2 y3 y4 y5
   unfold glue_May.l0
   repeat' first
   | (with_reducible exact ih0 _ _ _ _ _ _)
   | (with_reducible exact LeO.refl _)
   | (with_reducible exact LeO.none _)
   | (with_reducible refine LeO.ite ?_ ?_)
   | (with_reducible refine LeO.bind ?_ (fun _ => ?_))
   | exact ih0 _ _ _ _ _ _
   | exact LeO.none _
   | refine LeO.ite ?_ ?_
   | refine LeO.bind ?_ (fun _ => ?_)
theorem glue_May.mono : ∀ a0 k, LeO (glue_May.f k a0) (glue_May.f (k + 1) a0) := by
 intro a0 k
 have ih0 := glue_May.mono_l k
 unfold glue_May.f
 repeat' first
   | (with_reducible exact ih0 _ _ _ _ _ _)
   | (with_reducible exact LeO.refl _)
   | (with_reducible exact LeO.none _)
   | (with_reducible refine LeO.ite ?_ ?_)
   | (with_reducible refine LeO.bind ?_ (fun _ => ?_))
   | exact ih0 _ _ _ _ _ _
   | exact LeO.none _
   | refine LeO.ite ?_ ?_
   | refine LeO.bind ?_ (fun _ => ?_)
set_option maxHeartbeats 8000000 in
set_option maxRecDepth 100000 in
theorem glue_May.calls (k : Nat) (A0 : Option Addr) (c0 : Nat) (l0 : List (S45)) (r : Bool) (w : World) (hr0 : Kd.C k45 w A0 l0.length l0) (hc0 : l0.length ≤ c0) (h : glue_May.f k l0 = some r) :
  Calls Try.prog 36 #[.slice A0 l0.length c0] w fun e w' => e = .returned (.bool r) ∧ Below w.heap.size w w' := by
 have hu64 := Try.underlying64
 have hu45 := Try.underlying45
 have HR0 := Aside0.mk hr0
 have HC0 := Aside0.mk hc0
 clear hr0 hc0
 have HB := Aside0.mk (Below.refl w.heap.size w)
 have H : (if (l0.length : Int) > 2000 then (some false) else (glue_May.l0 k l0 (l0.length : Int) 0 0 0 0)) = some r := h
 clear h
 by_cases c2 : (l0.length : Int) > 2000
 ·rw [if_pos c2] at H
  have c2b0 : decide (2000 < (l0.length : Int)) = true := decide_eq_true c2
  have c2b1 : decide (2000 < l0.length) = true := decide_eq_true (by omega)
  clear c2
  obtain rfl := Option.some.inj H
  go_enter Try.func36, Try.ntmps36
  go_wp2
  go_ret
  exact ⟨by first | rfl | (simp [errW_none, errW_some] <;> rfl) | (simp [*, errW_none, errW_some] <;> rfl), by repeat (first | (with_reducible first | exact HB.out | apply below_alloc | apply pw_below_drewN | apply below_drew1) | exact HB.out)⟩
 ·rw [if_neg c2] at H
  have c2b0 : decide (2000 < (l0.length : Int)) = false := decide_eq_false c2
  have c2b1 : decide (2000 < l0.length) = false := decide_eq_false (by omega)
  clear c2
  have H' := Aside0.mk H
  clear H
  go_enter Try.func36, Try.ntmps36
  go_wp2_with (first | ((with_reducible refine gate_dst (N := 3) rfl ?_); refine box_event ?hg (N := 3) ?hd (cs := #[.int .i64 0, .int .i64 0, .int .i64 0]) (t := 64) ?hr ?_; (case hd => rfl); (case hg => rfl); (case hr => first | (go_simp; done) | (go_simp; rfl)); intro gb132 hg w3 hbox hb; have n0_ := Aside0.mk (below_step (by repeat (first | (with_reducible first | exact HB.out | apply below_alloc | apply pw_below_drewN | apply below_drew1) | exact HB.out)) hb); have n1_ := Aside0.mk (hbox); have n2_ := Aside0.mk ((by rw [hg]; exact (below_size (by repeat (first | (with_reducible first | exact HB.out | apply below_alloc | apply pw_below_drewN | apply below_drew1) | exact HB.out))) : w.heap.size ≤ gb132)); have n3_ := Aside0.mk ((by rw [hg]; exact (below_size (by repeat (first | (with_reducible first | exact HB.out | apply below_alloc | apply pw_below_drewN | apply below_drew1) | exact HB.out))) : w.heap.size ≤ gb132)); clear HB; have HB := n0_; have BK132 := n1_; have GW132 := n2_; have GE132 := n3_; clear n0_ n1_ n2_ n3_; clear hb hbox hg))
  go_loopg [11] k (fun kq v11 w' => ∃ (x11_1 : Int) (x133000_1 : Int) (x133001_1 : Int) (x133002_1 : Int), v11 = .int .i64 x11_1 ∧ Aside0 (glue_May.l0 kq l0 (l0.length : Int) x11_1 x133000_1 x133001_1 x133002_1 = some r) ∧ Aside0 (kq ≤ k) ∧ Aside0 (w'.heap[gb132]? = some (.cells #[.int .i64 x133000_1, .int .i64 x133001_1, .int .i64 x133002_1] 64 (0, 0))) ∧ Aside0 (Below w.heap.size w w'))
  case atStart => exact ⟨(0), (0), (0), (0), (by first | rfl | (simp; done) | (simp [*]; done)), H', ⟨Nat.le_refl _⟩, ⟨by (with_reducible repeat (first | refine blk_drewN ?_ _ | refine blk_drew ?_ | refine blk_alloc ?_ _)); exact BK132.out⟩, ⟨by repeat (first | (with_reducible first | exact HB.out | apply below_alloc | apply pw_below_drewN | apply below_drew1 | refine below_set ?_ GE132.out) | exact HB.out)⟩⟩
  case round =>
   clear H'
   try clear c2
   try clear c2b0
   try clear c2b1
   try clear p2
   try clear c3
   obtain ⟨x11_1, x133000_1, x133001_1, x133002_1, rfl, HA, HK1, BK132, HB⟩ := hrel
   cases gk with
   | zero => exact absurd HA.out (by simp [glue_May.l0])
   | succ k1 =>
    have H := HA.out
    clear HA
    simp only [glue_May.l0] at H
    by_cases c4 : x11_1 < (l0.length : Int)
    ·rw [if_pos c4] at H
     have c4b0 : decide (x11_1 < (l0.length : Int)) = true := decide_eq_true c4
     clear c4
     by_cases c5 : 0 ≤ x11_1
     ·rw [if_pos c5] at H
      have c5b0 : decide (0 ≤ x11_1) = true := decide_eq_true c5
      clear c5
      by_cases c6 : x11_1 < (l0.length : Int)
      ·rw [if_pos c6] at H
       have c6b0 : decide (x11_1 < (l0.length : Int)) = true := decide_eq_true c6
       clear c6
       replace H := Option.bind_eq_some_iff.mp H
       obtain ⟨t138, A70, H⟩ := H
       replace H : (if t138 = true then ((glue_amount.f ((rd_T45 l0 x11_1).f1)).bind fun t139 => (if t139 = true then ((glue_amount.f ((rd_T45 l0 x11_1).f2)).bind fun t140 => (if t140 = true then (if ((rd_T45 l0 x11_1).f3) < 0 then (some false) else (if ((rd_T45 l0 x11_1).f3) > 3 then (some false) else (glue_May.l0 k1 l0 (l0.length : Int) (wrap64 (x11_1 + 1)) (wrap64 (x133000_1 + (mx ((rd_T45 l0 x11_1).f0) (wrap64 (-((rd_T45 l0 x11_1).f0)))))) (wrap64 (x133001_1 + ((rd_T45 l0 x11_1).f1))) (wrap64 (x133002_1 + ((rd_T45 l0 x11_1).f2)))))) else (some false))) else (some false))) else (some false)) = some r := H
       have A7 := Aside0.mk A70
       clear A70
       by_cases c8 : t138 = true
       ·subst c8
        have H1 : ((glue_amount.f ((rd_T45 l0 x11_1).f1)).bind fun t139 => (if t139 = true then ((glue_amount.f ((rd_T45 l0 x11_1).f2)).bind fun t140 => (if t140 = true then (if ((rd_T45 l0 x11_1).f3) < 0 then (some false) else (if ((rd_T45 l0 x11_1).f3) > 3 then (some false) else (glue_May.l0 k1 l0 (l0.length : Int) (wrap64 (x11_1 + 1)) (wrap64 (x133000_1 + (mx ((rd_T45 l0 x11_1).f0) (wrap64 (-((rd_T45 l0 x11_1).f0)))))) (wrap64 (x133001_1 + ((rd_T45 l0 x11_1).f1))) (wrap64 (x133002_1 + ((rd_T45 l0 x11_1).f2)))))) else (some false))) else (some false))) = some r := by rw [if_pos rfl] at H; exact H
        clear H
        have H := H1
        clear H1
        replace H := Option.bind_eq_some_iff.mp H
        obtain ⟨t139, A90, H⟩ := H
        replace H : (if t139 = true then ((glue_amount.f ((rd_T45 l0 x11_1).f2)).bind fun t140 => (if t140 = true then (if ((rd_T45 l0 x11_1).f3) < 0 then (some false) else (if ((rd_T45 l0 x11_1).f3) > 3 then (some false) else (glue_May.l0 k1 l0 (l0.length : Int) (wrap64 (x11_1 + 1)) (wrap64 (x133000_1 + (mx ((rd_T45 l0 x11_1).f0) (wrap64 (-((rd_T45 l0 x11_1).f0)))))) (wrap64 (x133001_1 + ((rd_T45 l0 x11_1).f1))) (wrap64 (x133002_1 + ((rd_T45 l0 x11_1).f2)))))) else (some false))) else (some false)) = some r := H
        have A9 := Aside0.mk A90
        clear A90
        by_cases c10 : t139 = true
        ·subst c10
         have H1 : ((glue_amount.f ((rd_T45 l0 x11_1).f2)).bind fun t140 => (if t140 = true then (if ((rd_T45 l0 x11_1).f3) < 0 then (some false) else (if ((rd_T45 l0 x11_1).f3) > 3 then (some false) else (glue_May.l0 k1 l0 (l0.length : Int) (wrap64 (x11_1 + 1)) (wrap64 (x133000_1 + (mx ((rd_T45 l0 x11_1).f0) (wrap64 (-((rd_T45 l0 x11_1).f0)))))) (wrap64 (x133001_1 + ((rd_T45 l0 x11_1).f1))) (wrap64 (x133002_1 + ((rd_T45 l0 x11_1).f2)))))) else (some false))) = some r := by rw [if_pos rfl] at H; exact H
         clear H
         have H := H1
         clear H1
         replace H := Option.bind_eq_some_iff.mp H
         obtain ⟨t140, A110, H⟩ := H
         replace H : (if t140 = true then (if ((rd_T45 l0 x11_1).f3) < 0 then (some false) else (if ((rd_T45 l0 x11_1).f3) > 3 then (some false) else (glue_May.l0 k1 l0 (l0.length : Int) (wrap64 (x11_1 + 1)) (wrap64 (x133000_1 + (mx ((rd_T45 l0 x11_1).f0) (wrap64 (-((rd_T45 l0 x11_1).f0)))))) (wrap64 (x133001_1 + ((rd_T45 l0 x11_1).f1))) (wrap64 (x133002_1 + ((rd_T45 l0 x11_1).f2)))))) else (some false)) = some r := H
         have A11 := Aside0.mk A110
         clear A110
         by_cases c12 : t140 = true
         ·subst c12
          have H1 : (if ((rd_T45 l0 x11_1).f3) < 0 then (some false) else (if ((rd_T45 l0 x11_1).f3) > 3 then (some false) else (glue_May.l0 k1 l0 (l0.length : Int) (wrap64 (x11_1 + 1)) (wrap64 (x133000_1 + (mx ((rd_T45 l0 x11_1).f0) (wrap64 (-((rd_T45 l0 x11_1).f0)))))) (wrap64 (x133001_1 + ((rd_T45 l0 x11_1).f1))) (wrap64 (x133002_1 + ((rd_T45 l0 x11_1).f2)))))) = some r := by rw [if_pos rfl] at H; exact H
          clear H
          have H := H1
          clear H1
          by_cases c13 : ((rd_T45 l0 x11_1).f3) < 0
          ·rw [if_pos c13] at H
           have c13b0 : decide (((rd_T45 l0 x11_1).f3) < 0) = true := decide_eq_true c13
           clear c13
           obtain rfl := Option.some.inj H
           have p136 : 0 ≤ (x11_1 : Int) := of_decide_eq_true (by first | (with_reducible assumption) | assumption)
           have q136 : x11_1 < (l0.length : Int) := of_decide_eq_true (by first | (with_reducible assumption) | assumption)
           obtain ⟨ad136, e136, hx136_0, hx136_1, hx136_2, hx136_3⟩ := at_T45 HR0.out x11_1 p136 q136
           cases e136
           replace hx136_0 := (HB.out.cell (World.block_lt_of_cell? w _ hx136_0)).trans hx136_0
           replace hx136_1 := (HB.out.cell (World.block_lt_of_cell? w _ hx136_1)).trans hx136_1
           replace hx136_2 := (HB.out.cell (World.block_lt_of_cell? w _ hx136_2)).trans hx136_2
           replace hx136_3 := (HB.out.cell (World.block_lt_of_cell? w _ hx136_3)).trans hx136_3
           replace p136 := eq_true p136
           replace q136 := eq_true q136
           go_wp2_with (first | ((with_reducible refine gate_dst (N := 5) rfl ?_); refine box_event ?hg (N := 5) ?hd (cs := #[.int .i64 0, .int .i64 0, .int .i64 0, .int .i64 0]) (t := 45) ?hr ?_; (case hd => rfl); (case hg => rfl); (case hr => first | (go_simp; done) | (go_simp; rfl)); intro gb137 hg w14 hbox hb; have n0_ := Aside0.mk (blk_below (g := gb132) (o := .cells #[.int .i64 x133000_1, .int .i64 x133001_1, .int .i64 x133002_1] 64 (0, 0)) (by (with_reducible repeat (first | refine blk_drewN ?_ _ | refine blk_drew ?_ | refine blk_alloc ?_ _)); exact BK132.out) hb); have n1_ := Aside0.mk (below_step (by repeat (first | (with_reducible first | exact HB.out | apply below_alloc | apply pw_below_drewN | apply below_drew1 | refine below_set ?_ GE132.out) | exact HB.out)) hb); have n2_ := Aside0.mk (hbox); have n3_ := Aside0.mk ((by rw [hg]; exact (below_size (by repeat (first | (with_reducible first | exact HB.out | apply below_alloc | apply pw_below_drewN | apply below_drew1 | refine below_set ?_ GE132.out) | exact HB.out))) : w.heap.size ≤ gb137)); have n4_ := Aside0.mk ((by rw [hg]; exact (below_size (by repeat (first | (with_reducible first | exact HB.out | apply below_alloc | apply pw_below_drewN | apply below_drew1 | refine below_set ?_ GE132.out) | exact HB.out))) : w.heap.size ≤ gb137)); have n5_ := Aside0.mk ((by rw [hg]; exact Nat.ne_of_lt (blk_lt (g := gb132) (o := .cells #[.int .i64 x133000_1, .int .i64 x133001_1, .int .i64 x133002_1] 64 (0, 0)) (by (with_reducible repeat (first | refine blk_drewN ?_ _ | refine blk_drew ?_ | refine blk_alloc ?_ _)); exact BK132.out)) : gb132 ≠ gb137)); have n6_ := Aside0.mk ((by rw [hg]; exact Nat.ne_of_gt (blk_lt (g := gb132) (o := .cells #[.int .i64 x133000_1, .int .i64 x133001_1, .int .i64 x133002_1] 64 (0, 0)) (by (with_reducible repeat (first | refine blk_drewN ?_ _ | refine blk_drew ?_ | refine blk_alloc ?_ _)); exact BK132.out)) : gb137 ≠ gb132)); clear BK132; clear HB; have BK132 := n0_; have HB := n1_; have BK137 := n2_; have GW137 := n3_; have GE137 := n4_; have NB132_137 := n5_; have NB137_132 := n6_; clear n0_ n1_ n2_ n3_ n4_ n5_ n6_; clear hb hbox hg; have hnb15 := NB137_132.out; have hnc15 := NB132_137.out; have hcz16_0 : w14.cell? ⟨gb137, 0, none⟩ = some (.int .i64 0) := (blk_cell BK137.out 0).trans rfl; have hcz16_1 : w14.cell? ⟨gb137, 1, none⟩ = some (.int .i64 0) := (blk_cell BK137.out 1).trans rfl; have hcz16_2 : w14.cell? ⟨gb137, 2, none⟩ = some (.int .i64 0) := (blk_cell BK137.out 2).trans rfl; have hcz16_3 : w14.cell? ⟨gb137, 3, none⟩ = some (.int .i64 0) := (blk_cell BK137.out 3).trans rfl; have hfz16_0 := blk_frozen BK137.out 0; have hfz16_1 := blk_frozen BK137.out 1; have hfz16_2 := blk_frozen BK137.out 2; have hfz16_3 := blk_frozen BK137.out 3) | ((with_reducible refine gate_callee (f := 38) rfl ?_); refine goesL_ (some 17) rfl rfl Try.func38 (by kernel_rfl) rfl #[.int .i64 ((rd_T45 l0 x11_1).f0)] rfl (by (try simp only [List.map_toArray, List.map_cons, List.map_nil]); first | done | rfl | (simp only [List.length_drop, List.length_take]; rfl) | (simp only [*]; first | done | rfl)) ?_; (with_reducible refine (scaled_Fits.calls ((rd_T45 l0 x11_1).f0) true _ A7.out).mono ?_); rintro e w' ⟨rfl, ⟨nd, rfl⟩⟩; refine ⟨_, rfl, ?_⟩) | (go_at_call 39; (with_reducible refine (glue_amount.calls ((rd_T45 l0 x11_1).f1) true _ A9.out).mono ?_); rintro e w' ⟨rfl, ⟨nd, rfl⟩⟩) | (go_at_call 39; (with_reducible refine (glue_amount.calls ((rd_T45 l0 x11_1).f2) true _ A11.out).mono ?_); rintro e w' ⟨rfl, ⟨nd, rfl⟩⟩))
           go_ret
           exact ⟨by first | rfl | (simp [errW_none, errW_some] <;> rfl) | (simp [*, errW_none, errW_some] <;> rfl), by repeat (first | (with_reducible first | exact HB.out | apply below_alloc | apply pw_below_drewN | apply below_drew1 | refine below_set ?_ GE132.out | refine below_set ?_ GE137.out) | exact HB.out)⟩
          ·rw [if_neg c13] at H
           have c13b0 : decide (((rd_T45 l0 x11_1).f3) < 0) = false := decide_eq_false c13
           clear c13
           by_cases c17 : ((rd_T45 l0 x11_1).f3) > 3
           ·rw [if_pos c17] at H
            have c17b0 : decide (3 < ((rd_T45 l0 x11_1).f3)) = true := decide_eq_true c17
            clear c17
            obtain rfl := Option.some.inj H
            have p136 : 0 ≤ (x11_1 : Int) := of_decide_eq_true (by first | (with_reducible assumption) | assumption)
            have q136 : x11_1 < (l0.length : Int) := of_decide_eq_true (by first | (with_reducible assumption) | assumption)
            obtain ⟨ad136, e136, hx136_0, hx136_1, hx136_2, hx136_3⟩ := at_T45 HR0.out x11_1 p136 q136
            cases e136
            replace hx136_0 := (HB.out.cell (World.block_lt_of_cell? w _ hx136_0)).trans hx136_0
            replace hx136_1 := (HB.out.cell (World.block_lt_of_cell? w _ hx136_1)).trans hx136_1
            replace hx136_2 := (HB.out.cell (World.block_lt_of_cell? w _ hx136_2)).trans hx136_2
            replace hx136_3 := (HB.out.cell (World.block_lt_of_cell? w _ hx136_3)).trans hx136_3
            replace p136 := eq_true p136
            replace q136 := eq_true q136
            go_wp2_with (first | ((with_reducible refine gate_dst (N := 5) rfl ?_); refine box_event ?hg (N := 5) ?hd (cs := #[.int .i64 0, .int .i64 0, .int .i64 0, .int .i64 0]) (t := 45) ?hr ?_; (case hd => rfl); (case hg => rfl); (case hr => first | (go_simp; done) | (go_simp; rfl)); intro gb137 hg w18 hbox hb; have n0_ := Aside0.mk (blk_below (g := gb132) (o := .cells #[.int .i64 x133000_1, .int .i64 x133001_1, .int .i64 x133002_1] 64 (0, 0)) (by (with_reducible repeat (first | refine blk_drewN ?_ _ | refine blk_drew ?_ | refine blk_alloc ?_ _)); exact BK132.out) hb); have n1_ := Aside0.mk (below_step (by repeat (first | (with_reducible first | exact HB.out | apply below_alloc | apply pw_below_drewN | apply below_drew1 | refine below_set ?_ GE132.out) | exact HB.out)) hb); have n2_ := Aside0.mk (hbox); have n3_ := Aside0.mk ((by rw [hg]; exact (below_size (by repeat (first | (with_reducible first | exact HB.out | apply below_alloc | apply pw_below_drewN | apply below_drew1 | refine below_set ?_ GE132.out) | exact HB.out))) : w.heap.size ≤ gb137)); have n4_ := Aside0.mk ((by rw [hg]; exact (below_size (by repeat (first | (with_reducible first | exact HB.out | apply below_alloc | apply pw_below_drewN | apply below_drew1 | refine below_set ?_ GE132.out) | exact HB.out))) : w.heap.size ≤ gb137)); have n5_ := Aside0.mk ((by rw [hg]; exact Nat.ne_of_lt (blk_lt (g := gb132) (o := .cells #[.int .i64 x133000_1, .int .i64 x133001_1, .int .i64 x133002_1] 64 (0, 0)) (by (with_reducible repeat (first | refine blk_drewN ?_ _ | refine blk_drew ?_ | refine blk_alloc ?_ _)); exact BK132.out)) : gb132 ≠ gb137)); have n6_ := Aside0.mk ((by rw [hg]; exact Nat.ne_of_gt (blk_lt (g := gb132) (o := .cells #[.int .i64 x133000_1, .int .i64 x133001_1, .int .i64 x133002_1] 64 (0, 0)) (by (with_reducible repeat (first | refine blk_drewN ?_ _ | refine blk_drew ?_ | refine blk_alloc ?_ _)); exact BK132.out)) : gb137 ≠ gb132)); clear BK132; clear HB; have BK132 := n0_; have HB := n1_; have BK137 := n2_; have GW137 := n3_; have GE137 := n4_; have NB132_137 := n5_; have NB137_132 := n6_; clear n0_ n1_ n2_ n3_ n4_ n5_ n6_; clear hb hbox hg; have hnb19 := NB137_132.out; have hnc19 := NB132_137.out; have hcz20_0 : w18.cell? ⟨gb137, 0, none⟩ = some (.int .i64 0) := (blk_cell BK137.out 0).trans rfl; have hcz20_1 : w18.cell? ⟨gb137, 1, none⟩ = some (.int .i64 0) := (blk_cell BK137.out 1).trans rfl; have hcz20_2 : w18.cell? ⟨gb137, 2, none⟩ = some (.int .i64 0) := (blk_cell BK137.out 2).trans rfl; have hcz20_3 : w18.cell? ⟨gb137, 3, none⟩ = some (.int .i64 0) := (blk_cell BK137.out 3).trans rfl; have hfz20_0 := blk_frozen BK137.out 0; have hfz20_1 := blk_frozen BK137.out 1; have hfz20_2 := blk_frozen BK137.out 2; have hfz20_3 := blk_frozen BK137.out 3) | ((with_reducible refine gate_callee (f := 38) rfl ?_); refine goesL_ (some 17) rfl rfl Try.func38 (by kernel_rfl) rfl #[.int .i64 ((rd_T45 l0 x11_1).f0)] rfl (by (try simp only [List.map_toArray, List.map_cons, List.map_nil]); first | done | rfl | (simp only [List.length_drop, List.length_take]; rfl) | (simp only [*]; first | done | rfl)) ?_; (with_reducible refine (scaled_Fits.calls ((rd_T45 l0 x11_1).f0) true _ A7.out).mono ?_); rintro e w' ⟨rfl, ⟨nd, rfl⟩⟩; refine ⟨_, rfl, ?_⟩) | (go_at_call 39; (with_reducible refine (glue_amount.calls ((rd_T45 l0 x11_1).f1) true _ A9.out).mono ?_); rintro e w' ⟨rfl, ⟨nd, rfl⟩⟩) | (go_at_call 39; (with_reducible refine (glue_amount.calls ((rd_T45 l0 x11_1).f2) true _ A11.out).mono ?_); rintro e w' ⟨rfl, ⟨nd, rfl⟩⟩))
            go_ret
            exact ⟨by first | rfl | (simp [errW_none, errW_some] <;> rfl) | (simp [*, errW_none, errW_some] <;> rfl), by repeat (first | (with_reducible first | exact HB.out | apply below_alloc | apply pw_below_drewN | apply below_drew1 | refine below_set ?_ GE132.out | refine below_set ?_ GE137.out) | exact HB.out)⟩
           ·rw [if_neg c17] at H
            have c17b0 : decide (3 < ((rd_T45 l0 x11_1).f3)) = false := decide_eq_false c17
            clear c17
            obtain ⟨ji21, hji21⟩ : ∃ j_ : Int, (mx ((rd_T45 l0 x11_1).f0) (wrap64 (-((rd_T45 l0 x11_1).f0)))) = j_ := ⟨_, rfl⟩
            replace H : (glue_May.l0 k1 l0 (l0.length : Int) (wrap64 (x11_1 + 1)) (wrap64 (x133000_1 + (ji21))) (wrap64 (x133001_1 + ((rd_T45 l0 x11_1).f1))) (wrap64 (x133002_1 + ((rd_T45 l0 x11_1).f2)))) = some r := by first | (rw [hji21] at H; exact H) | (simp only [hji21] at H ⊢; exact H)
            (try rw [hji21] at A7)
            (try rw [hji21] at A9)
            (try rw [hji21] at A11)
            have hji21_ : (if ((rd_T45 l0 x11_1).f0) < (wrap64 (-((rd_T45 l0 x11_1).f0))) then (wrap64 (-((rd_T45 l0 x11_1).f0))) else ((rd_T45 l0 x11_1).f0)) = ji21 := hji21
            have H' := Aside0.mk H
            clear H
            have p136 : 0 ≤ (x11_1 : Int) := of_decide_eq_true (by first | (with_reducible assumption) | assumption)
            have q136 : x11_1 < (l0.length : Int) := of_decide_eq_true (by first | (with_reducible assumption) | assumption)
            obtain ⟨ad136, e136, hx136_0, hx136_1, hx136_2, hx136_3⟩ := at_T45 HR0.out x11_1 p136 q136
            cases e136
            replace hx136_0 := (HB.out.cell (World.block_lt_of_cell? w _ hx136_0)).trans hx136_0
            replace hx136_1 := (HB.out.cell (World.block_lt_of_cell? w _ hx136_1)).trans hx136_1
            replace hx136_2 := (HB.out.cell (World.block_lt_of_cell? w _ hx136_2)).trans hx136_2
            replace hx136_3 := (HB.out.cell (World.block_lt_of_cell? w _ hx136_3)).trans hx136_3
            replace p136 := eq_true p136
            replace q136 := eq_true q136
            go_wp2_with (first | ((with_reducible refine gate_dst (N := 5) rfl ?_); refine box_event ?hg (N := 5) ?hd (cs := #[.int .i64 0, .int .i64 0, .int .i64 0, .int .i64 0]) (t := 45) ?hr ?_; (case hd => rfl); (case hg => rfl); (case hr => first | (go_simp; done) | (go_simp; rfl)); intro gb137 hg w22 hbox hb; have n0_ := Aside0.mk (blk_below (g := gb132) (o := .cells #[.int .i64 x133000_1, .int .i64 x133001_1, .int .i64 x133002_1] 64 (0, 0)) (by (with_reducible repeat (first | refine blk_drewN ?_ _ | refine blk_drew ?_ | refine blk_alloc ?_ _)); exact BK132.out) hb); have n1_ := Aside0.mk (below_step (by repeat (first | (with_reducible first | exact HB.out | apply below_alloc | apply pw_below_drewN | apply below_drew1 | refine below_set ?_ GE132.out) | exact HB.out)) hb); have n2_ := Aside0.mk (hbox); have n3_ := Aside0.mk ((by rw [hg]; exact (below_size (by repeat (first | (with_reducible first | exact HB.out | apply below_alloc | apply pw_below_drewN | apply below_drew1 | refine below_set ?_ GE132.out) | exact HB.out))) : w.heap.size ≤ gb137)); have n4_ := Aside0.mk ((by rw [hg]; exact (below_size (by repeat (first | (with_reducible first | exact HB.out | apply below_alloc | apply pw_below_drewN | apply below_drew1 | refine below_set ?_ GE132.out) | exact HB.out))) : w.heap.size ≤ gb137)); have n5_ := Aside0.mk ((by rw [hg]; exact Nat.ne_of_lt (blk_lt (g := gb132) (o := .cells #[.int .i64 x133000_1, .int .i64 x133001_1, .int .i64 x133002_1] 64 (0, 0)) (by (with_reducible repeat (first | refine blk_drewN ?_ _ | refine blk_drew ?_ | refine blk_alloc ?_ _)); exact BK132.out)) : gb132 ≠ gb137)); have n6_ := Aside0.mk ((by rw [hg]; exact Nat.ne_of_gt (blk_lt (g := gb132) (o := .cells #[.int .i64 x133000_1, .int .i64 x133001_1, .int .i64 x133002_1] 64 (0, 0)) (by (with_reducible repeat (first | refine blk_drewN ?_ _ | refine blk_drew ?_ | refine blk_alloc ?_ _)); exact BK132.out)) : gb137 ≠ gb132)); clear BK132; clear HB; have BK132 := n0_; have HB := n1_; have BK137 := n2_; have GW137 := n3_; have GE137 := n4_; have NB132_137 := n5_; have NB137_132 := n6_; clear n0_ n1_ n2_ n3_ n4_ n5_ n6_; clear hb hbox hg; have hnb23 := NB137_132.out; have hnc23 := NB132_137.out; have hcz24_0 : w22.cell? ⟨gb137, 0, none⟩ = some (.int .i64 0) := (blk_cell BK137.out 0).trans rfl; have hcz24_1 : w22.cell? ⟨gb137, 1, none⟩ = some (.int .i64 0) := (blk_cell BK137.out 1).trans rfl; have hcz24_2 : w22.cell? ⟨gb137, 2, none⟩ = some (.int .i64 0) := (blk_cell BK137.out 2).trans rfl; have hcz24_3 : w22.cell? ⟨gb137, 3, none⟩ = some (.int .i64 0) := (blk_cell BK137.out 3).trans rfl; have hfz24_0 := blk_frozen BK137.out 0; have hfz24_1 := blk_frozen BK137.out 1; have hfz24_2 := blk_frozen BK137.out 2; have hfz24_3 := blk_frozen BK137.out 3) | ((with_reducible refine gate_callee (f := 38) rfl ?_); refine goesL_ (some 17) rfl rfl Try.func38 (by kernel_rfl) rfl #[.int .i64 ((rd_T45 l0 x11_1).f0)] rfl (by (try simp only [List.map_toArray, List.map_cons, List.map_nil]); first | done | rfl | (simp only [List.length_drop, List.length_take]; rfl) | (simp only [*]; first | done | rfl)) ?_; (with_reducible refine (scaled_Fits.calls ((rd_T45 l0 x11_1).f0) true _ A7.out).mono ?_); rintro e w' ⟨rfl, ⟨nd, rfl⟩⟩; refine ⟨_, rfl, ?_⟩) | (go_at_call 39; (with_reducible refine (glue_amount.calls ((rd_T45 l0 x11_1).f1) true _ A9.out).mono ?_); rintro e w' ⟨rfl, ⟨nd, rfl⟩⟩) | (go_at_call 39; (with_reducible refine (glue_amount.calls ((rd_T45 l0 x11_1).f2) true _ A11.out).mono ?_); rintro e w' ⟨rfl, ⟨nd, rfl⟩⟩; have hcz25_0 : w22.cell? ⟨gb132, 0, none⟩ = some (.int .i64 x133000_1) := (blk_cell BK132.out 0).trans rfl; have hcz25_1 : w22.cell? ⟨gb132, 1, none⟩ = some (.int .i64 x133001_1) := (blk_cell BK132.out 1).trans rfl; have hcz25_2 : w22.cell? ⟨gb132, 2, none⟩ = some (.int .i64 x133002_1) := (blk_cell BK132.out 2).trans rfl; have hfz25_0 := blk_frozen BK132.out 0; have hfz25_1 := blk_frozen BK132.out 1; have hfz25_2 := blk_frozen BK132.out 2))
            go_roundg k1
            case measure => have := HK1.out; omega
            case rel => exact ⟨(wrap64 (x11_1 + 1)), (wrap64 (x133000_1 + (ji21))), (wrap64 (x133001_1 + ((rd_T45 l0 x11_1).f1))), (wrap64 (x133002_1 + ((rd_T45 l0 x11_1).f2))), (by first | rfl | (simp; done) | (simp [*]; done)), H', ⟨by have := HK1.out; omega⟩, ⟨by (with_reducible repeat (first | refine blk_drewN ?_ _ | refine blk_drew ?_ | refine blk_alloc ?_ _)); refine blk_put (cs := #[.int .i64 (wrap64 (x133000_1 + (ji21))), .int .i64 (wrap64 (x133001_1 + ((rd_T45 l0 x11_1).f1))), .int .i64 x133002_1]) ?_ 2 _ rfl; (with_reducible repeat (first | refine blk_drewN ?_ _ | refine blk_drew ?_ | refine blk_alloc ?_ _)); refine blk_put (cs := #[.int .i64 (wrap64 (x133000_1 + (ji21))), .int .i64 x133001_1, .int .i64 x133002_1]) ?_ 1 _ rfl; (with_reducible repeat (first | refine blk_drewN ?_ _ | refine blk_drew ?_ | refine blk_alloc ?_ _)); refine blk_put (cs := #[.int .i64 x133000_1, .int .i64 x133001_1, .int .i64 x133002_1]) ?_ 0 _ rfl; (with_reducible repeat (first | refine blk_drewN ?_ _ | refine blk_drew ?_ | refine blk_alloc ?_ _)); refine blk_far ?_ NB132_137.out _; (with_reducible repeat (first | refine blk_drewN ?_ _ | refine blk_drew ?_ | refine blk_alloc ?_ _)); refine blk_far ?_ NB132_137.out _; (with_reducible repeat (first | refine blk_drewN ?_ _ | refine blk_drew ?_ | refine blk_alloc ?_ _)); refine blk_far ?_ NB132_137.out _; (with_reducible repeat (first | refine blk_drewN ?_ _ | refine blk_drew ?_ | refine blk_alloc ?_ _)); refine blk_far ?_ NB132_137.out _; (with_reducible repeat (first | refine blk_drewN ?_ _ | refine blk_drew ?_ | refine blk_alloc ?_ _)); exact BK132.out⟩, ⟨by repeat (first | (with_reducible first | exact HB.out | apply below_alloc | apply pw_below_drewN | apply below_drew1 | refine below_set ?_ GE132.out | refine below_set ?_ GE137.out) | exact HB.out)⟩⟩
         ·replace c12 := Bool.eq_false_iff.mpr c12
          subst c12
          have H1 : (some false) = some r := by rw [if_neg (show ¬ (false = true) by decide)] at H; exact H
          clear H
          have H := H1
          clear H1
          obtain rfl := Option.some.inj H
          have p136 : 0 ≤ (x11_1 : Int) := of_decide_eq_true (by first | (with_reducible assumption) | assumption)
          have q136 : x11_1 < (l0.length : Int) := of_decide_eq_true (by first | (with_reducible assumption) | assumption)
          obtain ⟨ad136, e136, hx136_0, hx136_1, hx136_2, hx136_3⟩ := at_T45 HR0.out x11_1 p136 q136
          cases e136
          replace hx136_0 := (HB.out.cell (World.block_lt_of_cell? w _ hx136_0)).trans hx136_0
          replace hx136_1 := (HB.out.cell (World.block_lt_of_cell? w _ hx136_1)).trans hx136_1
          replace hx136_2 := (HB.out.cell (World.block_lt_of_cell? w _ hx136_2)).trans hx136_2
          replace hx136_3 := (HB.out.cell (World.block_lt_of_cell? w _ hx136_3)).trans hx136_3
          replace p136 := eq_true p136
          replace q136 := eq_true q136
          go_wp2_with (first | ((with_reducible refine gate_dst (N := 5) rfl ?_); refine box_event ?hg (N := 5) ?hd (cs := #[.int .i64 0, .int .i64 0, .int .i64 0, .int .i64 0]) (t := 45) ?hr ?_; (case hd => rfl); (case hg => rfl); (case hr => first | (go_simp; done) | (go_simp; rfl)); intro gb137 hg w26 hbox hb; have n0_ := Aside0.mk (blk_below (g := gb132) (o := .cells #[.int .i64 x133000_1, .int .i64 x133001_1, .int .i64 x133002_1] 64 (0, 0)) (by (with_reducible repeat (first | refine blk_drewN ?_ _ | refine blk_drew ?_ | refine blk_alloc ?_ _)); exact BK132.out) hb); have n1_ := Aside0.mk (below_step (by repeat (first | (with_reducible first | exact HB.out | apply below_alloc | apply pw_below_drewN | apply below_drew1 | refine below_set ?_ GE132.out) | exact HB.out)) hb); have n2_ := Aside0.mk (hbox); have n3_ := Aside0.mk ((by rw [hg]; exact (below_size (by repeat (first | (with_reducible first | exact HB.out | apply below_alloc | apply pw_below_drewN | apply below_drew1 | refine below_set ?_ GE132.out) | exact HB.out))) : w.heap.size ≤ gb137)); have n4_ := Aside0.mk ((by rw [hg]; exact (below_size (by repeat (first | (with_reducible first | exact HB.out | apply below_alloc | apply pw_below_drewN | apply below_drew1 | refine below_set ?_ GE132.out) | exact HB.out))) : w.heap.size ≤ gb137)); have n5_ := Aside0.mk ((by rw [hg]; exact Nat.ne_of_lt (blk_lt (g := gb132) (o := .cells #[.int .i64 x133000_1, .int .i64 x133001_1, .int .i64 x133002_1] 64 (0, 0)) (by (with_reducible repeat (first | refine blk_drewN ?_ _ | refine blk_drew ?_ | refine blk_alloc ?_ _)); exact BK132.out)) : gb132 ≠ gb137)); have n6_ := Aside0.mk ((by rw [hg]; exact Nat.ne_of_gt (blk_lt (g := gb132) (o := .cells #[.int .i64 x133000_1, .int .i64 x133001_1, .int .i64 x133002_1] 64 (0, 0)) (by (with_reducible repeat (first | refine blk_drewN ?_ _ | refine blk_drew ?_ | refine blk_alloc ?_ _)); exact BK132.out)) : gb137 ≠ gb132)); clear BK132; clear HB; have BK132 := n0_; have HB := n1_; have BK137 := n2_; have GW137 := n3_; have GE137 := n4_; have NB132_137 := n5_; have NB137_132 := n6_; clear n0_ n1_ n2_ n3_ n4_ n5_ n6_; clear hb hbox hg; have hnb27 := NB137_132.out; have hnc27 := NB132_137.out; have hcz28_0 : w26.cell? ⟨gb137, 0, none⟩ = some (.int .i64 0) := (blk_cell BK137.out 0).trans rfl; have hcz28_1 : w26.cell? ⟨gb137, 1, none⟩ = some (.int .i64 0) := (blk_cell BK137.out 1).trans rfl; have hcz28_2 : w26.cell? ⟨gb137, 2, none⟩ = some (.int .i64 0) := (blk_cell BK137.out 2).trans rfl; have hcz28_3 : w26.cell? ⟨gb137, 3, none⟩ = some (.int .i64 0) := (blk_cell BK137.out 3).trans rfl; have hfz28_0 := blk_frozen BK137.out 0; have hfz28_1 := blk_frozen BK137.out 1; have hfz28_2 := blk_frozen BK137.out 2; have hfz28_3 := blk_frozen BK137.out 3) | ((with_reducible refine gate_callee (f := 38) rfl ?_); refine goesL_ (some 17) rfl rfl Try.func38 (by kernel_rfl) rfl #[.int .i64 ((rd_T45 l0 x11_1).f0)] rfl (by (try simp only [List.map_toArray, List.map_cons, List.map_nil]); first | done | rfl | (simp only [List.length_drop, List.length_take]; rfl) | (simp only [*]; first | done | rfl)) ?_; (with_reducible refine (scaled_Fits.calls ((rd_T45 l0 x11_1).f0) true _ A7.out).mono ?_); rintro e w' ⟨rfl, ⟨nd, rfl⟩⟩; refine ⟨_, rfl, ?_⟩) | (go_at_call 39; (with_reducible refine (glue_amount.calls ((rd_T45 l0 x11_1).f1) true _ A9.out).mono ?_); rintro e w' ⟨rfl, ⟨nd, rfl⟩⟩) | (go_at_call 39; (with_reducible refine (glue_amount.calls ((rd_T45 l0 x11_1).f2) false _ A11.out).mono ?_); rintro e w' ⟨rfl, ⟨nd, rfl⟩⟩))
          go_ret
          exact ⟨by first | rfl | (simp [errW_none, errW_some] <;> rfl) | (simp [*, errW_none, errW_some] <;> rfl), by repeat (first | (with_reducible first | exact HB.out | apply below_alloc | apply pw_below_drewN | apply below_drew1 | refine below_set ?_ GE132.out | refine below_set ?_ GE137.out) | exact HB.out)⟩
        ·replace c10 := Bool.eq_false_iff.mpr c10
         subst c10
         have H1 : (some false) = some r := by rw [if_neg (show ¬ (false = true) by decide)] at H; exact H
         clear H
         have H := H1
         clear H1
         obtain rfl := Option.some.inj H
         have p136 : 0 ≤ (x11_1 : Int) := of_decide_eq_true (by first | (with_reducible assumption) | assumption)
         have q136 : x11_1 < (l0.length : Int) := of_decide_eq_true (by first | (with_reducible assumption) | assumption)
         obtain ⟨ad136, e136, hx136_0, hx136_1, hx136_2, hx136_3⟩ := at_T45 HR0.out x11_1 p136 q136
         cases e136
         replace hx136_0 := (HB.out.cell (World.block_lt_of_cell? w _ hx136_0)).trans hx136_0
         replace hx136_1 := (HB.out.cell (World.block_lt_of_cell? w _ hx136_1)).trans hx136_1
         replace hx136_2 := (HB.out.cell (World.block_lt_of_cell? w _ hx136_2)).trans hx136_2
         replace hx136_3 := (HB.out.cell (World.block_lt_of_cell? w _ hx136_3)).trans hx136_3
         replace p136 := eq_true p136
         replace q136 := eq_true q136
         go_wp2_with (first | ((with_reducible refine gate_dst (N := 5) rfl ?_); refine box_event ?hg (N := 5) ?hd (cs := #[.int .i64 0, .int .i64 0, .int .i64 0, .int .i64 0]) (t := 45) ?hr ?_; (case hd => rfl); (case hg => rfl); (case hr => first | (go_simp; done) | (go_simp; rfl)); intro gb137 hg w29 hbox hb; have n0_ := Aside0.mk (blk_below (g := gb132) (o := .cells #[.int .i64 x133000_1, .int .i64 x133001_1, .int .i64 x133002_1] 64 (0, 0)) (by (with_reducible repeat (first | refine blk_drewN ?_ _ | refine blk_drew ?_ | refine blk_alloc ?_ _)); exact BK132.out) hb); have n1_ := Aside0.mk (below_step (by repeat (first | (with_reducible first | exact HB.out | apply below_alloc | apply pw_below_drewN | apply below_drew1 | refine below_set ?_ GE132.out) | exact HB.out)) hb); have n2_ := Aside0.mk (hbox); have n3_ := Aside0.mk ((by rw [hg]; exact (below_size (by repeat (first | (with_reducible first | exact HB.out | apply below_alloc | apply pw_below_drewN | apply below_drew1 | refine below_set ?_ GE132.out) | exact HB.out))) : w.heap.size ≤ gb137)); have n4_ := Aside0.mk ((by rw [hg]; exact (below_size (by repeat (first | (with_reducible first | exact HB.out | apply below_alloc | apply pw_below_drewN | apply below_drew1 | refine below_set ?_ GE132.out) | exact HB.out))) : w.heap.size ≤ gb137)); have n5_ := Aside0.mk ((by rw [hg]; exact Nat.ne_of_lt (blk_lt (g := gb132) (o := .cells #[.int .i64 x133000_1, .int .i64 x133001_1, .int .i64 x133002_1] 64 (0, 0)) (by (with_reducible repeat (first | refine blk_drewN ?_ _ | refine blk_drew ?_ | refine blk_alloc ?_ _)); exact BK132.out)) : gb132 ≠ gb137)); have n6_ := Aside0.mk ((by rw [hg]; exact Nat.ne_of_gt (blk_lt (g := gb132) (o := .cells #[.int .i64 x133000_1, .int .i64 x133001_1, .int .i64 x133002_1] 64 (0, 0)) (by (with_reducible repeat (first | refine blk_drewN ?_ _ | refine blk_drew ?_ | refine blk_alloc ?_ _)); exact BK132.out)) : gb137 ≠ gb132)); clear BK132; clear HB; have BK132 := n0_; have HB := n1_; have BK137 := n2_; have GW137 := n3_; have GE137 := n4_; have NB132_137 := n5_; have NB137_132 := n6_; clear n0_ n1_ n2_ n3_ n4_ n5_ n6_; clear hb hbox hg; have hnb30 := NB137_132.out; have hnc30 := NB132_137.out; have hcz31_0 : w29.cell? ⟨gb137, 0, none⟩ = some (.int .i64 0) := (blk_cell BK137.out 0).trans rfl; have hcz31_1 : w29.cell? ⟨gb137, 1, none⟩ = some (.int .i64 0) := (blk_cell BK137.out 1).trans rfl; have hcz31_2 : w29.cell? ⟨gb137, 2, none⟩ = some (.int .i64 0) := (blk_cell BK137.out 2).trans rfl; have hcz31_3 : w29.cell? ⟨gb137, 3, none⟩ = some (.int .i64 0) := (blk_cell BK137.out 3).trans rfl; have hfz31_0 := blk_frozen BK137.out 0; have hfz31_1 := blk_frozen BK137.out 1; have hfz31_2 := blk_frozen BK137.out 2; have hfz31_3 := blk_frozen BK137.out 3) | ((with_reducible refine gate_callee (f := 38) rfl ?_); refine goesL_ (some 17) rfl rfl Try.func38 (by kernel_rfl) rfl #[.int .i64 ((rd_T45 l0 x11_1).f0)] rfl (by (try simp only [List.map_toArray, List.map_cons, List.map_nil]); first | done | rfl | (simp only [List.length_drop, List.length_take]; rfl) | (simp only [*]; first | done | rfl)) ?_; (with_reducible refine (scaled_Fits.calls ((rd_T45 l0 x11_1).f0) true _ A7.out).mono ?_); rintro e w' ⟨rfl, ⟨nd, rfl⟩⟩; refine ⟨_, rfl, ?_⟩) | (go_at_call 39; (with_reducible refine (glue_amount.calls ((rd_T45 l0 x11_1).f1) false _ A9.out).mono ?_); rintro e w' ⟨rfl, ⟨nd, rfl⟩⟩))
         go_ret
         exact ⟨by first | rfl | (simp [errW_none, errW_some] <;> rfl) | (simp [*, errW_none, errW_some] <;> rfl), by repeat (first | (with_reducible first | exact HB.out | apply below_alloc | apply pw_below_drewN | apply below_drew1 | refine below_set ?_ GE132.out | refine below_set ?_ GE137.out) | exact HB.out)⟩
       ·replace c8 := Bool.eq_false_iff.mpr c8
        subst c8
        have H1 : (some false) = some r := by rw [if_neg (show ¬ (false = true) by decide)] at H; exact H
        clear H
        have H := H1
        clear H1
        obtain rfl := Option.some.inj H
        have p136 : 0 ≤ (x11_1 : Int) := of_decide_eq_true (by first | (with_reducible assumption) | assumption)
        have q136 : x11_1 < (l0.length : Int) := of_decide_eq_true (by first | (with_reducible assumption) | assumption)
        obtain ⟨ad136, e136, hx136_0, hx136_1, hx136_2, hx136_3⟩ := at_T45 HR0.out x11_1 p136 q136
        cases e136
        replace hx136_0 := (HB.out.cell (World.block_lt_of_cell? w _ hx136_0)).trans hx136_0
        replace hx136_1 := (HB.out.cell (World.block_lt_of_cell? w _ hx136_1)).trans hx136_1
        replace hx136_2 := (HB.out.cell (World.block_lt_of_cell? w _ hx136_2)).trans hx136_2
        replace hx136_3 := (HB.out.cell (World.block_lt_of_cell? w _ hx136_3)).trans hx136_3
        replace p136 := eq_true p136
        replace q136 := eq_true q136
        go_wp2_with (first | ((with_reducible refine gate_dst (N := 5) rfl ?_); refine box_event ?hg (N := 5) ?hd (cs := #[.int .i64 0, .int .i64 0, .int .i64 0, .int .i64 0]) (t := 45) ?hr ?_; (case hd => rfl); (case hg => rfl); (case hr => first | (go_simp; done) | (go_simp; rfl)); intro gb137 hg w32 hbox hb; have n0_ := Aside0.mk (blk_below (g := gb132) (o := .cells #[.int .i64 x133000_1, .int .i64 x133001_1, .int .i64 x133002_1] 64 (0, 0)) (by (with_reducible repeat (first | refine blk_drewN ?_ _ | refine blk_drew ?_ | refine blk_alloc ?_ _)); exact BK132.out) hb); have n1_ := Aside0.mk (below_step (by repeat (first | (with_reducible first | exact HB.out | apply below_alloc | apply pw_below_drewN | apply below_drew1 | refine below_set ?_ GE132.out) | exact HB.out)) hb); have n2_ := Aside0.mk (hbox); have n3_ := Aside0.mk ((by rw [hg]; exact (below_size (by repeat (first | (with_reducible first | exact HB.out | apply below_alloc | apply pw_below_drewN | apply below_drew1 | refine below_set ?_ GE132.out) | exact HB.out))) : w.heap.size ≤ gb137)); have n4_ := Aside0.mk ((by rw [hg]; exact (below_size (by repeat (first | (with_reducible first | exact HB.out | apply below_alloc | apply pw_below_drewN | apply below_drew1 | refine below_set ?_ GE132.out) | exact HB.out))) : w.heap.size ≤ gb137)); have n5_ := Aside0.mk ((by rw [hg]; exact Nat.ne_of_lt (blk_lt (g := gb132) (o := .cells #[.int .i64 x133000_1, .int .i64 x133001_1, .int .i64 x133002_1] 64 (0, 0)) (by (with_reducible repeat (first | refine blk_drewN ?_ _ | refine blk_drew ?_ | refine blk_alloc ?_ _)); exact BK132.out)) : gb132 ≠ gb137)); have n6_ := Aside0.mk ((by rw [hg]; exact Nat.ne_of_gt (blk_lt (g := gb132) (o := .cells #[.int .i64 x133000_1, .int .i64 x133001_1, .int .i64 x133002_1] 64 (0, 0)) (by (with_reducible repeat (first | refine blk_drewN ?_ _ | refine blk_drew ?_ | refine blk_alloc ?_ _)); exact BK132.out)) : gb137 ≠ gb132)); clear BK132; clear HB; have BK132 := n0_; have HB := n1_; have BK137 := n2_; have GW137 := n3_; have GE137 := n4_; have NB132_137 := n5_; have NB137_132 := n6_; clear n0_ n1_ n2_ n3_ n4_ n5_ n6_; clear hb hbox hg; have hnb33 := NB137_132.out; have hnc33 := NB132_137.out; have hcz34_0 : w32.cell? ⟨gb137, 0, none⟩ = some (.int .i64 0) := (blk_cell BK137.out 0).trans rfl; have hcz34_1 : w32.cell? ⟨gb137, 1, none⟩ = some (.int .i64 0) := (blk_cell BK137.out 1).trans rfl; have hcz34_2 : w32.cell? ⟨gb137, 2, none⟩ = some (.int .i64 0) := (blk_cell BK137.out 2).trans rfl; have hcz34_3 : w32.cell? ⟨gb137, 3, none⟩ = some (.int .i64 0) := (blk_cell BK137.out 3).trans rfl; have hfz34_0 := blk_frozen BK137.out 0; have hfz34_1 := blk_frozen BK137.out 1; have hfz34_2 := blk_frozen BK137.out 2; have hfz34_3 := blk_frozen BK137.out 3) | ((with_reducible refine gate_callee (f := 38) rfl ?_); refine goesL_ (some 17) rfl rfl Try.func38 (by kernel_rfl) rfl #[.int .i64 ((rd_T45 l0 x11_1).f0)] rfl (by (try simp only [List.map_toArray, List.map_cons, List.map_nil]); first | done | rfl | (simp only [List.length_drop, List.length_take]; rfl) | (simp only [*]; first | done | rfl)) ?_; (with_reducible refine (scaled_Fits.calls ((rd_T45 l0 x11_1).f0) false _ A7.out).mono ?_); rintro e w' ⟨rfl, ⟨nd, rfl⟩⟩; refine ⟨_, rfl, ?_⟩))
        go_ret
        exact ⟨by first | rfl | (simp [errW_none, errW_some] <;> rfl) | (simp [*, errW_none, errW_some] <;> rfl), by repeat (first | (with_reducible first | exact HB.out | apply below_alloc | apply pw_below_drewN | apply below_drew1 | refine below_set ?_ GE132.out | refine below_set ?_ GE137.out) | exact HB.out)⟩
      ·rw [if_neg c6] at H
       exact absurd H (by simp)
     ·rw [if_neg c5] at H
      exact absurd H (by simp)
    ·rw [if_neg c4] at H
     have c4b0 : decide (x11_1 < (l0.length : Int)) = false := decide_eq_false c4
     clear c4
     replace H := Option.bind_eq_some_iff.mp H
     obtain ⟨t133, A350, H⟩ := H
     replace H : (if t133 = true then ((glue_amount.f x133001_1).bind fun t134 => (if t134 = true then ((glue_amount.f x133002_1).bind fun t135 => (some t135)) else (some false))) else (some false)) = some r := H
     have A35 := Aside0.mk A350
     clear A350
     by_cases c36 : t133 = true
     ·subst c36
      have H1 : ((glue_amount.f x133001_1).bind fun t134 => (if t134 = true then ((glue_amount.f x133002_1).bind fun t135 => (some t135)) else (some false))) = some r := by rw [if_pos rfl] at H; exact H
      clear H
      have H := H1
      clear H1
      replace H := Option.bind_eq_some_iff.mp H
      obtain ⟨t134, A370, H⟩ := H
      replace H : (if t134 = true then ((glue_amount.f x133002_1).bind fun t135 => (some t135)) else (some false)) = some r := H
      have A37 := Aside0.mk A370
      clear A370
      by_cases c38 : t134 = true
      ·subst c38
       have H1 : ((glue_amount.f x133002_1).bind fun t135 => (some t135)) = some r := by rw [if_pos rfl] at H; exact H
       clear H
       have H := H1
       clear H1
       replace H := Option.bind_eq_some_iff.mp H
       obtain ⟨t135, A390, H⟩ := H
       replace H : (some t135) = some r := H
       have A39 := Aside0.mk A390
       clear A390
       obtain rfl := Option.some.inj H
       have hcz40_0 : wr.cell? ⟨gb132, 0, none⟩ = some (.int .i64 x133000_1) := (blk_cell BK132.out 0).trans rfl
       have hcz40_1 : wr.cell? ⟨gb132, 1, none⟩ = some (.int .i64 x133001_1) := (blk_cell BK132.out 1).trans rfl
       have hcz40_2 : wr.cell? ⟨gb132, 2, none⟩ = some (.int .i64 x133002_1) := (blk_cell BK132.out 2).trans rfl
       have hfz40_0 := blk_frozen BK132.out 0
       have hfz40_1 := blk_frozen BK132.out 1
       have hfz40_2 := blk_frozen BK132.out 2
       go_wp2_with (first | ((with_reducible refine gate_callee (f := 39) rfl ?_); refine goesL_ (some 66) rfl rfl Try.func39 (by kernel_rfl) rfl #[.int .i64 x133000_1] rfl (by (try simp only [List.map_toArray, List.map_cons, List.map_nil]); first | done | rfl | (simp only [List.length_drop, List.length_take]; rfl) | (simp only [*]; first | done | rfl)) ?_; (with_reducible refine (glue_amount.calls x133000_1 true _ A35.out).mono ?_); rintro e w' ⟨rfl, ⟨nd, rfl⟩⟩; refine ⟨_, rfl, ?_⟩) | (go_at_call 39; (with_reducible refine (glue_amount.calls x133001_1 true _ A37.out).mono ?_); rintro e w' ⟨rfl, ⟨nd, rfl⟩⟩) | (go_at_call 39; (with_reducible refine (glue_amount.calls x133002_1 t135 _ A39.out).mono ?_); rintro e w' ⟨rfl, ⟨nd, rfl⟩⟩))
       go_ret
       exact ⟨by first | rfl | (simp [errW_none, errW_some] <;> rfl) | (simp [*, errW_none, errW_some] <;> rfl), by repeat (first | (with_reducible first | exact HB.out | apply below_alloc | apply pw_below_drewN | apply below_drew1 | refine below_set ?_ GE132.out) | exact HB.out)⟩
      ·replace c38 := Bool.eq_false_iff.mpr c38
       subst c38
       have H1 : (some false) = some r := by rw [if_neg (show ¬ (false = true) by decide)] at H; exact H
       clear H
       have H := H1
       clear H1
       obtain rfl := Option.some.inj H
       have hcz41_0 : wr.cell? ⟨gb132, 0, none⟩ = some (.int .i64 x133000_1) := (blk_cell BK132.out 0).trans rfl
       have hcz41_1 : wr.cell? ⟨gb132, 1, none⟩ = some (.int .i64 x133001_1) := (blk_cell BK132.out 1).trans rfl
       have hcz41_2 : wr.cell? ⟨gb132, 2, none⟩ = some (.int .i64 x133002_1) := (blk_cell BK132.out 2).trans rfl
       have hfz41_0 := blk_frozen BK132.out 0
       have hfz41_1 := blk_frozen BK132.out 1
       have hfz41_2 := blk_frozen BK132.out 2
       go_wp2_with (first | ((with_reducible refine gate_callee (f := 39) rfl ?_); refine goesL_ (some 66) rfl rfl Try.func39 (by kernel_rfl) rfl #[.int .i64 x133000_1] rfl (by (try simp only [List.map_toArray, List.map_cons, List.map_nil]); first | done | rfl | (simp only [List.length_drop, List.length_take]; rfl) | (simp only [*]; first | done | rfl)) ?_; (with_reducible refine (glue_amount.calls x133000_1 true _ A35.out).mono ?_); rintro e w' ⟨rfl, ⟨nd, rfl⟩⟩; refine ⟨_, rfl, ?_⟩) | (go_at_call 39; (with_reducible refine (glue_amount.calls x133001_1 false _ A37.out).mono ?_); rintro e w' ⟨rfl, ⟨nd, rfl⟩⟩))
       go_ret
       exact ⟨by first | rfl | (simp [errW_none, errW_some] <;> rfl) | (simp [*, errW_none, errW_some] <;> rfl), by repeat (first | (with_reducible first | exact HB.out | apply below_alloc | apply pw_below_drewN | apply below_drew1 | refine below_set ?_ GE132.out) | exact HB.out)⟩
     ·replace c36 := Bool.eq_false_iff.mpr c36
      subst c36
      have H1 : (some false) = some r := by rw [if_neg (show ¬ (false = true) by decide)] at H; exact H
      clear H
      have H := H1
      clear H1
      obtain rfl := Option.some.inj H
      have hcz42_0 : wr.cell? ⟨gb132, 0, none⟩ = some (.int .i64 x133000_1) := (blk_cell BK132.out 0).trans rfl
      have hcz42_1 : wr.cell? ⟨gb132, 1, none⟩ = some (.int .i64 x133001_1) := (blk_cell BK132.out 1).trans rfl
      have hcz42_2 : wr.cell? ⟨gb132, 2, none⟩ = some (.int .i64 x133002_1) := (blk_cell BK132.out 2).trans rfl
      have hfz42_0 := blk_frozen BK132.out 0
      have hfz42_1 := blk_frozen BK132.out 1
      have hfz42_2 := blk_frozen BK132.out 2
      go_wp2_with (first | ((with_reducible refine gate_callee (f := 39) rfl ?_); refine goesL_ (some 66) rfl rfl Try.func39 (by kernel_rfl) rfl #[.int .i64 x133000_1] rfl (by (try simp only [List.map_toArray, List.map_cons, List.map_nil]); first | done | rfl | (simp only [List.length_drop, List.length_take]; rfl) | (simp only [*]; first | done | rfl)) ?_; (with_reducible refine (glue_amount.calls x133000_1 false _ A35.out).mono ?_); rintro e w' ⟨rfl, ⟨nd, rfl⟩⟩; refine ⟨_, rfl, ?_⟩))
      go_ret
      exact ⟨by first | rfl | (simp [errW_none, errW_some] <;> rfl) | (simp [*, errW_none, errW_some] <;> rfl), by repeat (first | (with_reducible first | exact HB.out | apply below_alloc | apply pw_below_drewN | apply below_drew1 | refine below_set ?_ GE132.out) | exact HB.out)⟩

end Go.Proofs.Ytagpdpcodcmgkaa.PTo

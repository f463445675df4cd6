/- Written by a program of this session: functions of the given program as plain Lean functions, the walks that show it, and the row of each law, for every input that its statement speaks of. -/
import Derived.Test.YtpfnfofaajpdmaaPWix0
import Derived.Test.YtpfnfofaajpdmaaPWix4
import Derived.Test.YtpfnfofaajpdmaaPWix6
namespace Go.Proofs.Ytpfnfofaajpdmaa.PWi
open Go.RowKit Go.Proofs.YtpfnfofaajpdmaaW.PrintWords Go.Proofs.YtpfnfofaajpdmaaW.PrintLast Go.Proofs.YtpfnfofaajpdmaaW.PrintMore
attribute [local go_sem] max2_int min2_int max_two min_two max_three min_three max_four min_four   -- for this text's walks alone
set_option linter.unusedVariables false
set_option linter.unusedSimpArgs false

/-! ### demerit_Legal: function 52 -/
def demerit_Legal.j0 : Nat → List (S40) → Int → Bool → Option (Bool)
 | 0, _, _, _ => none
 | k + 1, x0, x1, x12 => if x12 = true then (some false) else (if 0 ≤ x1 then (if x1 < (x0.length : Int) then (if ((rd_T40 x0 x1).f0) = 2 then (some (decide (((rd_T40 x0 x1).f2) < 10000))) else (if ((rd_T40 x0 x1).f0) = 1 then (if x1 > 0 then (if 0 ≤ (wrap64 (x1 - 1)) then (if (wrap64 (x1 - 1)) < (x0.length : Int) then (some (((rd_T40 x0 (wrap64 (x1 - 1))).f0) == 0)) else (none)) else (none)) else (some false)) else (some false))) else (none)) else (none))
def demerit_Legal.f (k : Nat) (l0 : List (S40)) (a1 : Int) : Option (Bool) := if a1 < 0 then (demerit_Legal.j0 k l0 a1 true) else (demerit_Legal.j0 k l0 a1 (decide (a1 ≥ (l0.length : Int))))
theorem demerit_Legal.mono_l : ∀ k, (∀ y0 y1 y2, LeO (demerit_Legal.j0 k y0 y1 y2) (demerit_Legal.j0 (k + 1) y0 y1 y2))
 | 0 => fun _ _ _ r h => by simp [demerit_Legal.j0] at h
 | k + 1 => by
  have ih0 := demerit_Legal.mono_l k
  ·intro y0 y1 y2
   unfold demerit_Legal.j0
   repeat' first | (with_reducible first | exact ih0 _ _ _ | exact LeO.refl _ | exact LeO.none _ | refine LeO.ite ?_ ?_ | refine LeO.bind ?_ (fun _ => ?_)) | exact LeO.none _ | refine LeO.ite ?_ ?_ | refine LeO.bind ?_ (fun _ => ?_)
theorem demerit_Legal.mono : ∀ a0 a1 k, LeO (demerit_Legal.f k a0 a1) (demerit_Legal.f (k + 1) a0 a1) := by
 intro a0 a1 k
 have ih0 := demerit_Legal.mono_l k
 unfold demerit_Legal.f
 repeat' first
   | (with_reducible exact ih0 _ _ _)
   | (with_reducible exact LeO.refl _)
   | (with_reducible exact LeO.none _)
   | (with_reducible refine LeO.ite ?_ ?_)
   | (with_reducible refine LeO.bind ?_ (fun _ => ?_))
   | exact ih0 _ _ _
   | exact LeO.none _
   | refine LeO.ite ?_ ?_
   | refine LeO.bind ?_ (fun _ => ?_)
set_option maxHeartbeats 8000000 in
set_option maxRecDepth 100000 in
theorem demerit_Legal.calls (k : Nat) (A0 : Option Addr) (c0 : Nat) (l0 : List (S40)) (a1 : Int) (r : Bool) (w : World) (hr0 : Kd.C k40 w A0 l0.length l0) (hc0 : l0.length ≤ c0) (h : demerit_Legal.f k l0 a1 = some r) :
  Calls Try.prog 52 #[.slice A0 l0.length c0, .int .i64 a1] w fun e w' => e = .returned (.bool r) ∧ Drawn0 w w' := by
 have HR0 := a_ hr0
 have HC0 := a_ hc0
 clear hr0 hc0
 have H : (if a1 < 0 then (demerit_Legal.j0 k l0 a1 true) else (demerit_Legal.j0 k l0 a1 (decide (a1 ≥ (l0.length : Int))))) = some r := h
 clear h
 have HC3 := a_ H
 clear H
 go_enter Try.func52, Try.ntmps52
 go_upto_region 1 with (fail)
 go_cut [12] (fun v12 wc => ∃ (kq : Nat) (x12_2 : Bool), v12 = .bool x12_2 ∧ Aside0 (demerit_Legal.j0 kq l0 a1 x12_2 = some r) ∧ Aside0 (kq ≤ k) ∧ Drawn0 w wc)
 case first =>
  have H := HC3.out
  clear HC3
  by_cases c4 : a1 < 0
  ·rw [if_pos c4] at H
   have c4b0 : decide (a1 < 0) = true := decide_eq_true c4
   clear c4
   (first | rw [c4b0] | (simp only [i64_w, i32_w]; rw [c4b0]) | skip)
   have H' := a_ H
   clear H
   go_wp2
   go_meet
   case rel => exact ⟨_, (true), (by first | rfl | (simp; done) | (simp [*]; done)), H', ⟨by first | omega | exact Nat.le_refl _⟩, by repeat (first | exact Drawn0.refl _ | apply Drawn0.step)⟩
  ·rw [if_neg c4] at H
   have c4b0 : decide (a1 < 0) = false := decide_eq_false c4
   clear c4
   (first | rw [c4b0] | (simp only [i64_w, i32_w]; rw [c4b0]) | skip)
   have H' := a_ H
   clear H
   go_wp2
   go_meet
   case rel => exact ⟨_, (decide (a1 ≥ (l0.length : Int))), (by first | rfl | (simp; done) | (simp [*]; done)), H', ⟨by first | omega | exact Nat.le_refl _⟩, by repeat (first | exact Drawn0.refl _ | apply Drawn0.step)⟩
 case rest =>
  clear HC3
  try clear p2
  try clear c4
  try clear c4b0
  obtain ⟨kq, x12_2, rfl, HA, HJ2, ⟨mc2, rfl⟩⟩ := hcut
  cases kq with
  | zero => exact absurd HA.out (by simp [demerit_Legal.j0])
  | succ kj2 =>
   have H := HA.out
   clear HA
   simp only [demerit_Legal.j0] at H
   by_cases c5 : x12_2 = true
   ·subst c5
    have H1 : (some false) = some r := by rw [if_pos rfl] at H; exact H
    clear H
    have H := H1
    clear H1
    obtain rfl := Option.some.inj H
    go_wp2
    go_ret
    exact ⟨by first | rfl | (simp; done) | (simp [*]; done), by repeat (first | exact Drawn0.refl _ | apply Drawn0.step)⟩
   ·replace c5 := Bool.eq_false_iff.mpr c5
    subst c5
    have H1 : (if 0 ≤ a1 then (if a1 < (l0.length : Int) then (if ((rd_T40 l0 a1).f0) = 2 then (some (decide (((rd_T40 l0 a1).f2) < 10000))) else (if ((rd_T40 l0 a1).f0) = 1 then (if a1 > 0 then (if 0 ≤ (wrap64 (a1 - 1)) then (if (wrap64 (a1 - 1)) < (l0.length : Int) then (some (((rd_T40 l0 (wrap64 (a1 - 1))).f0) == 0)) else (none)) else (none)) else (some false)) else (some false))) else (none)) else (none)) = some r := by rw [if_neg (show ¬ (false = true) by decide)] at H; exact H
    clear H
    have H := H1
    clear H1
    by_cases c6 : 0 ≤ a1
    ·rw [if_pos c6] at H
     have c6b0 : decide (0 ≤ a1) = true := decide_eq_true c6
     clear c6
     by_cases c7 : a1 < (l0.length : Int)
     ·rw [if_pos c7] at H
      have c7b0 : decide (a1 < (l0.length : Int)) = true := decide_eq_true c7
      clear c7
      by_cases c8 : ((rd_T40 l0 a1).f0) = 2
      ·rw [if_pos c8] at H
       have c8b0 : (((rd_T40 l0 a1).f0) == 2) = true := beq_iff_eq.mpr c8
       have c8b1 : (((rd_T40 l0 a1).f0) != 2) = false := bne_eq_false_iff_eq.mpr c8
       clear c8
       obtain rfl := Option.some.inj H
       have p144 : 0 ≤ (a1 : Int) := od_
       have q144 : a1 < (l0.length : Int) := od_
       obtain ⟨ad144, e144, hx144_0, hx144_1, hx144_2, hx144_3, hx144_4, hx144_5, hx144_6, hx144_7, hx144_8⟩ := at_T40 HR0.out a1 p144 q144
       cases e144
       replace p144 := eq_true p144
       replace q144 := eq_true q144
       have p145 : 0 ≤ (a1 : Int) := od_
       have q145 : a1 < (l0.length : Int) := od_
       obtain ⟨ad145, e145, hx145_0, hx145_1, hx145_2, hx145_3, hx145_4, hx145_5, hx145_6, hx145_7, hx145_8⟩ := at_T40 HR0.out a1 p145 q145
       obtain rfl : ad144 = ad145 := (by injection e145)
       replace p145 := eq_true p145
       replace q145 := eq_true q145
       go_wp2
       go_ret
       exact ⟨by first | rfl | (simp; done) | (simp [*]; done), by repeat (first | exact Drawn0.refl _ | apply Drawn0.step)⟩
      ·rw [if_neg c8] at H
       have c8b0 : (((rd_T40 l0 a1).f0) == 2) = false := beq_eq_false_iff_ne.mpr c8
       have c8b1 : (((rd_T40 l0 a1).f0) != 2) = true := bne_iff_ne.mpr c8
       by_cases c9 : ((rd_T40 l0 a1).f0) = 1
       ·rw [if_pos c9] at H
        have c9b0 : (((rd_T40 l0 a1).f0) == 1) = true := beq_iff_eq.mpr c9
        have c9b1 : (((rd_T40 l0 a1).f0) != 1) = false := bne_eq_false_iff_eq.mpr c9
        clear c9
        by_cases c10 : a1 > 0
        ·rw [if_pos c10] at H
         have c10b0 : decide (0 < a1) = true := decide_eq_true c10
         clear c10
         obtain ⟨ji11, hji11⟩ : ∃ j_ : Int, (wrap64 (a1 - 1)) = j_ := ⟨_, rfl⟩
         replace H : (if 0 ≤ (ji11) then (if (ji11) < (l0.length : Int) then (some (((rd_T40 l0 (ji11)).f0) == 0)) else (none)) else (none)) = some r := by first | (rw [hji11] at H; exact H) | (simp only [hji11] at H ⊢; exact H)
         have hji11w : (IntKind.i64.wrap (a1 - 1)) = ji11 := (i64_w _).trans hji11
         by_cases c12 : 0 ≤ (ji11)
         ·rw [if_pos c12] at H
          have c12b0 : decide (0 ≤ (ji11)) = true := decide_eq_true c12
          clear c12
          by_cases c13 : (ji11) < (l0.length : Int)
          ·rw [if_pos c13] at H
           have c13b0 : decide ((ji11) < (l0.length : Int)) = true := decide_eq_true c13
           clear c13
           obtain rfl := Option.some.inj H
           have p144 : 0 ≤ (a1 : Int) := od_
           have q144 : a1 < (l0.length : Int) := od_
           obtain ⟨ad144, e144, hx144_0, hx144_1, hx144_2, hx144_3, hx144_4, hx144_5, hx144_6, hx144_7, hx144_8⟩ := at_T40 HR0.out a1 p144 q144
           cases e144
           replace p144 := eq_true p144
           replace q144 := eq_true q144
           have p146 : 0 ≤ ((ji11) : Int) := od_
           have q146 : (ji11) < (l0.length : Int) := od_
           obtain ⟨ad146, e146, hx146_0, hx146_1, hx146_2, hx146_3, hx146_4, hx146_5, hx146_6, hx146_7, hx146_8⟩ := at_T40 HR0.out (ji11) p146 q146
           obtain rfl : ad144 = ad146 := (by injection e146)
           replace p146 := eq_true p146
           replace q146 := eq_true q146
           go_wp2
           go_ret
           exact ⟨by first | rfl | (simp; done) | (simp only [← hji11] <;> (first | rfl | simp)) | (simp [*]; done), by repeat (first | exact Drawn0.refl _ | apply Drawn0.step)⟩
          ·rw [if_neg c13] at H
           exact absurd H (by simp)
         ·rw [if_neg c12] at H
          exact absurd H (by simp)
        ·rw [if_neg c10] at H
         have c10b0 : decide (0 < a1) = false := decide_eq_false c10
         clear c10
         obtain rfl := Option.some.inj H
         have p144 : 0 ≤ (a1 : Int) := od_
         have q144 : a1 < (l0.length : Int) := od_
         obtain ⟨ad144, e144, hx144_0, hx144_1, hx144_2, hx144_3, hx144_4, hx144_5, hx144_6, hx144_7, hx144_8⟩ := at_T40 HR0.out a1 p144 q144
         cases e144
         replace p144 := eq_true p144
         replace q144 := eq_true q144
         go_wp2
         go_ret
         exact ⟨by first | rfl | (simp; done) | (simp [*]; done), by repeat (first | exact Drawn0.refl _ | apply Drawn0.step)⟩
       ·rw [if_neg c9] at H
        have c9b0 : (((rd_T40 l0 a1).f0) == 1) = false := beq_eq_false_iff_ne.mpr c9
        have c9b1 : (((rd_T40 l0 a1).f0) != 1) = true := bne_iff_ne.mpr c9
        obtain rfl := Option.some.inj H
        have p144 : 0 ≤ (a1 : Int) := od_
        have q144 : a1 < (l0.length : Int) := od_
        obtain ⟨ad144, e144, hx144_0, hx144_1, hx144_2, hx144_3, hx144_4, hx144_5, hx144_6, hx144_7, hx144_8⟩ := at_T40 HR0.out a1 p144 q144
        cases e144
        replace p144 := eq_true p144
        replace q144 := eq_true q144
        go_wp2
        go_ret
        exact ⟨by first | rfl | (simp; done) | (simp [*]; done), by repeat (first | exact Drawn0.refl _ | apply Drawn0.step)⟩
     ·rw [if_neg c7] at H
      exact absurd H (by simp)
    ·rw [if_neg c6] at H
     exact absurd H (by simp)

/-! ### demerit_may: function 43 -/
mutual
def demerit_may.j0 : Nat → List (S40) → Int → Int → Bool → Option (Bool)
 | 0, _, _, _, _ => none
 | k + 1, x0, x1, x2, x33 => if x33 = true then (some false) else (demerit_may.l0 k x0 x2 (wrap64 (x1 + 1)))
def demerit_may.l0 : Nat → List (S40) → Int → Int → Option (Bool)
 | 0, _, _, _ => none
 | k + 1, x0, x2, x7 => if x7 < x2 then (if 0 ≤ x7 then (if x7 < (x0.length : Int) then ((demerit_Forced.f ((rd_T40 x0 x7).f0) ((rd_T40 x0 x7).f1.f0) ((rd_T40 x0 x7).f1.f1) ((rd_T40 x0 x7).f1.f2) ((rd_T40 x0 x7).f1.f3) ((rd_T40 x0 x7).f2) ((rd_T40 x0 x7).f3) ((rd_T40 x0 x7).f4) ((rd_T40 x0 x7).f5)).bind fun t153 => (if t153 = true then (some false) else (demerit_may.l0 k x0 x2 (wrap64 (x7 + 1))))) else (none)) else (none)) else (some true)
end
def demerit_may.f (k : Nat) (l0 : List (S40)) (a1 : Int) (a2 : Int) : Option (Bool) := if a1 = (-1) then ((demerit_Legal.f k l0 a2).bind fun t147 => (if t147 = true then (if a1 ≥ a2 then (demerit_may.j0 k l0 a1 a2 true) else ((demerit_Start.f k l0 a1).bind fun t148 => (demerit_may.j0 k l0 a1 a2 (decide (t148 > a2))))) else (demerit_may.j0 k l0 a1 a2 true))) else ((demerit_Legal.f k l0 a1).bind fun t149 => (if t149 = true then ((demerit_Legal.f k l0 a2).bind fun t150 => (if t150 = true then (if a1 ≥ a2 then (demerit_may.j0 k l0 a1 a2 true) else ((demerit_Start.f k l0 a1).bind fun t151 => (demerit_may.j0 k l0 a1 a2 (decide (t151 > a2))))) else (demerit_may.j0 k l0 a1 a2 true))) else (demerit_may.j0 k l0 a1 a2 true)))
theorem demerit_may.mono_l : ∀ k, (∀ y0 y1 y2 y3, LeO (demerit_may.j0 k y0 y1 y2 y3) (demerit_may.j0 (k + 1) y0 y1 y2 y3)) ∧ (∀ y0 y1 y2, LeO (demerit_may.l0 k y0 y1 y2) (demerit_may.l0 (k + 1) y0 y1 y2))
 | 0 => ⟨fun _ _ _ _ r h => by simp [demerit_may.j0] at h, fun _ _ _ r h => by simp [demerit_may.l0] at h⟩
 | k + 1 => by
  obtain ⟨ih0, ih1⟩ := demerit_may.mono_l k
  refine ⟨?_, ?_⟩
  ·intro y0 y1 y2 y3
   unfold demerit_may.j0
   repeat' first | (with_reducible first | exact ih0 _ _ _ _ | exact ih1 _ _ _ | exact demerit_Legal.mono _ _ _ | exact demerit_Start.mono _ _ _ | exact LeO.refl _ | exact LeO.none _ | refine LeO.ite ?_ ?_ | refine LeO.bind ?_ (fun _ => ?_)) | exact LeO.none _ | refine LeO.ite ?_ ?_ | refine LeO.bind ?_ (fun _ => ?_)
  ·intro y0 y1 y2
   unfold demerit_may.l0
   repeat' first | (with_reducible first | exact ih0 _ _ _ _ | exact ih1 _ _ _ | exact demerit_Legal.mono _ _ _ | exact demerit_Start.mono _ _ _ | exact LeO.refl _ | exact LeO.none _ | refine LeO.ite ?_ ?_ | refine LeO.bind ?_ (fun _ => ?_)) | exact LeO.none _ | refine LeO.ite ?_ ?_ | refine LeO.bind ?_ (fun _ => ?_)
theorem demerit_may.mono : ∀ a0 a1 a2 k, LeO (demerit_may.f k a0 a1 a2) (demerit_may.f (k + 1) a0 a1 a2) := by
 intro a0 a1 a2 k
 obtain ⟨ih0, ih1⟩ := demerit_may.mono_l k
 unfold demerit_may.f
 repeat' first
   | (with_reducible exact ih0 _ _ _ _)
   | (with_reducible exact ih1 _ _ _)
   | (with_reducible exact demerit_Legal.mono _ _ _)
   | (with_reducible exact demerit_Start.mono _ _ _)
   | (with_reducible exact LeO.refl _)
   | (with_reducible exact LeO.none _)
   | (with_reducible refine LeO.ite ?_ ?_)
   | (with_reducible refine LeO.bind ?_ (fun _ => ?_))
   | exact ih0 _ _ _ _
   | exact ih1 _ _ _
   | exact demerit_Legal.mono _ _ _
   | exact demerit_Start.mono _ _ _
   | exact LeO.none _
   | refine LeO.ite ?_ ?_
   | refine LeO.bind ?_ (fun _ => ?_)
set_option maxHeartbeats 8000000 in
set_option maxRecDepth 100000 in
theorem demerit_may.calls (k : Nat) (A0 : Option Addr) (c0 : Nat) (l0 : List (S40)) (a1 : Int) (a2 : Int) (r : Bool) (w : World) (hr0 : Kd.C k40 w A0 l0.length l0) (hc0 : l0.length ≤ c0) (h : demerit_may.f k l0 a1 a2 = some r) :
  Calls Try.prog 43 #[.slice A0 l0.length c0, .int .i64 a1, .int .i64 a2] w fun e w' => e = .returned (.bool r) ∧ Below w.heap.size w w' := by
 have hu40 := Try.underlying40
 have HR0 := a_ hr0
 have HC0 := a_ hc0
 clear hr0 hc0
 have HB := a_ (Below.refl w.heap.size w)
 have H : (if a1 = (-1) then ((demerit_Legal.f k l0 a2).bind fun t147 => (if t147 = true then (if a1 ≥ a2 then (demerit_may.j0 k l0 a1 a2 true) else ((demerit_Start.f k l0 a1).bind fun t148 => (demerit_may.j0 k l0 a1 a2 (decide (t148 > a2))))) else (demerit_may.j0 k l0 a1 a2 true))) else ((demerit_Legal.f k l0 a1).bind fun t149 => (if t149 = true then ((demerit_Legal.f k l0 a2).bind fun t150 => (if t150 = true then (if a1 ≥ a2 then (demerit_may.j0 k l0 a1 a2 true) else ((demerit_Start.f k l0 a1).bind fun t151 => (demerit_may.j0 k l0 a1 a2 (decide (t151 > a2))))) else (demerit_may.j0 k l0 a1 a2 true))) else (demerit_may.j0 k l0 a1 a2 true)))) = some r := h
 clear h
 have HC4 := a_ H
 clear H
 go_enter Try.func43, Try.ntmps43
 go_upto_region 1 with (fail)
 go_cut [33] (fun v33 wc => ∃ (kq : Nat) (x33_3 : Bool), v33 = .bool x33_3 ∧ Aside0 (demerit_may.j0 kq l0 a1 a2 x33_3 = some r) ∧ Aside0 (kq ≤ k) ∧ Aside0 (Below w.heap.size w wc))
 case first =>
  have H := HC4.out
  clear HC4
  by_cases c5 : a1 = (-1)
  ·rw [if_pos c5] at H
   have c5b0 : (a1 == (-1)) = true := beq_iff_eq.mpr c5
   have c5b1 : (a1 != (-1)) = false := bne_eq_false_iff_eq.mpr c5
   clear c5
   (first | rw [c5b0] | (simp only [i64_w, i32_w]; rw [c5b0]) | skip)
   replace H := Option.bind_eq_some_iff.mp H
   obtain ⟨t147, A60, H⟩ := H
   replace H : (if t147 = true then (if a1 ≥ a2 then (demerit_may.j0 k l0 a1 a2 true) else ((demerit_Start.f k l0 a1).bind fun t148 => (demerit_may.j0 k l0 a1 a2 (decide (t148 > a2))))) else (demerit_may.j0 k l0 a1 a2 true)) = some r := H
   have A6 := a_ A60
   clear A60
   by_cases c7 : t147 = true
   ·subst c7
    have H1 : (if a1 ≥ a2 then (demerit_may.j0 k l0 a1 a2 true) else ((demerit_Start.f k l0 a1).bind fun t148 => (demerit_may.j0 k l0 a1 a2 (decide (t148 > a2))))) = some r := by rw [if_pos rfl] at H; exact H
    clear H
    have H := H1
    clear H1
    by_cases c8 : a1 ≥ a2
    ·rw [if_pos c8] at H
     have c8b0 : decide (a2 ≤ a1) = true := decide_eq_true c8
     clear c8
     have H' := a_ H
     clear H
     go_wp2_with (first | (go_at_call 52; (with_reducible refine (demerit_Legal.calls k _ _ l0 a2 true _ ?side1 ?side2 A6.out).mono ?_); (case side1 => exact cw_ HR0.out HB.out); (case side2 => exact HC0.out); rintro e w' ⟨rfl, ⟨nd, rfl⟩⟩))
     go_meet
     case rel => exact ⟨_, (true), (by first | rfl | (simp; done) | (simp [*]; done)), H', ⟨by first | omega | exact Nat.le_refl _⟩, ⟨bv_ HB.out⟩⟩
    ·rw [if_neg c8] at H
     have c8b0 : decide (a2 ≤ a1) = false := decide_eq_false c8
     clear c8
     replace H := Option.bind_eq_some_iff.mp H
     obtain ⟨t148, A90, H⟩ := H
     replace H : (demerit_may.j0 k l0 a1 a2 (decide (t148 > a2))) = some r := H
     have A9 := a_ A90
     clear A90
     have H' := a_ H
     clear H
     go_wp2_with (first | (go_at_call 52; (with_reducible refine (demerit_Legal.calls k _ _ l0 a2 true _ ?side1 ?side2 A6.out).mono ?_); (case side1 => exact cw_ HR0.out HB.out); (case side2 => exact HC0.out); rintro e w' ⟨rfl, ⟨nd, rfl⟩⟩) | (go_at_call 29; (with_reducible refine (demerit_Start.calls k _ _ l0 a1 t148 _ ?side1 ?side2 A9.out).mono ?_); (case side1 => repeat (first | exact (Kd.C_below HR0.out (bv_ HB.out)) | (with_reducible refine Kd.C_alloc ?_ _) | (with_reducible refine Kd.C_drewN ?_ _) | (with_reducible refine Kd.C_drew ?_))); (case side2 => exact HC0.out); rintro e w10 ⟨rfl, hb⟩; have n0_ := a_ (bs_ HB.out hb); clear HB; have HB := n0_; clear n0_; (try clear hb); (try clear hb2); (try clear hk); (try clear hi)))
     go_meet
     case rel => exact ⟨_, (decide (t148 > a2)), (by first | rfl | (simp; done) | (simp [*]; done)), H', ⟨by first | omega | exact Nat.le_refl _⟩, ⟨bv_ HB.out⟩⟩
   ·replace c7 := Bool.eq_false_iff.mpr c7
    subst c7
    have H1 : (demerit_may.j0 k l0 a1 a2 true) = some r := by rw [if_neg (show ¬ (false = true) by decide)] at H; exact H
    clear H
    have H := H1
    clear H1
    have H' := a_ H
    clear H
    go_wp2_with (first | (go_at_call 52; (with_reducible refine (demerit_Legal.calls k _ _ l0 a2 false _ ?side1 ?side2 A6.out).mono ?_); (case side1 => exact cw_ HR0.out HB.out); (case side2 => exact HC0.out); rintro e w' ⟨rfl, ⟨nd, rfl⟩⟩))
    go_meet
    case rel => exact ⟨_, (true), (by first | rfl | (simp; done) | (simp [*]; done)), H', ⟨by first | omega | exact Nat.le_refl _⟩, ⟨bv_ HB.out⟩⟩
  ·rw [if_neg c5] at H
   have c5b0 : (a1 == (-1)) = false := beq_eq_false_iff_ne.mpr c5
   have c5b1 : (a1 != (-1)) = true := bne_iff_ne.mpr c5
   (first | rw [c5b0] | (simp only [i64_w, i32_w]; rw [c5b0]) | skip)
   replace H := Option.bind_eq_some_iff.mp H
   obtain ⟨t149, A110, H⟩ := H
   replace H : (if t149 = true then ((demerit_Legal.f k l0 a2).bind fun t150 => (if t150 = true then (if a1 ≥ a2 then (demerit_may.j0 k l0 a1 a2 true) else ((demerit_Start.f k l0 a1).bind fun t151 => (demerit_may.j0 k l0 a1 a2 (decide (t151 > a2))))) else (demerit_may.j0 k l0 a1 a2 true))) else (demerit_may.j0 k l0 a1 a2 true)) = some r := H
   have A11 := a_ A110
   clear A110
   by_cases c12 : t149 = true
   ·subst c12
    have H1 : ((demerit_Legal.f k l0 a2).bind fun t150 => (if t150 = true then (if a1 ≥ a2 then (demerit_may.j0 k l0 a1 a2 true) else ((demerit_Start.f k l0 a1).bind fun t151 => (demerit_may.j0 k l0 a1 a2 (decide (t151 > a2))))) else (demerit_may.j0 k l0 a1 a2 true))) = some r := by rw [if_pos rfl] at H; exact H
    clear H
    have H := H1
    clear H1
    replace H := Option.bind_eq_some_iff.mp H
    obtain ⟨t150, A130, H⟩ := H
    replace H : (if t150 = true then (if a1 ≥ a2 then (demerit_may.j0 k l0 a1 a2 true) else ((demerit_Start.f k l0 a1).bind fun t151 => (demerit_may.j0 k l0 a1 a2 (decide (t151 > a2))))) else (demerit_may.j0 k l0 a1 a2 true)) = some r := H
    have A13 := a_ A130
    clear A130
    by_cases c14 : t150 = true
    ·subst c14
     have H1 : (if a1 ≥ a2 then (demerit_may.j0 k l0 a1 a2 true) else ((demerit_Start.f k l0 a1).bind fun t151 => (demerit_may.j0 k l0 a1 a2 (decide (t151 > a2))))) = some r := by rw [if_pos rfl] at H; exact H
     clear H
     have H := H1
     clear H1
     by_cases c15 : a1 ≥ a2
     ·rw [if_pos c15] at H
      have c15b0 : decide (a2 ≤ a1) = true := decide_eq_true c15
      clear c15
      have H' := a_ H
      clear H
      go_wp2_with (first | (go_at_call 52; (with_reducible refine (demerit_Legal.calls k _ _ l0 a1 true _ ?side1 ?side2 A11.out).mono ?_); (case side1 => exact cw_ HR0.out HB.out); (case side2 => exact HC0.out); rintro e w' ⟨rfl, ⟨nd, rfl⟩⟩) | (go_at_call 52; (with_reducible refine (demerit_Legal.calls k _ _ l0 a2 true _ ?side1 ?side2 A13.out).mono ?_); (case side1 => repeat (first | exact (Kd.C_below HR0.out (bv_ HB.out)) | (with_reducible refine Kd.C_alloc ?_ _) | (with_reducible refine Kd.C_drewN ?_ _) | (with_reducible refine Kd.C_drew ?_))); (case side2 => exact HC0.out); rintro e w' ⟨rfl, ⟨nd, rfl⟩⟩))
      go_meet
      case rel => exact ⟨_, (true), (by first | rfl | (simp; done) | (simp [*]; done)), H', ⟨by first | omega | exact Nat.le_refl _⟩, ⟨bv_ HB.out⟩⟩
     ·rw [if_neg c15] at H
      have c15b0 : decide (a2 ≤ a1) = false := decide_eq_false c15
      clear c15
      replace H := Option.bind_eq_some_iff.mp H
      obtain ⟨t151, A160, H⟩ := H
      replace H : (demerit_may.j0 k l0 a1 a2 (decide (t151 > a2))) = some r := H
      have A16 := a_ A160
      clear A160
      have H' := a_ H
      clear H
      go_wp2_with (first | (go_at_call 52; (with_reducible refine (demerit_Legal.calls k _ _ l0 a1 true _ ?side1 ?side2 A11.out).mono ?_); (case side1 => exact cw_ HR0.out HB.out); (case side2 => exact HC0.out); rintro e w' ⟨rfl, ⟨nd, rfl⟩⟩) | (go_at_call 52; (with_reducible refine (demerit_Legal.calls k _ _ l0 a2 true _ ?side1 ?side2 A13.out).mono ?_); (case side1 => repeat (first | exact (Kd.C_below HR0.out (bv_ HB.out)) | (with_reducible refine Kd.C_alloc ?_ _) | (with_reducible refine Kd.C_drewN ?_ _) | (with_reducible refine Kd.C_drew ?_))); (case side2 => exact HC0.out); rintro e w' ⟨rfl, ⟨nd, rfl⟩⟩) | (go_at_call 29; (with_reducible refine (demerit_Start.calls k _ _ l0 a1 t151 _ ?side1 ?side2 A16.out).mono ?_); (case side1 => repeat (first | exact (Kd.C_below HR0.out (bv_ HB.out)) | (with_reducible refine Kd.C_alloc ?_ _) | (with_reducible refine Kd.C_drewN ?_ _) | (with_reducible refine Kd.C_drew ?_))); (case side2 => exact HC0.out); rintro e w17 ⟨rfl, hb⟩; have n0_ := a_ (bs_ HB.out hb); clear HB; have HB := n0_; clear n0_; (try clear hb); (try clear hb2); (try clear hk); (try clear hi)))
      go_meet
      case rel => exact ⟨_, (decide (t151 > a2)), (by first | rfl | (simp; done) | (simp [*]; done)), H', ⟨by first | omega | exact Nat.le_refl _⟩, ⟨bv_ HB.out⟩⟩
    ·replace c14 := Bool.eq_false_iff.mpr c14
     subst c14
     have H1 : (demerit_may.j0 k l0 a1 a2 true) = some r := by rw [if_neg (show ¬ (false = true) by decide)] at H; exact H
     clear H
     have H := H1
     clear H1
     have H' := a_ H
     clear H
     go_wp2_with (first | (go_at_call 52; (with_reducible refine (demerit_Legal.calls k _ _ l0 a1 true _ ?side1 ?side2 A11.out).mono ?_); (case side1 => exact cw_ HR0.out HB.out); (case side2 => exact HC0.out); rintro e w' ⟨rfl, ⟨nd, rfl⟩⟩) | (go_at_call 52; (with_reducible refine (demerit_Legal.calls k _ _ l0 a2 false _ ?side1 ?side2 A13.out).mono ?_); (case side1 => repeat (first | exact (Kd.C_below HR0.out (bv_ HB.out)) | (with_reducible refine Kd.C_alloc ?_ _) | (with_reducible refine Kd.C_drewN ?_ _) | (with_reducible refine Kd.C_drew ?_))); (case side2 => exact HC0.out); rintro e w' ⟨rfl, ⟨nd, rfl⟩⟩))
     go_meet
     case rel => exact ⟨_, (true), (by first | rfl | (simp; done) | (simp [*]; done)), H', ⟨by first | omega | exact Nat.le_refl _⟩, ⟨bv_ HB.out⟩⟩
   ·replace c12 := Bool.eq_false_iff.mpr c12
    subst c12
    have H1 : (demerit_may.j0 k l0 a1 a2 true) = some r := by rw [if_neg (show ¬ (false = true) by decide)] at H; exact H
    clear H
    have H := H1
    clear H1
    have H' := a_ H
    clear H
    go_wp2_with (first | (go_at_call 52; (with_reducible refine (demerit_Legal.calls k _ _ l0 a1 false _ ?side1 ?side2 A11.out).mono ?_); (case side1 => exact cw_ HR0.out HB.out); (case side2 => exact HC0.out); rintro e w' ⟨rfl, ⟨nd, rfl⟩⟩))
    go_meet
    case rel => exact ⟨_, (true), (by first | rfl | (simp; done) | (simp [*]; done)), H', ⟨by first | omega | exact Nat.le_refl _⟩, ⟨bv_ HB.out⟩⟩
 case rest =>
  clear HC4
  try clear c1
  try clear p2
  try clear c4
  try clear c5
  try clear c5b0
  try clear c5b1
  try clear c7
  try clear c8
  try clear c8b0
  try clear c12
  try clear c14
  try clear c15
  try clear c15b0
  obtain ⟨kq, x33_3, rfl, HA, HJ3, HB⟩ := hcut
  cases kq with
  | zero => exact absurd HA.out (by simp [demerit_may.j0])
  | succ kj3 =>
   have H := HA.out
   clear HA
   simp only [demerit_may.j0] at H
   by_cases c18 : x33_3 = true
   ·subst c18
    have H1 : (some false) = some r := by rw [if_pos rfl] at H; exact H
    clear H
    have H := H1
    clear H1
    obtain rfl := Option.some.inj H
    go_wp2
    go_ret
    exact ⟨by first | rfl | (simp [errW_none, errW_some] <;> rfl) | (simp [*, errW_none, errW_some] <;> rfl), bv_ HB.out⟩
   ·replace c18 := Bool.eq_false_iff.mpr c18
    subst c18
    have H1 : (demerit_may.l0 kj3 l0 a2 (wrap64 (a1 + 1))) = some r := by rw [if_neg (show ¬ (false = true) by decide)] at H; exact H
    clear H
    have H := H1
    clear H1
    have H' := a_ H
    clear H
    go_wp2
    go_loopg [7] kj3 (fun kq v7 w' => ∃ (x7_2 : Int), v7 = .int .i64 x7_2 ∧ Aside0 (demerit_may.l0 kq l0 a2 x7_2 = some r) ∧ Aside0 (kq ≤ kj3) ∧ Aside0 (Below w.heap.size w w'))
    case atStart => exact ⟨(wrap64 (a1 + 1)), (by first | rfl | (simp; done) | (simp [*]; done)), H', ⟨Nat.le_refl _⟩, ⟨bv_ HB.out⟩⟩
    case round =>
     clear H'
     try clear c1
     try clear p2
     try clear c4
     try clear c5
     try clear c5b0
     try clear c5b1
     try clear p6
     try clear c7
     try clear c8
     try clear c8b0
     try clear c12
     try clear c14
     try clear c15
     try clear c15b0
     try clear c18
     try clear p2
     obtain ⟨x7_2, rfl, HA, HK2, HB⟩ := hrel
     cases gk with
     | zero => exact absurd HA.out (by simp [demerit_may.l0])
     | succ k2 =>
      have H := HA.out
      clear HA
      simp only [demerit_may.l0] at H
      by_cases c19 : x7_2 < a2
      ·rw [if_pos c19] at H
       have c19b0 : decide (x7_2 < a2) = true := decide_eq_true c19
       clear c19
       by_cases c20 : 0 ≤ x7_2
       ·rw [if_pos c20] at H
        have c20b0 : decide (0 ≤ x7_2) = true := decide_eq_true c20
        clear c20
        by_cases c21 : x7_2 < (l0.length : Int)
        ·rw [if_pos c21] at H
         have c21b0 : decide (x7_2 < (l0.length : Int)) = true := decide_eq_true c21
         clear c21
         replace H := Option.bind_eq_some_iff.mp H
         obtain ⟨t153, A220, H⟩ := H
         replace H : (if t153 = true then (some false) else (demerit_may.l0 k2 l0 a2 (wrap64 (x7_2 + 1)))) = some r := H
         have A22 := a_ A220
         clear A220
         by_cases c23 : t153 = true
         ·subst c23
          have H1 : (some false) = some r := by rw [if_pos rfl] at H; exact H
          clear H
          have H := H1
          clear H1
          obtain rfl := Option.some.inj H
          have p152 : 0 ≤ (x7_2 : Int) := od_
          have q152 : x7_2 < (l0.length : Int) := od_
          obtain ⟨ad152, e152, hx152_0, hx152_1, hx152_2, hx152_3, hx152_4, hx152_5, hx152_6, hx152_7, hx152_8⟩ := at_T40 (Kd.C_below HR0.out HB.out) x7_2 p152 q152
          cases e152
          replace p152 := eq_true p152
          replace q152 := eq_true q152
          go_wp2_with (first | ((with_reducible refine gate_callee (f := 45) rfl ?_); refine gl_ (some 45) Try.func45 (by kernel_rfl) #[.agg #[.int .i64 ((rd_T40 l0 x7_2).f0), .int .i64 ((rd_T40 l0 x7_2).f1.f0), .int .i64 ((rd_T40 l0 x7_2).f1.f1), .int .i64 ((rd_T40 l0 x7_2).f1.f2), .int .i64 ((rd_T40 l0 x7_2).f1.f3), .int .i64 ((rd_T40 l0 x7_2).f2), .bool ((rd_T40 l0 x7_2).f3), .int .i64 ((rd_T40 l0 x7_2).f4), .int .i64 ((rd_T40 l0 x7_2).f5)]] ?_; (with_reducible refine (demerit_Forced.calls ((rd_T40 l0 x7_2).f0) ((rd_T40 l0 x7_2).f1.f0) ((rd_T40 l0 x7_2).f1.f1) ((rd_T40 l0 x7_2).f1.f2) ((rd_T40 l0 x7_2).f1.f3) ((rd_T40 l0 x7_2).f2) ((rd_T40 l0 x7_2).f3) ((rd_T40 l0 x7_2).f4) ((rd_T40 l0 x7_2).f5) true _ A22.out).mono ?_); rintro e w24 ⟨rfl, hb⟩; refine ⟨_, rfl, ?_⟩; have n0_ := a_ (bs_ HB.out hb); clear HB; have HB := n0_; clear n0_; (try clear hb); (try clear hb2); (try clear hk); (try clear hi)))
          go_ret
          exact ⟨by first | rfl | (simp [errW_none, errW_some] <;> rfl) | (simp [*, errW_none, errW_some] <;> rfl), bv_ HB.out⟩
         ·replace c23 := Bool.eq_false_iff.mpr c23
          subst c23
          have H1 : (demerit_may.l0 k2 l0 a2 (wrap64 (x7_2 + 1))) = some r := by rw [if_neg (show ¬ (false = true) by decide)] at H; exact H
          clear H
          have H := H1
          clear H1
          have H' := a_ H
          clear H
          have p152 : 0 ≤ (x7_2 : Int) := od_
          have q152 : x7_2 < (l0.length : Int) := od_
          obtain ⟨ad152, e152, hx152_0, hx152_1, hx152_2, hx152_3, hx152_4, hx152_5, hx152_6, hx152_7, hx152_8⟩ := at_T40 (Kd.C_below HR0.out HB.out) x7_2 p152 q152
          cases e152
          replace p152 := eq_true p152
          replace q152 := eq_true q152
          go_wp2_with (first | ((with_reducible refine gate_callee (f := 45) rfl ?_); refine gl_ (some 45) Try.func45 (by kernel_rfl) #[.agg #[.int .i64 ((rd_T40 l0 x7_2).f0), .int .i64 ((rd_T40 l0 x7_2).f1.f0), .int .i64 ((rd_T40 l0 x7_2).f1.f1), .int .i64 ((rd_T40 l0 x7_2).f1.f2), .int .i64 ((rd_T40 l0 x7_2).f1.f3), .int .i64 ((rd_T40 l0 x7_2).f2), .bool ((rd_T40 l0 x7_2).f3), .int .i64 ((rd_T40 l0 x7_2).f4), .int .i64 ((rd_T40 l0 x7_2).f5)]] ?_; (with_reducible refine (demerit_Forced.calls ((rd_T40 l0 x7_2).f0) ((rd_T40 l0 x7_2).f1.f0) ((rd_T40 l0 x7_2).f1.f1) ((rd_T40 l0 x7_2).f1.f2) ((rd_T40 l0 x7_2).f1.f3) ((rd_T40 l0 x7_2).f2) ((rd_T40 l0 x7_2).f3) ((rd_T40 l0 x7_2).f4) ((rd_T40 l0 x7_2).f5) false _ A22.out).mono ?_); rintro e w25 ⟨rfl, hb⟩; refine ⟨_, rfl, ?_⟩; have n0_ := a_ (bs_ HB.out hb); clear HB; have HB := n0_; clear n0_; (try clear hb); (try clear hb2); (try clear hk); (try clear hi)))
          go_roundg k2
          case measure => have := HJ3.out; have := HK2.out; omega
          case rel => exact ⟨(wrap64 (x7_2 + 1)), (by first | rfl | (simp; done) | (simp [*]; done)), H', ⟨by have := HJ3.out; have := HK2.out; omega⟩, ⟨bv_ HB.out⟩⟩
        ·rw [if_neg c21] at H
         exact absurd H (by simp)
       ·rw [if_neg c20] at H
        exact absurd H (by simp)
      ·rw [if_neg c19] at H
       have c19b0 : decide (x7_2 < a2) = false := decide_eq_false c19
       clear c19
       obtain rfl := Option.some.inj H
       go_wp2
       go_ret
       exact ⟨by first | rfl | (simp [errW_none, errW_some] <;> rfl) | (simp [*, errW_none, errW_some] <;> rfl), bv_ HB.out⟩

/-! ### glue_Total: function 53 -/
def glue_Total.l0 : Nat → List S38 → Int → Int → Int → Int → Int → Int → Int → Option (Int × Int × Int × Int × Int × Int × Bool)
 | 0, _, _, _, _, _, _, _, _ => none
 | k + 1, x0, wd, sh, s0, s1, s2, s3, i => if i < (x0.length : Int) then (if 0 ≤ i then (
   if (rd_T38 x0 i).f3 = 0 then glue_Total.l0 k x0 (wrap64 (wd + (rd_T38 x0 i).f0)) (wrap64 (sh + (rd_T38 x0 i).f2)) (wrap64 (s0 + (rd_T38 x0 i).f1)) s1 s2 s3 (wrap64 (i + 1))
   else if (rd_T38 x0 i).f3 = 1 then glue_Total.l0 k x0 (wrap64 (wd + (rd_T38 x0 i).f0)) (wrap64 (sh + (rd_T38 x0 i).f2)) s0 (wrap64 (s1 + (rd_T38 x0 i).f1)) s2 s3 (wrap64 (i + 1))
   else if (rd_T38 x0 i).f3 = 2 then glue_Total.l0 k x0 (wrap64 (wd + (rd_T38 x0 i).f0)) (wrap64 (sh + (rd_T38 x0 i).f2)) s0 s1 (wrap64 (s2 + (rd_T38 x0 i).f1)) s3 (wrap64 (i + 1))
   else if (rd_T38 x0 i).f3 = 3 then glue_Total.l0 k x0 (wrap64 (wd + (rd_T38 x0 i).f0)) (wrap64 (sh + (rd_T38 x0 i).f2)) s0 s1 s2 (wrap64 (s3 + (rd_T38 x0 i).f1)) (wrap64 (i + 1))
   else none) else none) else some (wd, sh, s0, s1, s2, s3, true)
def glue_Total.f (k : Nat) (l0 : List S38) : Option (Int × Int × Int × Int × Int × Int × Bool) := (glue_May.f k l0).bind fun t => if t = true then glue_Total.l0 k l0 0 0 0 0 0 0 0 else some (0, 0, 0, 0, 0, 0, false)
theorem glue_Total.mono_0 : ∀ k x0 wd sh s0 s1 s2 s3 i, LeO (glue_Total.l0 k x0 wd sh s0 s1 s2 s3 i) (glue_Total.l0 (k + 1) x0 wd sh s0 s1 s2 s3 i)
 | 0 => fun _ _ _ _ _ _ _ _ r h => by simp [glue_Total.l0] at h
 | k + 1 => by
  intro x0 wd sh s0 s1 s2 s3 i
  have ih := glue_Total.mono_0 k
  unfold glue_Total.l0
  exact LeO.ite (LeO.ite (LeO.ite (ih _ _ _ _ _ _ _ _) (LeO.ite (ih _ _ _ _ _ _ _ _) (LeO.ite (ih _ _ _ _ _ _ _ _) (LeO.ite (ih _ _ _ _ _ _ _ _) (LeO.refl _))))) (LeO.refl _)) (LeO.refl _)
theorem glue_Total.mono : ∀ a0 k, LeO (glue_Total.f k a0) (glue_Total.f (k + 1) a0) := by
 intro a0 k
 unfold glue_Total.f
 exact LeO.bind (glue_May.mono _ _) (fun _ => LeO.ite (glue_Total.mono_0 _ _ _ _ _ _ _ _ _) (LeO.refl _))

/-- The world behind a round's first stores: what lies in each of the three blocks. -/
theorem glue_Total_mid {w wr w3 w4 : World} {gb g1 g0 : Nat} {wd sh s0 s1 s2 s3 f0 f1 f2 f3 x y : Int}
  (BK : w3.heap[gb]? = some (.cells #[.int .i64 0, .int .i64 0, .int .i64 0, .int .i64 0] 38 (0, 0)))
  (BD1 : w3.heap[g1]? = some (.cells #[.int .i64 wd, .int .i64 sh, .int .i64 s0, .int .i64 s1, .int .i64 s2, .int .i64 s3] 87 (0, 0)))
  (BD0 : w3.heap[g0]? = some (.cells #[.int .i64 0, .int .i64 0, .int .i64 0, .int .i64 0, .int .i64 0, .int .i64 0] 87 (0, 0)))
  (B : Nat) (HB : Below B w wr) (BB : Below wr.heap.size wr w3) (hg : gb = wr.heap.size) (n1 : g1 ≠ gb) (n0 : g0 ≠ gb) (n01 : g0 ≠ g1) (hB : B ≤ g1) (hB2 : B ≤ wr.heap.size)
  (hw4 : w4 = (((((w3.setCell ⟨gb, 0, none⟩ (.int .i64 f0)).setCell ⟨gb, 1, none⟩ (.int .i64 f1)).setCell ⟨gb, 2, none⟩ (.int .i64 f2)).setCell ⟨gb, 3, none⟩ (.int .i64 f3)).setCell ⟨g1, 0, none⟩ (.int .i64 x)).setCell ⟨g1, 1, none⟩ (.int .i64 y)) :
  w4.heap[gb]? = some (.cells #[.int .i64 f0, .int .i64 f1, .int .i64 f2, .int .i64 f3] 38 (0, 0)) ∧
  w4.heap[g1]? = some (.cells #[.int .i64 x, .int .i64 y, .int .i64 s0, .int .i64 s1, .int .i64 s2, .int .i64 s3] 87 (0, 0)) ∧
  w4.heap[g0]? = some (.cells #[.int .i64 0, .int .i64 0, .int .i64 0, .int .i64 0, .int .i64 0, .int .i64 0] 87 (0, 0)) ∧ Below B w w4 := by
 subst hw4
 refine ⟨?_, ?_, ?_, ?_⟩
 ·refine blk_far (blk_far ?_ (p := ⟨g1, 0, none⟩) n1.symm _) (p := ⟨g1, 1, none⟩) n1.symm _
  exact blk_put (blk_put (blk_put (blk_put BK 0 _ rfl) 1 _ rfl) 2 _ rfl) 3 _ rfl
 ·refine blk_put (cs := #[.int .i64 x, .int .i64 sh, .int .i64 s0, .int .i64 s1, .int .i64 s2, .int .i64 s3]) (blk_put (cs := #[.int .i64 wd, .int .i64 sh, .int .i64 s0, .int .i64 s1, .int .i64 s2, .int .i64 s3]) ?_ 0 _ rfl) 1 _ rfl
  exact blk_far (blk_far (blk_far (blk_far BD1 (p := ⟨gb, 0, none⟩) n1 _) (p := ⟨gb, 1, none⟩) n1 _) (p := ⟨gb, 2, none⟩) n1 _) (p := ⟨gb, 3, none⟩) n1 _
 ·refine blk_far (blk_far ?_ (p := ⟨g1, 0, none⟩) n01 _) (p := ⟨g1, 1, none⟩) n01 _
  exact blk_far (blk_far (blk_far (blk_far BD0 (p := ⟨gb, 0, none⟩) n0 _) (p := ⟨gb, 1, none⟩) n0 _) (p := ⟨gb, 2, none⟩) n0 _) (p := ⟨gb, 3, none⟩) n0 _
 ·subst hg
  exact Below.setCell (Below.setCell (Below.setCell (Below.setCell (Below.setCell (Below.setCell (below_then HB hB2 BB) hB2 _) hB2 _) hB2 _) hB2 _) hB _) hB _

set_option maxHeartbeats 8000000 in
set_option maxRecDepth 100000 in
theorem glue_Total.calls (k : Nat) (A0 : Option Addr) (c0 : Nat) (l0 : List S38) (r1 r2 r3 r4 r5 r6 : Int) (r7 : Bool) (w : World) (hr0 : Kd.C k38 w A0 l0.length l0) (hc0 : l0.length ≤ c0) (h : glue_Total.f k l0 = some (r1, r2, r3, r4, r5, r6, r7)) :
  Calls Try.prog 53 #[.slice A0 l0.length c0] w fun e w' => e = .returned (.tuple #[.agg #[.int .i64 r1, .int .i64 r2, .int .i64 r3, .int .i64 r4, .int .i64 r5, .int .i64 r6], .bool r7]) ∧ Below w.heap.size w w' := by
 have hu54 := Try.underlying87
 have hu52 := Try.underlying85
 have hu45 := Try.underlying38
 have HR0 := a_ hr0
 have HC0 := a_ hc0
 clear hr0 hc0
 obtain ⟨t, A40, H⟩ := Option.bind_eq_some_iff.mp h
 clear h
 have A4 := a_ A40
 clear A40
 obtain ⟨W0, hW0⟩ : ∃ W0, W0 = (w.alloc (.cells #[.int .i64 0, .int .i64 0, .int .i64 0, .int .i64 0, .int .i64 0, .int .i64 0] 87)).alloc (.cells #[.int .i64 0, .int .i64 0, .int .i64 0, .int .i64 0, .int .i64 0, .int .i64 0] 87) := ⟨_, rfl⟩
 have B0 := a_ (show Below w.heap.size w W0 by rw [hW0]; exact below_alloc (below_alloc (Below.refl _ _) _) _)
 have HCC := a_ (Kd.C_below HR0.out B0.out)
 have G0 := a_ (show W0.heap[w.heap.size]? = some (.cells #[.int .i64 0, .int .i64 0, .int .i64 0, .int .i64 0, .int .i64 0, .int .i64 0] 87 (0, 0)) by rw [hW0]; exact blk_alloc (blk_new _ _) _)
 have G1 := a_ (show W0.heap[w.heap.size + 1]? = some (.cells #[.int .i64 0, .int .i64 0, .int .i64 0, .int .i64 0, .int .i64 0, .int .i64 0] 87 (0, 0)) by
  have e : (w.alloc (.cells #[.int .i64 0, .int .i64 0, .int .i64 0, .int .i64 0, .int .i64 0, .int .i64 0] 87)).heap.size = w.heap.size + 1 := by simp
  have h2 := blk_new (w.alloc (.cells #[.int .i64 0, .int .i64 0, .int .i64 0, .int .i64 0, .int .i64 0, .int .i64 0] 87)) (.cells #[.int .i64 0, .int .i64 0, .int .i64 0, .int .i64 0, .int .i64 0, .int .i64 0] 87)
  rw [e] at h2
  rw [hW0]; exact h2)
 cases t with
 | false =>
  rw [if_neg (by decide)] at H
  simp only [Option.some.injEq, Prod.mk.injEq] at H
  obtain ⟨rfl, rfl, rfl, rfl, rfl, rfl, rfl⟩ := H
  go_enter Try.func53, Try.ntmps53
  go_wp2_with fail
  rw [← hW0]
  refine (glue_May.calls k A0 c0 l0 false W0 HCC.out HC0.out A4.out).mono ?_
  rintro e w1 ⟨rfl, hb⟩
  have B1 : Aside0 (Below w.heap.size w w1) := ⟨below_then B0.out B0.out.size hb⟩
  have D0 : Aside0 (w1.heap[w.heap.size]? = some (.cells #[.int .i64 0, .int .i64 0, .int .i64 0, .int .i64 0, .int .i64 0, .int .i64 0] 87 (0, 0))) := ⟨blk_below G0.out hb⟩
  have D1 : Aside0 (w1.heap[w.heap.size + 1]? = some (.cells #[.int .i64 0, .int .i64 0, .int .i64 0, .int .i64 0, .int .i64 0, .int .i64 0] 87 (0, 0))) := ⟨blk_below G1.out hb⟩
  clear hb hW0
  have he0 : w1.cell? ⟨w.heap.size, 0, none⟩ = some (.int .i64 0) := (blk_cell D0.out 0).trans rfl
  have he1 : w1.cell? ⟨w.heap.size, 1, none⟩ = some (.int .i64 0) := (blk_cell D0.out 1).trans rfl
  have he2 : w1.cell? ⟨w.heap.size, 2, none⟩ = some (.int .i64 0) := (blk_cell D0.out 2).trans rfl
  have he3 : w1.cell? ⟨w.heap.size, 3, none⟩ = some (.int .i64 0) := (blk_cell D0.out 3).trans rfl
  have he4 : w1.cell? ⟨w.heap.size, 4, none⟩ = some (.int .i64 0) := (blk_cell D0.out 4).trans rfl
  have he5 : w1.cell? ⟨w.heap.size, 5, none⟩ = some (.int .i64 0) := (blk_cell D0.out 5).trans rfl
  have hd0 : w1.cell? ⟨w.heap.size + 1, 0, none⟩ = some (.int .i64 0) := (blk_cell D1.out 0).trans rfl
  have hf0 := blk_frozen D0.out 0
  have hd1 : w1.cell? ⟨w.heap.size + 1, 1, none⟩ = some (.int .i64 0) := (blk_cell D1.out 1).trans rfl
  have hf1 := blk_frozen D0.out 1
  have hd2 : w1.cell? ⟨w.heap.size + 1, 2, none⟩ = some (.int .i64 0) := (blk_cell D1.out 2).trans rfl
  have hf2 := blk_frozen D0.out 2
  have hd3 : w1.cell? ⟨w.heap.size + 1, 3, none⟩ = some (.int .i64 0) := (blk_cell D1.out 3).trans rfl
  have hf3 := blk_frozen D0.out 3
  have hd4 : w1.cell? ⟨w.heap.size + 1, 4, none⟩ = some (.int .i64 0) := (blk_cell D1.out 4).trans rfl
  have hf4 := blk_frozen D0.out 4
  have hd5 : w1.cell? ⟨w.heap.size + 1, 5, none⟩ = some (.int .i64 0) := (blk_cell D1.out 5).trans rfl
  have hf5 := blk_frozen D0.out 5
  go_wp2
  refine bodyPost_ret (results_ct rfl _ _ w.heap.size 87 #[.int .i64 0, .int .i64 0, .int .i64 0, .int .i64 0, .int .i64 0, .int .i64 0] (0, 0) _ rfl (by
   refine blk_put (cs := #[.int .i64 0, .int .i64 0, .int .i64 0, .int .i64 0, .int .i64 0, .int .i64 0]) ?_ 5 _ rfl; refine blk_put (cs := #[.int .i64 0, .int .i64 0, .int .i64 0, .int .i64 0, .int .i64 0, .int .i64 0]) ?_ 4 _ rfl; refine blk_put (cs := #[.int .i64 0, .int .i64 0, .int .i64 0, .int .i64 0, .int .i64 0, .int .i64 0]) ?_ 3 _ rfl; refine blk_put (cs := #[.int .i64 0, .int .i64 0, .int .i64 0, .int .i64 0, .int .i64 0, .int .i64 0]) ?_ 2 _ rfl; refine blk_put (cs := #[.int .i64 0, .int .i64 0, .int .i64 0, .int .i64 0, .int .i64 0, .int .i64 0]) ?_ 1 _ rfl; refine blk_put (cs := #[.int .i64 0, .int .i64 0, .int .i64 0, .int .i64 0, .int .i64 0, .int .i64 0]) ?_ 0 _ rfl; exact D0.out) Try.underlying87 rfl (by kernel_rfl)) rfl ?_
  exact ⟨rfl, Below.setCell (Below.setCell (Below.setCell (Below.setCell (Below.setCell (Below.setCell (B1.out) (Nat.le_refl _) _) (Nat.le_refl _) _) (Nat.le_refl _) _) (Nat.le_refl _) _) (Nat.le_refl _) _) (Nat.le_refl _) _⟩
 | true =>
  rw [if_pos rfl] at H
  have H' := a_ H
  clear H
  go_enter Try.func53, Try.ntmps53
  go_wp2_with fail
  rw [← hW0]
  refine (glue_May.calls k A0 c0 l0 true W0 HCC.out HC0.out A4.out).mono ?_
  rintro e w1 ⟨rfl, hb⟩
  have B1 : Aside0 (Below w.heap.size w w1) := ⟨below_then B0.out B0.out.size hb⟩
  have D0 : Aside0 (w1.heap[w.heap.size]? = some (.cells #[.int .i64 0, .int .i64 0, .int .i64 0, .int .i64 0, .int .i64 0, .int .i64 0] 87 (0, 0))) := ⟨blk_below G0.out hb⟩
  have D1 : Aside0 (w1.heap[w.heap.size + 1]? = some (.cells #[.int .i64 0, .int .i64 0, .int .i64 0, .int .i64 0, .int .i64 0, .int .i64 0] 87 (0, 0))) := ⟨blk_below G1.out hb⟩
  clear hb hW0
  go_wp2
  go_loopg [13] k (fun kq v13 w' => ∃ (wd sh s0 s1 s2 s3 i : Int), v13 = .int .i64 i ∧ Aside0 (glue_Total.l0 kq l0 wd sh s0 s1 s2 s3 i = some (r1, r2, r3, r4, r5, r6, r7)) ∧ Aside0 (kq ≤ k) ∧ Aside0 (w'.heap[w.heap.size + 1]? = some (.cells #[.int .i64 wd, .int .i64 sh, .int .i64 s0, .int .i64 s1, .int .i64 s2, .int .i64 s3] 87 (0, 0))) ∧ Aside0 (w'.heap[w.heap.size]? = some (.cells #[.int .i64 0, .int .i64 0, .int .i64 0, .int .i64 0, .int .i64 0, .int .i64 0] 87 (0, 0))) ∧ Aside0 (Below w.heap.size w w'))
  case atStart => exact ⟨0, 0, 0, 0, 0, 0, 0, rfl, H', ⟨Nat.le_refl _⟩, D1, D0, B1⟩
  case round =>
   clear H'
   obtain ⟨wd, sh, s0, s1, s2, s3, i, rfl, HA, HK1, HD1, HD0, HB1⟩ := hrel
   cases gk with
   | zero => exact absurd HA.out (by simp [glue_Total.l0])
   | succ k1 =>
    have H := HA.out
    clear HA
    simp only [glue_Total.l0] at H
    have hd0 : wr.cell? ⟨w.heap.size + 1, 0, none⟩ = some (.int .i64 wd) := (blk_cell HD1.out 0).trans rfl
    have hf0 := blk_frozen HD1.out 0
    have hd1 : wr.cell? ⟨w.heap.size + 1, 1, none⟩ = some (.int .i64 sh) := (blk_cell HD1.out 1).trans rfl
    have hf1 := blk_frozen HD1.out 1
    have hd2 : wr.cell? ⟨w.heap.size + 1, 2, none⟩ = some (.int .i64 s0) := (blk_cell HD1.out 2).trans rfl
    have hf2 := blk_frozen HD1.out 2
    have hd3 : wr.cell? ⟨w.heap.size + 1, 3, none⟩ = some (.int .i64 s1) := (blk_cell HD1.out 3).trans rfl
    have hf3 := blk_frozen HD1.out 3
    have hd4 : wr.cell? ⟨w.heap.size + 1, 4, none⟩ = some (.int .i64 s2) := (blk_cell HD1.out 4).trans rfl
    have hf4 := blk_frozen HD1.out 4
    have hd5 : wr.cell? ⟨w.heap.size + 1, 5, none⟩ = some (.int .i64 s3) := (blk_cell HD1.out 5).trans rfl
    have hf5 := blk_frozen HD1.out 5
    by_cases c5 : i < (l0.length : Int)
    ·rw [if_pos c5] at H
     by_cases c6 : 0 ≤ i
     ·rw [if_pos c6] at H
      have HC1 := a_ (Kd.C_below HR0.out HB1.out)
      obtain ⟨ad, e1, hx0, hx1, hx2, hx3⟩ := at_T38 HC1.out i c6 c5
      cases e1
      have c5b := decide_eq_true c5
      replace c6 := eq_true c6
      replace c5 := eq_true c5
      by_cases o0 : (rd_T38 l0 i).f3 = 0
      ·rw [if_pos o0] at H
       have H' := a_ H
       clear H
       rw [o0] at hx3
       go_wp2_with ((with_reducible refine gate_dst (N := 6) rfl ?_); refine box_event ?hg (N := 6) ?hd (cs := #[.int .i64 0, .int .i64 0, .int .i64 0, .int .i64 0]) (t := 38) ?hr ?_; (case hd => rfl); (case hg => rfl); (case hr => first | (go_simp; done) | (go_simp; rfl)); intro gb hg w3 hbox hb; have BK := a_ hbox; have BB := a_ hb; have BD1 := a_ (blk_below HD1.out hb); have BD0 := a_ (blk_below HD0.out hb); have ne1 := (by rw [hg]; exact Nat.ne_of_lt (blk_lt HD1.out) : w.heap.size + 1 ≠ gb); have ne2 := (by rw [hg]; exact Nat.ne_of_gt (blk_lt HD1.out) : gb ≠ w.heap.size + 1); have BS := a_ hg; clear hb hbox hg; have hd0' : w3.cell? ⟨w.heap.size + 1, 0, none⟩ = some (.int .i64 wd) := (blk_cell BD1.out 0).trans rfl; have hf0' := blk_frozen BD1.out 0; have hd1' : w3.cell? ⟨w.heap.size + 1, 1, none⟩ = some (.int .i64 sh) := (blk_cell BD1.out 1).trans rfl; have hf1' := blk_frozen BD1.out 1; have hd2' : w3.cell? ⟨w.heap.size + 1, 2, none⟩ = some (.int .i64 s0) := (blk_cell BD1.out 2).trans rfl; have hf2' := blk_frozen BD1.out 2; have hd3' : w3.cell? ⟨w.heap.size + 1, 3, none⟩ = some (.int .i64 s1) := (blk_cell BD1.out 3).trans rfl; have hf3' := blk_frozen BD1.out 3; have hd4' : w3.cell? ⟨w.heap.size + 1, 4, none⟩ = some (.int .i64 s2) := (blk_cell BD1.out 4).trans rfl; have hf4' := blk_frozen BD1.out 4; have hd5' : w3.cell? ⟨w.heap.size + 1, 5, none⟩ = some (.int .i64 s3) := (blk_cell BD1.out 5).trans rfl; have hf5' := blk_frozen BD1.out 5; have hg0 : w3.cell? ⟨gb, 0, none⟩ = some (.int .i64 0) := (blk_cell BK.out 0).trans rfl; have hh0 := blk_frozen BK.out 0; have hg1 : w3.cell? ⟨gb, 1, none⟩ = some (.int .i64 0) := (blk_cell BK.out 1).trans rfl; have hh1 := blk_frozen BK.out 1; have hg2 : w3.cell? ⟨gb, 2, none⟩ = some (.int .i64 0) := (blk_cell BK.out 2).trans rfl; have hh2 := blk_frozen BK.out 2; have hg3 : w3.cell? ⟨gb, 3, none⟩ = some (.int .i64 0) := (blk_cell BK.out 3).trans rfl; have hh3 := blk_frozen BK.out 3)
       obtain ⟨w4, hw4⟩ : ∃ w4, w4 = (((((w3.setCell ⟨gb, 0, none⟩ (Value.int IntKind.i64 (rd_T38 l0 i).f0)).setCell ⟨gb, 1, none⟩ (Value.int IntKind.i64 (rd_T38 l0 i).f1)).setCell ⟨gb, 2, none⟩ (Value.int IntKind.i64 (rd_T38 l0 i).f2)).setCell ⟨gb, 3, none⟩ (Value.int IntKind.i64 0)).setCell ⟨w.heap.size + 1, 0, none⟩ (Value.int IntKind.i64 (wrap64 (wd + (rd_T38 l0 i).f0)))).setCell ⟨w.heap.size + 1, 1, none⟩ (Value.int IntKind.i64 (wrap64 (sh + (rd_T38 l0 i).f2))) := ⟨_, rfl⟩
       rw [← hw4]
       have E4 := a_ (glue_Total_mid BK.out BD1.out BD0.out w.heap.size HB1.out BB.out BS.out ne1 (by rw [BS.out]; exact Nat.ne_of_lt (blk_lt HD0.out)) (by omega) (Nat.le_succ _) HB1.out.size hw4)
       clear hw4 hd0 hd1 hd2 hd3 hd4 hd5 hf0 hf1 hf2 hf3 hf4 hf5 hd0' hd1' hd2' hd3' hd4' hd5' hf0' hf1' hf2' hf3' hf4' hf5' hg0 hg1 hg2 hg3 hh0 hh1 hh2 hh3 hx0 hx1 hx2 hx3 BK BB BD0 BD1 ne1 ne2 BS HD0 HD1 HB1
       have he1 : w4.cell? ⟨gb, 1, none⟩ = some (.int .i64 (rd_T38 l0 i).f1) := (blk_cell E4.out.1 1).trans rfl
       have he3 : w4.cell? ⟨gb, 3, none⟩ = some (.int .i64 0) := (blk_cell E4.out.1 3).trans rfl
       have hes : w4.cell? ⟨w.heap.size + 1, 2, none⟩ = some (.int .i64 s0) := (blk_cell E4.out.2.1 2).trans rfl
       have hef := blk_frozen E4.out.2.1 2
       go_still_tail 9, (by kernel_rfl)
       change wpList _ _ _ _ _ w4.drew
       go_wp2
       go_roundg k1
       case measure => omega
       case rel => exact ⟨_, _, _, _, _, _, _, rfl, H', ⟨by have := HK1.out; omega⟩, ⟨blk_put E4.out.2.1 2 _ rfl⟩, ⟨blk_far E4.out.2.2.1 (p := ⟨w.heap.size + 1, 2, none⟩) (by simp) _⟩, ⟨below_drew (Below.setCell E4.out.2.2.2 (Nat.le_succ _) _)⟩⟩
      ·rw [if_neg o0] at H
       by_cases o1 : (rd_T38 l0 i).f3 = 1
       ·rw [if_pos o1] at H
        have H' := a_ H
        clear H
        rw [o1] at hx3
        go_wp2_with ((with_reducible refine gate_dst (N := 6) rfl ?_); refine box_event ?hg (N := 6) ?hd (cs := #[.int .i64 0, .int .i64 0, .int .i64 0, .int .i64 0]) (t := 38) ?hr ?_; (case hd => rfl); (case hg => rfl); (case hr => first | (go_simp; done) | (go_simp; rfl)); intro gb hg w3 hbox hb; have BK := a_ hbox; have BB := a_ hb; have BD1 := a_ (blk_below HD1.out hb); have BD0 := a_ (blk_below HD0.out hb); have ne1 := (by rw [hg]; exact Nat.ne_of_lt (blk_lt HD1.out) : w.heap.size + 1 ≠ gb); have ne2 := (by rw [hg]; exact Nat.ne_of_gt (blk_lt HD1.out) : gb ≠ w.heap.size + 1); have BS := a_ hg; clear hb hbox hg; have hd0' : w3.cell? ⟨w.heap.size + 1, 0, none⟩ = some (.int .i64 wd) := (blk_cell BD1.out 0).trans rfl; have hf0' := blk_frozen BD1.out 0; have hd1' : w3.cell? ⟨w.heap.size + 1, 1, none⟩ = some (.int .i64 sh) := (blk_cell BD1.out 1).trans rfl; have hf1' := blk_frozen BD1.out 1; have hd2' : w3.cell? ⟨w.heap.size + 1, 2, none⟩ = some (.int .i64 s0) := (blk_cell BD1.out 2).trans rfl; have hf2' := blk_frozen BD1.out 2; have hd3' : w3.cell? ⟨w.heap.size + 1, 3, none⟩ = some (.int .i64 s1) := (blk_cell BD1.out 3).trans rfl; have hf3' := blk_frozen BD1.out 3; have hd4' : w3.cell? ⟨w.heap.size + 1, 4, none⟩ = some (.int .i64 s2) := (blk_cell BD1.out 4).trans rfl; have hf4' := blk_frozen BD1.out 4; have hd5' : w3.cell? ⟨w.heap.size + 1, 5, none⟩ = some (.int .i64 s3) := (blk_cell BD1.out 5).trans rfl; have hf5' := blk_frozen BD1.out 5; have hg0 : w3.cell? ⟨gb, 0, none⟩ = some (.int .i64 0) := (blk_cell BK.out 0).trans rfl; have hh0 := blk_frozen BK.out 0; have hg1 : w3.cell? ⟨gb, 1, none⟩ = some (.int .i64 0) := (blk_cell BK.out 1).trans rfl; have hh1 := blk_frozen BK.out 1; have hg2 : w3.cell? ⟨gb, 2, none⟩ = some (.int .i64 0) := (blk_cell BK.out 2).trans rfl; have hh2 := blk_frozen BK.out 2; have hg3 : w3.cell? ⟨gb, 3, none⟩ = some (.int .i64 0) := (blk_cell BK.out 3).trans rfl; have hh3 := blk_frozen BK.out 3)
        obtain ⟨w4, hw4⟩ : ∃ w4, w4 = (((((w3.setCell ⟨gb, 0, none⟩ (Value.int IntKind.i64 (rd_T38 l0 i).f0)).setCell ⟨gb, 1, none⟩ (Value.int IntKind.i64 (rd_T38 l0 i).f1)).setCell ⟨gb, 2, none⟩ (Value.int IntKind.i64 (rd_T38 l0 i).f2)).setCell ⟨gb, 3, none⟩ (Value.int IntKind.i64 1)).setCell ⟨w.heap.size + 1, 0, none⟩ (Value.int IntKind.i64 (wrap64 (wd + (rd_T38 l0 i).f0)))).setCell ⟨w.heap.size + 1, 1, none⟩ (Value.int IntKind.i64 (wrap64 (sh + (rd_T38 l0 i).f2))) := ⟨_, rfl⟩
        rw [← hw4]
        have E4 := a_ (glue_Total_mid BK.out BD1.out BD0.out w.heap.size HB1.out BB.out BS.out ne1 (by rw [BS.out]; exact Nat.ne_of_lt (blk_lt HD0.out)) (by omega) (Nat.le_succ _) HB1.out.size hw4)
        clear hw4 hd0 hd1 hd2 hd3 hd4 hd5 hf0 hf1 hf2 hf3 hf4 hf5 hd0' hd1' hd2' hd3' hd4' hd5' hf0' hf1' hf2' hf3' hf4' hf5' hg0 hg1 hg2 hg3 hh0 hh1 hh2 hh3 hx0 hx1 hx2 hx3 BK BB BD0 BD1 ne1 ne2 BS HD0 HD1 HB1
        have he1 : w4.cell? ⟨gb, 1, none⟩ = some (.int .i64 (rd_T38 l0 i).f1) := (blk_cell E4.out.1 1).trans rfl
        have he3 : w4.cell? ⟨gb, 3, none⟩ = some (.int .i64 1) := (blk_cell E4.out.1 3).trans rfl
        have hes : w4.cell? ⟨w.heap.size + 1, 3, none⟩ = some (.int .i64 s1) := (blk_cell E4.out.2.1 3).trans rfl
        have hef := blk_frozen E4.out.2.1 3
        go_still_tail 9, (by kernel_rfl)
        change wpList _ _ _ _ _ w4.drew
        go_wp2
        go_roundg k1
        case measure => omega
        case rel => exact ⟨_, _, _, _, _, _, _, rfl, H', ⟨by have := HK1.out; omega⟩, ⟨blk_put E4.out.2.1 3 _ rfl⟩, ⟨blk_far E4.out.2.2.1 (p := ⟨w.heap.size + 1, 3, none⟩) (by simp) _⟩, ⟨below_drew (Below.setCell E4.out.2.2.2 (Nat.le_succ _) _)⟩⟩
       ·rw [if_neg o1] at H
        by_cases o2 : (rd_T38 l0 i).f3 = 2
        ·rw [if_pos o2] at H
         have H' := a_ H
         clear H
         rw [o2] at hx3
         go_wp2_with ((with_reducible refine gate_dst (N := 6) rfl ?_); refine box_event ?hg (N := 6) ?hd (cs := #[.int .i64 0, .int .i64 0, .int .i64 0, .int .i64 0]) (t := 38) ?hr ?_; (case hd => rfl); (case hg => rfl); (case hr => first | (go_simp; done) | (go_simp; rfl)); intro gb hg w3 hbox hb; have BK := a_ hbox; have BB := a_ hb; have BD1 := a_ (blk_below HD1.out hb); have BD0 := a_ (blk_below HD0.out hb); have ne1 := (by rw [hg]; exact Nat.ne_of_lt (blk_lt HD1.out) : w.heap.size + 1 ≠ gb); have ne2 := (by rw [hg]; exact Nat.ne_of_gt (blk_lt HD1.out) : gb ≠ w.heap.size + 1); have BS := a_ hg; clear hb hbox hg; have hd0' : w3.cell? ⟨w.heap.size + 1, 0, none⟩ = some (.int .i64 wd) := (blk_cell BD1.out 0).trans rfl; have hf0' := blk_frozen BD1.out 0; have hd1' : w3.cell? ⟨w.heap.size + 1, 1, none⟩ = some (.int .i64 sh) := (blk_cell BD1.out 1).trans rfl; have hf1' := blk_frozen BD1.out 1; have hd2' : w3.cell? ⟨w.heap.size + 1, 2, none⟩ = some (.int .i64 s0) := (blk_cell BD1.out 2).trans rfl; have hf2' := blk_frozen BD1.out 2; have hd3' : w3.cell? ⟨w.heap.size + 1, 3, none⟩ = some (.int .i64 s1) := (blk_cell BD1.out 3).trans rfl; have hf3' := blk_frozen BD1.out 3; have hd4' : w3.cell? ⟨w.heap.size + 1, 4, none⟩ = some (.int .i64 s2) := (blk_cell BD1.out 4).trans rfl; have hf4' := blk_frozen BD1.out 4; have hd5' : w3.cell? ⟨w.heap.size + 1, 5, none⟩ = some (.int .i64 s3) := (blk_cell BD1.out 5).trans rfl; have hf5' := blk_frozen BD1.out 5; have hg0 : w3.cell? ⟨gb, 0, none⟩ = some (.int .i64 0) := (blk_cell BK.out 0).trans rfl; have hh0 := blk_frozen BK.out 0; have hg1 : w3.cell? ⟨gb, 1, none⟩ = some (.int .i64 0) := (blk_cell BK.out 1).trans rfl; have hh1 := blk_frozen BK.out 1; have hg2 : w3.cell? ⟨gb, 2, none⟩ = some (.int .i64 0) := (blk_cell BK.out 2).trans rfl; have hh2 := blk_frozen BK.out 2; have hg3 : w3.cell? ⟨gb, 3, none⟩ = some (.int .i64 0) := (blk_cell BK.out 3).trans rfl; have hh3 := blk_frozen BK.out 3)
         obtain ⟨w4, hw4⟩ : ∃ w4, w4 = (((((w3.setCell ⟨gb, 0, none⟩ (Value.int IntKind.i64 (rd_T38 l0 i).f0)).setCell ⟨gb, 1, none⟩ (Value.int IntKind.i64 (rd_T38 l0 i).f1)).setCell ⟨gb, 2, none⟩ (Value.int IntKind.i64 (rd_T38 l0 i).f2)).setCell ⟨gb, 3, none⟩ (Value.int IntKind.i64 2)).setCell ⟨w.heap.size + 1, 0, none⟩ (Value.int IntKind.i64 (wrap64 (wd + (rd_T38 l0 i).f0)))).setCell ⟨w.heap.size + 1, 1, none⟩ (Value.int IntKind.i64 (wrap64 (sh + (rd_T38 l0 i).f2))) := ⟨_, rfl⟩
         rw [← hw4]
         have E4 := a_ (glue_Total_mid BK.out BD1.out BD0.out w.heap.size HB1.out BB.out BS.out ne1 (by rw [BS.out]; exact Nat.ne_of_lt (blk_lt HD0.out)) (by omega) (Nat.le_succ _) HB1.out.size hw4)
         clear hw4 hd0 hd1 hd2 hd3 hd4 hd5 hf0 hf1 hf2 hf3 hf4 hf5 hd0' hd1' hd2' hd3' hd4' hd5' hf0' hf1' hf2' hf3' hf4' hf5' hg0 hg1 hg2 hg3 hh0 hh1 hh2 hh3 hx0 hx1 hx2 hx3 BK BB BD0 BD1 ne1 ne2 BS HD0 HD1 HB1
         have he1 : w4.cell? ⟨gb, 1, none⟩ = some (.int .i64 (rd_T38 l0 i).f1) := (blk_cell E4.out.1 1).trans rfl
         have he3 : w4.cell? ⟨gb, 3, none⟩ = some (.int .i64 2) := (blk_cell E4.out.1 3).trans rfl
         have hes : w4.cell? ⟨w.heap.size + 1, 4, none⟩ = some (.int .i64 s2) := (blk_cell E4.out.2.1 4).trans rfl
         have hef := blk_frozen E4.out.2.1 4
         go_still_tail 9, (by kernel_rfl)
         change wpList _ _ _ _ _ w4.drew
         go_wp2
         go_roundg k1
         case measure => omega
         case rel => exact ⟨_, _, _, _, _, _, _, rfl, H', ⟨by have := HK1.out; omega⟩, ⟨blk_put E4.out.2.1 4 _ rfl⟩, ⟨blk_far E4.out.2.2.1 (p := ⟨w.heap.size + 1, 4, none⟩) (by simp) _⟩, ⟨below_drew (Below.setCell E4.out.2.2.2 (Nat.le_succ _) _)⟩⟩
        ·rw [if_neg o2] at H
         by_cases o3 : (rd_T38 l0 i).f3 = 3
         ·rw [if_pos o3] at H
          have H' := a_ H
          clear H
          rw [o3] at hx3
          go_wp2_with ((with_reducible refine gate_dst (N := 6) rfl ?_); refine box_event ?hg (N := 6) ?hd (cs := #[.int .i64 0, .int .i64 0, .int .i64 0, .int .i64 0]) (t := 38) ?hr ?_; (case hd => rfl); (case hg => rfl); (case hr => first | (go_simp; done) | (go_simp; rfl)); intro gb hg w3 hbox hb; have BK := a_ hbox; have BB := a_ hb; have BD1 := a_ (blk_below HD1.out hb); have BD0 := a_ (blk_below HD0.out hb); have ne1 := (by rw [hg]; exact Nat.ne_of_lt (blk_lt HD1.out) : w.heap.size + 1 ≠ gb); have ne2 := (by rw [hg]; exact Nat.ne_of_gt (blk_lt HD1.out) : gb ≠ w.heap.size + 1); have BS := a_ hg; clear hb hbox hg; have hd0' : w3.cell? ⟨w.heap.size + 1, 0, none⟩ = some (.int .i64 wd) := (blk_cell BD1.out 0).trans rfl; have hf0' := blk_frozen BD1.out 0; have hd1' : w3.cell? ⟨w.heap.size + 1, 1, none⟩ = some (.int .i64 sh) := (blk_cell BD1.out 1).trans rfl; have hf1' := blk_frozen BD1.out 1; have hd2' : w3.cell? ⟨w.heap.size + 1, 2, none⟩ = some (.int .i64 s0) := (blk_cell BD1.out 2).trans rfl; have hf2' := blk_frozen BD1.out 2; have hd3' : w3.cell? ⟨w.heap.size + 1, 3, none⟩ = some (.int .i64 s1) := (blk_cell BD1.out 3).trans rfl; have hf3' := blk_frozen BD1.out 3; have hd4' : w3.cell? ⟨w.heap.size + 1, 4, none⟩ = some (.int .i64 s2) := (blk_cell BD1.out 4).trans rfl; have hf4' := blk_frozen BD1.out 4; have hd5' : w3.cell? ⟨w.heap.size + 1, 5, none⟩ = some (.int .i64 s3) := (blk_cell BD1.out 5).trans rfl; have hf5' := blk_frozen BD1.out 5; have hg0 : w3.cell? ⟨gb, 0, none⟩ = some (.int .i64 0) := (blk_cell BK.out 0).trans rfl; have hh0 := blk_frozen BK.out 0; have hg1 : w3.cell? ⟨gb, 1, none⟩ = some (.int .i64 0) := (blk_cell BK.out 1).trans rfl; have hh1 := blk_frozen BK.out 1; have hg2 : w3.cell? ⟨gb, 2, none⟩ = some (.int .i64 0) := (blk_cell BK.out 2).trans rfl; have hh2 := blk_frozen BK.out 2; have hg3 : w3.cell? ⟨gb, 3, none⟩ = some (.int .i64 0) := (blk_cell BK.out 3).trans rfl; have hh3 := blk_frozen BK.out 3)
          obtain ⟨w4, hw4⟩ : ∃ w4, w4 = (((((w3.setCell ⟨gb, 0, none⟩ (Value.int IntKind.i64 (rd_T38 l0 i).f0)).setCell ⟨gb, 1, none⟩ (Value.int IntKind.i64 (rd_T38 l0 i).f1)).setCell ⟨gb, 2, none⟩ (Value.int IntKind.i64 (rd_T38 l0 i).f2)).setCell ⟨gb, 3, none⟩ (Value.int IntKind.i64 3)).setCell ⟨w.heap.size + 1, 0, none⟩ (Value.int IntKind.i64 (wrap64 (wd + (rd_T38 l0 i).f0)))).setCell ⟨w.heap.size + 1, 1, none⟩ (Value.int IntKind.i64 (wrap64 (sh + (rd_T38 l0 i).f2))) := ⟨_, rfl⟩
          rw [← hw4]
          have E4 := a_ (glue_Total_mid BK.out BD1.out BD0.out w.heap.size HB1.out BB.out BS.out ne1 (by rw [BS.out]; exact Nat.ne_of_lt (blk_lt HD0.out)) (by omega) (Nat.le_succ _) HB1.out.size hw4)
          clear hw4 hd0 hd1 hd2 hd3 hd4 hd5 hf0 hf1 hf2 hf3 hf4 hf5 hd0' hd1' hd2' hd3' hd4' hd5' hf0' hf1' hf2' hf3' hf4' hf5' hg0 hg1 hg2 hg3 hh0 hh1 hh2 hh3 hx0 hx1 hx2 hx3 BK BB BD0 BD1 ne1 ne2 BS HD0 HD1 HB1
          have he1 : w4.cell? ⟨gb, 1, none⟩ = some (.int .i64 (rd_T38 l0 i).f1) := (blk_cell E4.out.1 1).trans rfl
          have he3 : w4.cell? ⟨gb, 3, none⟩ = some (.int .i64 3) := (blk_cell E4.out.1 3).trans rfl
          have hes : w4.cell? ⟨w.heap.size + 1, 5, none⟩ = some (.int .i64 s3) := (blk_cell E4.out.2.1 5).trans rfl
          have hef := blk_frozen E4.out.2.1 5
          go_still_tail 9, (by kernel_rfl)
          change wpList _ _ _ _ _ w4.drew
          go_wp2
          go_roundg k1
          case measure => omega
          case rel => exact ⟨_, _, _, _, _, _, _, rfl, H', ⟨by have := HK1.out; omega⟩, ⟨blk_put E4.out.2.1 5 _ rfl⟩, ⟨blk_far E4.out.2.2.1 (p := ⟨w.heap.size + 1, 5, none⟩) (by simp) _⟩, ⟨below_drew (Below.setCell E4.out.2.2.2 (Nat.le_succ _) _)⟩⟩
         ·rw [if_neg o3] at H
          exact absurd H (by simp)
     ·rw [if_neg c6] at H
      exact absurd H (by simp)
    ·rw [if_neg c5] at H
     simp only [Option.some.injEq, Prod.mk.injEq] at H
     obtain ⟨rfl, rfl, rfl, rfl, rfl, rfl, rfl⟩ := H
     have c5b := decide_eq_false c5
     replace c5 := eq_false c5
     have hf0' := blk_frozen HD0.out 0
     have hf1' := blk_frozen HD0.out 1
     have hf2' := blk_frozen HD0.out 2
     have hf3' := blk_frozen HD0.out 3
     have hf4' := blk_frozen HD0.out 4
     have hf5' := blk_frozen HD0.out 5
     have he0 : wr.cell? ⟨w.heap.size, 0, none⟩ = some (.int .i64 0) := (blk_cell HD0.out 0).trans rfl
     have he1 : wr.cell? ⟨w.heap.size, 1, none⟩ = some (.int .i64 0) := (blk_cell HD0.out 1).trans rfl
     have he2 : wr.cell? ⟨w.heap.size, 2, none⟩ = some (.int .i64 0) := (blk_cell HD0.out 2).trans rfl
     have he3 : wr.cell? ⟨w.heap.size, 3, none⟩ = some (.int .i64 0) := (blk_cell HD0.out 3).trans rfl
     have he4 : wr.cell? ⟨w.heap.size, 4, none⟩ = some (.int .i64 0) := (blk_cell HD0.out 4).trans rfl
     have he5 : wr.cell? ⟨w.heap.size, 5, none⟩ = some (.int .i64 0) := (blk_cell HD0.out 5).trans rfl
     go_wp2
     refine bodyPost_ret (results_ct rfl _ _ w.heap.size 87 #[.int .i64 wd, .int .i64 sh, .int .i64 s0, .int .i64 s1, .int .i64 s2, .int .i64 s3] (0, 0) _ rfl (by
      refine blk_put (cs := #[.int .i64 wd, .int .i64 sh, .int .i64 s0, .int .i64 s1, .int .i64 s2, .int .i64 0]) ?_ 5 _ rfl; refine blk_put (cs := #[.int .i64 wd, .int .i64 sh, .int .i64 s0, .int .i64 s1, .int .i64 0, .int .i64 0]) ?_ 4 _ rfl; refine blk_put (cs := #[.int .i64 wd, .int .i64 sh, .int .i64 s0, .int .i64 0, .int .i64 0, .int .i64 0]) ?_ 3 _ rfl; refine blk_put (cs := #[.int .i64 wd, .int .i64 sh, .int .i64 0, .int .i64 0, .int .i64 0, .int .i64 0]) ?_ 2 _ rfl; refine blk_put (cs := #[.int .i64 wd, .int .i64 0, .int .i64 0, .int .i64 0, .int .i64 0, .int .i64 0]) ?_ 1 _ rfl; refine blk_put (cs := #[.int .i64 0, .int .i64 0, .int .i64 0, .int .i64 0, .int .i64 0, .int .i64 0]) ?_ 0 _ rfl; exact HD0.out) Try.underlying87 rfl (by kernel_rfl)) rfl ?_
     exact ⟨rfl, Below.setCell (Below.setCell (Below.setCell (Below.setCell (Below.setCell (Below.setCell (HB1.out) (Nat.le_refl _) _) (Nat.le_refl _) _) (Nat.le_refl _) _) (Nat.le_refl _) _) (Nat.le_refl _) _) (Nat.le_refl _) _⟩

/-! ### scaled_fitted: function 57 -/
def scaled_fitted.f (a0 : Int) (a1 : Bool) : Option (Int × Bool) := if a1 = true then ((scaled_Fits.f a0).bind fun t154 => (if t154 = true then (some (a0, true)) else (some (0, false)))) else (some (0, false))
set_option maxHeartbeats 8000000 in
set_option maxRecDepth 100000 in
theorem scaled_fitted.calls (a0 : Int) (a1 : Bool) (r1 : Int) (r2 : Bool) (w : World) (h : scaled_fitted.f a0 a1 = some (r1, r2)) :
  Calls Try.prog 57 #[.int .i64 a0, .bool a1] w fun e w' => e = .returned (.tuple #[.int .i64 r1, .bool r2]) ∧ Drawn0 w w' := by
 have H : (if a1 = true then ((scaled_Fits.f a0).bind fun t154 => (if t154 = true then (some (a0, true)) else (some (0, false)))) else (some (0, false))) = some (r1, r2) := h
 clear h
 by_cases c3 : a1 = true
 ·subst c3
  have H1 : ((scaled_Fits.f a0).bind fun t154 => (if t154 = true then (some (a0, true)) else (some (0, false)))) = some (r1, r2) := by rw [if_pos rfl] at H; exact H
  clear H
  have H := H1
  clear H1
  replace H := Option.bind_eq_some_iff.mp H
  obtain ⟨t154, A40, H⟩ := H
  replace H : (if t154 = true then (some (a0, true)) else (some (0, false))) = some (r1, r2) := H
  have A4 := a_ A40
  clear A40
  by_cases c5 : t154 = true
  ·subst c5
   have H1 : (some (a0, true)) = some (r1, r2) := by rw [if_pos rfl] at H; exact H
   clear H
   have H := H1
   clear H1
   simp only [Option.some.injEq, Prod.mk.injEq] at H
   obtain ⟨rfl, rfl⟩ := H
   go_enter Try.func57, Try.ntmps57
   go_wp2_with (first | (go_at_call 41; (with_reducible refine (scaled_Fits.calls a0 true _ A4.out).mono ?_); rintro e w' ⟨rfl, ⟨nd, rfl⟩⟩))
   go_ret2
   exact ⟨by first | rfl | (simp; done) | (simp [*]; done), by repeat (first | exact Drawn0.refl _ | apply Drawn0.step)⟩
  ·replace c5 := Bool.eq_false_iff.mpr c5
   subst c5
   have H1 : (some (0, false)) = some (r1, r2) := by rw [if_neg (show ¬ (false = true) by decide)] at H; exact H
   clear H
   have H := H1
   clear H1
   simp only [Option.some.injEq, Prod.mk.injEq] at H
   obtain ⟨rfl, rfl⟩ := H
   go_enter Try.func57, Try.ntmps57
   go_wp2_with (first | (go_at_call 41; (with_reducible refine (scaled_Fits.calls a0 false _ A4.out).mono ?_); rintro e w' ⟨rfl, ⟨nd, rfl⟩⟩))
   go_ret2
   exact ⟨by first | rfl | (simp; done) | (simp [*]; done), by repeat (first | exact Drawn0.refl _ | apply Drawn0.step)⟩
 ·replace c3 := Bool.eq_false_iff.mpr c3
  subst c3
  have H1 : (some (0, false)) = some (r1, r2) := by rw [if_neg (show ¬ (false = true) by decide)] at H; exact H
  clear H
  have H := H1
  clear H1
  simp only [Option.some.injEq, Prod.mk.injEq] at H
  obtain ⟨rfl, rfl⟩ := H
  go_enter Try.func57, Try.ntmps57
  go_wp2
  go_ret2
  exact ⟨by first | rfl | (simp; done) | (simp [*]; done), by repeat (first | exact Drawn0.refl _ | apply Drawn0.step)⟩

end Go.Proofs.Ytpfnfofaajpdmaa.PWi

/- Written by a program of this session: functions of the given program as plain Lean functions, the walks that show it, and the row of each law, for every input that its statement speaks of. -/
import Derived.Test.YtmhnccjdhhcjoaaPAllx0
import Derived.Test.YtmhnccjdhhcjoaaPAllx5
namespace Go.Proofs.Ytmhnccjdhhcjoaa.PAll
open Go.RowKit Go.Proofs.YtmhnccjdhhcjoaaW.PrintWords Go.Proofs.YtmhnccjdhhcjoaaW.PrintLast Go.Proofs.YtmhnccjdhhcjoaaW.PrintMore
attribute [local go_sem] max2_int min2_int max_two min_two max_three min_three max_four min_four   -- for this text's walks alone
set_option linter.unusedVariables false
set_option linter.unusedSimpArgs false

/-! ### variorumref20_Clear: function 14 -/
mutual
def variorumref20_Clear.l0 : Nat → List (S32) → List Int → Int → Option (Bool)
  | 0, _, _, _ => none
  | k + 1, x0, x1, x5 => if x5 < (x0.length : Int) then (if 0 ≤ x5 then ((variorumref02_Fits.f ((rd_T32 x0 x5).f1)).bind fun t232 => (if t232 = true then (if x5 < (x1.length : Int) then ((variorumref02_Fits.f (rd x1 x5)).bind fun t234 => (if t234 = true then (variorumref20_Clear.l0 k x0 x1 (wrap64 (x5 + 1))) else (some false))) else (none)) else (some false))) else (none)) else (variorumref20_Clear.l1 k x0 x1 0)
def variorumref20_Clear.l1 : Nat → List (S32) → List Int → Int → Option (Bool)
  | 0, _, _, _ => none
  | k + 1, x0, x1, x6 => if x6 < (x0.length : Int) then (variorumref20_Clear.l2 k x0 x1 x6 0) else (some true)
def variorumref20_Clear.l2 : Nat → List (S32) → List Int → Int → Int → Option (Bool)
  | 0, _, _, _, _ => none
  | k + 1, x0, x1, x6, x7 => if x7 < (x0.length : Int) then (if 0 ≤ x6 then (if x6 < (x0.length : Int) then (if 0 ≤ x7 then (if ((rd_T32 x0 x6).f1) ≥ ((rd_T32 x0 x7).f1) then (if x7 < (x1.length : Int) then (if x6 = x7 then (variorumref20_Clear.l2 k x0 x1 x6 (wrap64 (x7 + 1))) else (if ((rd_T32 x0 x6).f0) = ((rd_T32 x0 x7).f0) then (if x6 < (x1.length : Int) then (if (rd x1 x6) > 0 then (if (rd x1 x7) > 0 then (if ((rd_T32 x0 x6).f1) < (wrap64 (((rd_T32 x0 x7).f1) + (rd x1 x7))) then (some false) else (variorumref20_Clear.l2 k x0 x1 x6 (wrap64 (x7 + 1)))) else (variorumref20_Clear.l2 k x0 x1 x6 (wrap64 (x7 + 1)))) else (variorumref20_Clear.l2 k x0 x1 x6 (wrap64 (x7 + 1)))) else (none)) else (variorumref20_Clear.l2 k x0 x1 x6 (wrap64 (x7 + 1))))) else (none)) else (if x6 = x7 then (variorumref20_Clear.l2 k x0 x1 x6 (wrap64 (x7 + 1))) else (if ((rd_T32 x0 x6).f0) = ((rd_T32 x0 x7).f0) then (if x6 < (x1.length : Int) then (if (rd x1 x6) > 0 then (if x7 < (x1.length : Int) then (if (rd x1 x7) > 0 then (variorumref20_Clear.l2 k x0 x1 x6 (wrap64 (x7 + 1))) else (variorumref20_Clear.l2 k x0 x1 x6 (wrap64 (x7 + 1)))) else (none)) else (variorumref20_Clear.l2 k x0 x1 x6 (wrap64 (x7 + 1)))) else (none)) else (variorumref20_Clear.l2 k x0 x1 x6 (wrap64 (x7 + 1)))))) else (none)) else (none)) else (none)) else (variorumref20_Clear.l1 k x0 x1 (wrap64 (x6 + 1)))
end
def variorumref20_Clear.f (k : Nat) (l0 : List (S32)) (l1 : List Int) : Option (Bool) := if (l0.length : Int) = (l1.length : Int) then (variorumref20_Clear.l0 k l0 l1 0) else (some false)
theorem variorumref20_Clear.mono_l : ∀ k, (∀ y0 y1 y2, LeO (variorumref20_Clear.l0 k y0 y1 y2) (variorumref20_Clear.l0 (k + 1) y0 y1 y2)) ∧ (∀ y0 y1 y2, LeO (variorumref20_Clear.l1 k y0 y1 y2) (variorumref20_Clear.l1 (k + 1) y0 y1 y2)) ∧ (∀ y0 y1 y2 y3, LeO (variorumref20_Clear.l2 k y0 y1 y2 y3) (variorumref20_Clear.l2 (k + 1) y0 y1 y2 y3))
  | 0 => ⟨fun _ _ _ r h => by simp [variorumref20_Clear.l0] at h, fun _ _ _ r h => by simp [variorumref20_Clear.l1] at h, fun _ _ _ _ r h => by simp [variorumref20_Clear.l2] at h⟩
  | k + 1 => by
    obtain ⟨ih0, ih1, ih2⟩ := variorumref20_Clear.mono_l k
    refine ⟨?_, ?_, ?_⟩
    · intro y0 y1 y2
      unfold variorumref20_Clear.l0
      repeat' first
      | (with_reducible exact ih0 _ _ _)
      | (with_reducible exact ih1 _ _ _)
      | (with_reducible exact ih2 _ _ _ _)
      | (with_reducible exact LeO.refl _)
      | (with_reducible exact LeO.none _)
      | (with_reducible refine LeO.ite ?_ ?_)
      | (with_reducible refine LeO.bind ?_ (fun _ => ?_))
      | exact ih0 _ _ _
      | exact ih1 _ _ _
      | exact ih2 _ _ _ _
      | exact LeO.none _
      | refine LeO.ite ?_ ?_
      | refine LeO.bind ?_ (fun _ => ?_)
    · intro y0 y1 y2
      unfold variorumref20_Clear.l1
      repeat' first
      | (with_reducible exact ih0 _ _ _)
      | (with_reducible exact ih1 _ _ _)
      | (with_reducible exact ih2 _ _ _ _)
      | (with_reducible exact LeO.refl _)
      | (with_reducible exact LeO.none _)
      | (with_reducible refine LeO.ite ?_ ?_)
      | (with_reducible refine LeO.bind ?_ (fun _ => ?_))
      | exact ih0 _ _ _
      | exact ih1 _ _ _
      | exact ih2 _ _ _ _
      | exact LeO.none _
      | refine LeO.ite ?_ ?_
      | refine LeO.bind ?_ (fun _ => ?_)
    · intro y0 y1 y2 y3
      unfold variorumref20_Clear.l2
      repeat' first
      | (with_reducible exact ih0 _ _ _)
      | (with_reducible exact ih1 _ _ _)
      | (with_reducible exact ih2 _ _ _ _)
      | (with_reducible exact LeO.refl _)
      | (with_reducible exact LeO.none _)
      | (with_reducible refine LeO.ite ?_ ?_)
      | (with_reducible refine LeO.bind ?_ (fun _ => ?_))
      | exact ih0 _ _ _
      | exact ih1 _ _ _
      | exact ih2 _ _ _ _
      | exact LeO.none _
      | refine LeO.ite ?_ ?_
      | refine LeO.bind ?_ (fun _ => ?_)
theorem variorumref20_Clear.mono : ∀ a0 a1 k, LeO (variorumref20_Clear.f k a0 a1) (variorumref20_Clear.f (k + 1) a0 a1) := by
  intro a0 a1 k
  obtain ⟨ih0, ih1, ih2⟩ := variorumref20_Clear.mono_l k
  unfold variorumref20_Clear.f
  repeat' first
      | (with_reducible exact ih0 _ _ _)
      | (with_reducible exact ih1 _ _ _)
      | (with_reducible exact ih2 _ _ _ _)
      | (with_reducible exact LeO.refl _)
      | (with_reducible exact LeO.none _)
      | (with_reducible refine LeO.ite ?_ ?_)
      | (with_reducible refine LeO.bind ?_ (fun _ => ?_))
      | exact ih0 _ _ _
      | exact ih1 _ _ _
      | exact ih2 _ _ _ _
      | exact LeO.none _
      | refine LeO.ite ?_ ?_
      | refine LeO.bind ?_ (fun _ => ?_)
set_option maxHeartbeats 8000000 in
set_option maxRecDepth 100000 in
theorem variorumref20_Clear.calls (k : Nat) (A0 : Option Addr) (c0 : Nat) (l0 : List (S32)) (A1 : Option Addr) (c1 : Nat) (l1 : List Int) (r : Bool) (w : World) (hr0 : Kd.C k32 w A0 l0.length l0) (hc0 : l0.length ≤ c0) (hr1 : Kd.C (Kd.int .i64) w A1 l1.length l1) (hc1 : l1.length ≤ c1) (h : variorumref20_Clear.f k l0 l1 = some r) :
    Calls Try.prog 14 #[.slice A0 l0.length c0, .slice A1 l1.length c1] w fun e w' => e = .returned (.bool r) ∧ Drawn0 w w' := by
  have HR0 := Aside0.mk hr0
  have HC0 := Aside0.mk hc0
  clear hr0 hc0
  have HR1 := Aside0.mk hr1
  have HC1 := Aside0.mk hc1
  clear hr1 hc1
  have H : (if (l0.length : Int) = (l1.length : Int) then (variorumref20_Clear.l0 k l0 l1 0) else (some false)) = some r := h
  clear h
  by_cases c3 : (l0.length : Int) = (l1.length : Int)
  · rw [if_pos c3] at H
    have c3b0 : ((l0.length : Int) == (l1.length : Int)) = true := beq_iff_eq.mpr c3
    have c3b1 : ((l0.length : Int) != (l1.length : Int)) = false := bne_eq_false_iff_eq.mpr c3
    have c3b2 : (l0.length == l1.length) = true := by first | simpa using c3 | (simp at c3 ⊢; omega)
    clear c3
    have H' := Aside0.mk H
    clear H
    go_enter Try.func14, Try.ntmps14
    go_wp2
    repeat (go_quiet (fail); try go_wp2)
    go_loopg [5] k (fun kq v5 w' => ∃ (x5_1 : Int), v5 = .int .i64 x5_1 ∧ Aside0 (variorumref20_Clear.l0 kq l0 l1 x5_1 = some r) ∧ Aside0 (kq ≤ k) ∧ Drawn0 w w')
    case atStart => exact ⟨(0), (by first | rfl | (simp; done) | (simp [*]; done)), H', ⟨Nat.le_refl _⟩, by repeat (first | exact Drawn0.refl _ | apply Drawn0.step)⟩
    case round =>
      clear H'
      try clear c1
      try clear p2
      try clear c3
      try clear c3b0
      try clear c3b1
      try clear c3b2
      obtain ⟨x5_1, rfl, HA, HK1, ⟨m1, rfl⟩⟩ := hrel
      cases gk with
      | zero => exact absurd HA.out (by simp [variorumref20_Clear.l0])
      | succ k1 =>
        have H := HA.out
        clear HA
        simp only [variorumref20_Clear.l0] at H
        by_cases c4 : x5_1 < (l0.length : Int)
        · rw [if_pos c4] at H
          have c4b0 : decide (x5_1 < (l0.length : Int)) = true := decide_eq_true c4
          clear c4
          by_cases c5 : 0 ≤ x5_1
          · rw [if_pos c5] at H
            have c5b0 : decide (0 ≤ x5_1) = true := decide_eq_true c5
            clear c5
            replace H := Option.bind_eq_some_iff.mp H
            obtain ⟨t232, A60, H⟩ := H
            replace H : (if t232 = true then (if x5_1 < (l1.length : Int) then ((variorumref02_Fits.f (rd l1 x5_1)).bind fun t234 => (if t234 = true then (variorumref20_Clear.l0 k1 l0 l1 (wrap64 (x5_1 + 1))) else (some false))) else (none)) else (some false)) = some r := H
            have A6 := Aside0.mk A60
            clear A60
            by_cases c7 : t232 = true
            · subst c7
              have H1 : (if x5_1 < (l1.length : Int) then ((variorumref02_Fits.f (rd l1 x5_1)).bind fun t234 => (if t234 = true then (variorumref20_Clear.l0 k1 l0 l1 (wrap64 (x5_1 + 1))) else (some false))) else (none)) = some r := by rw [if_pos rfl] at H; exact H
              clear H
              have H := H1
              clear H1
              by_cases c8 : x5_1 < (l1.length : Int)
              · rw [if_pos c8] at H
                have c8b0 : decide (x5_1 < (l1.length : Int)) = true := decide_eq_true c8
                clear c8
                replace H := Option.bind_eq_some_iff.mp H
                obtain ⟨t234, A90, H⟩ := H
                replace H : (if t234 = true then (variorumref20_Clear.l0 k1 l0 l1 (wrap64 (x5_1 + 1))) else (some false)) = some r := H
                have A9 := Aside0.mk A90
                clear A90
                by_cases c10 : t234 = true
                · subst c10
                  have H1 : (variorumref20_Clear.l0 k1 l0 l1 (wrap64 (x5_1 + 1))) = some r := by rw [if_pos rfl] at H; exact H
                  clear H
                  have H := H1
                  clear H1
                  have H' := Aside0.mk H
                  clear H
                  have p231 : 0 ≤ (x5_1 : Int) := of_decide_eq_true (by first | (with_reducible assumption) | assumption)
                  have q231 : x5_1 < (l0.length : Int) := of_decide_eq_true (by first | (with_reducible assumption) | assumption)
                  obtain ⟨ad231, e231, hx231_0, hx231_1⟩ := at_T32 HR0.out x5_1 p231 q231
                  cases e231
                  replace p231 := eq_true p231
                  replace q231 := eq_true q231
                  go_wp2_with (first | (go_at_call 19; (with_reducible refine (variorumref02_Fits.calls ((rd_T32 l0 x5_1).f1) true _ A6.out).mono ?_); rintro e w' ⟨rfl, ⟨nd, rfl⟩⟩; (try first | exact ⟨rfl, _, World.drewN_drewN _ _ _⟩ | exact ⟨rfl, _, Eq.trans (World.drewN_drewN _ _ _) (congrArg (World.drewN _) (Nat.add_assoc _ _ _))⟩); have p233 : 0 ≤ (x5_1 : Int) := of_decide_eq_true (by first | (with_reducible assumption) | assumption); have q233 : x5_1 < (l1.length : Int) := of_decide_eq_true (by first | (with_reducible assumption) | assumption); obtain ⟨ad233, e233, hx233_0⟩ := Kd.at_int HR1.out x5_1 p233 q233; cases e233; replace p233 := eq_true p233; replace q233 := eq_true q233) | (go_at_call 19; (with_reducible refine (variorumref02_Fits.calls (rd l1 x5_1) true _ A9.out).mono ?_); rintro e w' ⟨rfl, ⟨nd, rfl⟩⟩; (try first | exact ⟨rfl, _, World.drewN_drewN _ _ _⟩ | exact ⟨rfl, _, Eq.trans (World.drewN_drewN _ _ _) (congrArg (World.drewN _) (Nat.add_assoc _ _ _))⟩)))
                  repeat (go_quiet (first | (go_at_call 19; (with_reducible refine (variorumref02_Fits.calls ((rd_T32 l0 x5_1).f1) true _ A6.out).mono ?_); rintro e w' ⟨rfl, ⟨nd, rfl⟩⟩; (try first | exact ⟨rfl, _, World.drewN_drewN _ _ _⟩ | exact ⟨rfl, _, Eq.trans (World.drewN_drewN _ _ _) (congrArg (World.drewN _) (Nat.add_assoc _ _ _))⟩); have p233 : 0 ≤ (x5_1 : Int) := of_decide_eq_true (by first | (with_reducible assumption) | assumption); have q233 : x5_1 < (l1.length : Int) := of_decide_eq_true (by first | (with_reducible assumption) | assumption); obtain ⟨ad233, e233, hx233_0⟩ := Kd.at_int HR1.out x5_1 p233 q233; cases e233; replace p233 := eq_true p233; replace q233 := eq_true q233) | (go_at_call 19; (with_reducible refine (variorumref02_Fits.calls (rd l1 x5_1) true _ A9.out).mono ?_); rintro e w' ⟨rfl, ⟨nd, rfl⟩⟩; (try first | exact ⟨rfl, _, World.drewN_drewN _ _ _⟩ | exact ⟨rfl, _, Eq.trans (World.drewN_drewN _ _ _) (congrArg (World.drewN _) (Nat.add_assoc _ _ _))⟩))); try go_wp2_with (first | (go_at_call 19; (with_reducible refine (variorumref02_Fits.calls ((rd_T32 l0 x5_1).f1) true _ A6.out).mono ?_); rintro e w' ⟨rfl, ⟨nd, rfl⟩⟩; (try first | exact ⟨rfl, _, World.drewN_drewN _ _ _⟩ | exact ⟨rfl, _, Eq.trans (World.drewN_drewN _ _ _) (congrArg (World.drewN _) (Nat.add_assoc _ _ _))⟩); have p233 : 0 ≤ (x5_1 : Int) := of_decide_eq_true (by first | (with_reducible assumption) | assumption); have q233 : x5_1 < (l1.length : Int) := of_decide_eq_true (by first | (with_reducible assumption) | assumption); obtain ⟨ad233, e233, hx233_0⟩ := Kd.at_int HR1.out x5_1 p233 q233; cases e233; replace p233 := eq_true p233; replace q233 := eq_true q233) | (go_at_call 19; (with_reducible refine (variorumref02_Fits.calls (rd l1 x5_1) true _ A9.out).mono ?_); rintro e w' ⟨rfl, ⟨nd, rfl⟩⟩; (try first | exact ⟨rfl, _, World.drewN_drewN _ _ _⟩ | exact ⟨rfl, _, Eq.trans (World.drewN_drewN _ _ _) (congrArg (World.drewN _) (Nat.add_assoc _ _ _))⟩))))
                  go_roundg k1
                  case measure => have := HK1.out; omega
                  case rel => exact ⟨(wrap64 (x5_1 + 1)), (by first | rfl | (simp; done) | (simp [*]; done)), H', ⟨by have := HK1.out; omega⟩, by repeat (first | exact Drawn0.refl _ | apply Drawn0.step)⟩
                · replace c10 := Bool.eq_false_iff.mpr c10
                  subst c10
                  have H1 : (some false) = some r := by rw [if_neg (show ¬ (false = true) by decide)] at H; exact H
                  clear H
                  have H := H1
                  clear H1
                  obtain rfl := Option.some.inj H
                  have p231 : 0 ≤ (x5_1 : Int) := of_decide_eq_true (by first | (with_reducible assumption) | assumption)
                  have q231 : x5_1 < (l0.length : Int) := of_decide_eq_true (by first | (with_reducible assumption) | assumption)
                  obtain ⟨ad231, e231, hx231_0, hx231_1⟩ := at_T32 HR0.out x5_1 p231 q231
                  cases e231
                  replace p231 := eq_true p231
                  replace q231 := eq_true q231
                  go_wp2_with (first | (go_at_call 19; (with_reducible refine (variorumref02_Fits.calls ((rd_T32 l0 x5_1).f1) true _ A6.out).mono ?_); rintro e w' ⟨rfl, ⟨nd, rfl⟩⟩; (try first | exact ⟨rfl, _, World.drewN_drewN _ _ _⟩ | exact ⟨rfl, _, Eq.trans (World.drewN_drewN _ _ _) (congrArg (World.drewN _) (Nat.add_assoc _ _ _))⟩); have p233 : 0 ≤ (x5_1 : Int) := of_decide_eq_true (by first | (with_reducible assumption) | assumption); have q233 : x5_1 < (l1.length : Int) := of_decide_eq_true (by first | (with_reducible assumption) | assumption); obtain ⟨ad233, e233, hx233_0⟩ := Kd.at_int HR1.out x5_1 p233 q233; cases e233; replace p233 := eq_true p233; replace q233 := eq_true q233) | (go_at_call 19; (with_reducible refine (variorumref02_Fits.calls (rd l1 x5_1) false _ A9.out).mono ?_); rintro e w' ⟨rfl, ⟨nd, rfl⟩⟩; (try first | exact ⟨rfl, _, World.drewN_drewN _ _ _⟩ | exact ⟨rfl, _, Eq.trans (World.drewN_drewN _ _ _) (congrArg (World.drewN _) (Nat.add_assoc _ _ _))⟩)))
                  repeat (go_quiet (first | (go_at_call 19; (with_reducible refine (variorumref02_Fits.calls ((rd_T32 l0 x5_1).f1) true _ A6.out).mono ?_); rintro e w' ⟨rfl, ⟨nd, rfl⟩⟩; (try first | exact ⟨rfl, _, World.drewN_drewN _ _ _⟩ | exact ⟨rfl, _, Eq.trans (World.drewN_drewN _ _ _) (congrArg (World.drewN _) (Nat.add_assoc _ _ _))⟩); have p233 : 0 ≤ (x5_1 : Int) := of_decide_eq_true (by first | (with_reducible assumption) | assumption); have q233 : x5_1 < (l1.length : Int) := of_decide_eq_true (by first | (with_reducible assumption) | assumption); obtain ⟨ad233, e233, hx233_0⟩ := Kd.at_int HR1.out x5_1 p233 q233; cases e233; replace p233 := eq_true p233; replace q233 := eq_true q233) | (go_at_call 19; (with_reducible refine (variorumref02_Fits.calls (rd l1 x5_1) false _ A9.out).mono ?_); rintro e w' ⟨rfl, ⟨nd, rfl⟩⟩; (try first | exact ⟨rfl, _, World.drewN_drewN _ _ _⟩ | exact ⟨rfl, _, Eq.trans (World.drewN_drewN _ _ _) (congrArg (World.drewN _) (Nat.add_assoc _ _ _))⟩))); try go_wp2_with (first | (go_at_call 19; (with_reducible refine (variorumref02_Fits.calls ((rd_T32 l0 x5_1).f1) true _ A6.out).mono ?_); rintro e w' ⟨rfl, ⟨nd, rfl⟩⟩; (try first | exact ⟨rfl, _, World.drewN_drewN _ _ _⟩ | exact ⟨rfl, _, Eq.trans (World.drewN_drewN _ _ _) (congrArg (World.drewN _) (Nat.add_assoc _ _ _))⟩); have p233 : 0 ≤ (x5_1 : Int) := of_decide_eq_true (by first | (with_reducible assumption) | assumption); have q233 : x5_1 < (l1.length : Int) := of_decide_eq_true (by first | (with_reducible assumption) | assumption); obtain ⟨ad233, e233, hx233_0⟩ := Kd.at_int HR1.out x5_1 p233 q233; cases e233; replace p233 := eq_true p233; replace q233 := eq_true q233) | (go_at_call 19; (with_reducible refine (variorumref02_Fits.calls (rd l1 x5_1) false _ A9.out).mono ?_); rintro e w' ⟨rfl, ⟨nd, rfl⟩⟩; (try first | exact ⟨rfl, _, World.drewN_drewN _ _ _⟩ | exact ⟨rfl, _, Eq.trans (World.drewN_drewN _ _ _) (congrArg (World.drewN _) (Nat.add_assoc _ _ _))⟩))))
                  go_ret
                  exact ⟨by first | rfl | (simp; done) | (simp [*]; done), by repeat (first | exact Drawn0.refl _ | apply Drawn0.step)⟩
              · rw [if_neg c8] at H
                exact absurd H (by simp)
            · replace c7 := Bool.eq_false_iff.mpr c7
              subst c7
              have H1 : (some false) = some r := by rw [if_neg (show ¬ (false = true) by decide)] at H; exact H
              clear H
              have H := H1
              clear H1
              obtain rfl := Option.some.inj H
              have p231 : 0 ≤ (x5_1 : Int) := of_decide_eq_true (by first | (with_reducible assumption) | assumption)
              have q231 : x5_1 < (l0.length : Int) := of_decide_eq_true (by first | (with_reducible assumption) | assumption)
              obtain ⟨ad231, e231, hx231_0, hx231_1⟩ := at_T32 HR0.out x5_1 p231 q231
              cases e231
              replace p231 := eq_true p231
              replace q231 := eq_true q231
              go_wp2_with (first | (go_at_call 19; (with_reducible refine (variorumref02_Fits.calls ((rd_T32 l0 x5_1).f1) false _ A6.out).mono ?_); rintro e w' ⟨rfl, ⟨nd, rfl⟩⟩; (try first | exact ⟨rfl, _, World.drewN_drewN _ _ _⟩ | exact ⟨rfl, _, Eq.trans (World.drewN_drewN _ _ _) (congrArg (World.drewN _) (Nat.add_assoc _ _ _))⟩)))
              repeat (go_quiet (first | (go_at_call 19; (with_reducible refine (variorumref02_Fits.calls ((rd_T32 l0 x5_1).f1) false _ A6.out).mono ?_); rintro e w' ⟨rfl, ⟨nd, rfl⟩⟩; (try first | exact ⟨rfl, _, World.drewN_drewN _ _ _⟩ | exact ⟨rfl, _, Eq.trans (World.drewN_drewN _ _ _) (congrArg (World.drewN _) (Nat.add_assoc _ _ _))⟩))); try go_wp2_with (first | (go_at_call 19; (with_reducible refine (variorumref02_Fits.calls ((rd_T32 l0 x5_1).f1) false _ A6.out).mono ?_); rintro e w' ⟨rfl, ⟨nd, rfl⟩⟩; (try first | exact ⟨rfl, _, World.drewN_drewN _ _ _⟩ | exact ⟨rfl, _, Eq.trans (World.drewN_drewN _ _ _) (congrArg (World.drewN _) (Nat.add_assoc _ _ _))⟩))))
              go_ret
              exact ⟨by first | rfl | (simp; done) | (simp [*]; done), by repeat (first | exact Drawn0.refl _ | apply Drawn0.step)⟩
          · rw [if_neg c5] at H
            exact absurd H (by simp)
        · rw [if_neg c4] at H
          have c4b0 : decide (x5_1 < (l0.length : Int)) = false := decide_eq_false c4
          clear c4
          have H' := Aside0.mk H
          clear H
          go_wp2
          repeat (go_quiet (fail); try go_wp2)
          go_loopg [6] k1 (fun kq v6 w' => ∃ (x6_2 : Int), v6 = .int .i64 x6_2 ∧ Aside0 (variorumref20_Clear.l1 kq l0 l1 x6_2 = some r) ∧ Aside0 (kq ≤ k1) ∧ Drawn0 w w')
          case atStart => exact ⟨(0), (by first | rfl | (simp; done) | (simp [*]; done)), H', ⟨Nat.le_refl _⟩, by repeat (first | exact Drawn0.refl _ | apply Drawn0.step)⟩
          case round =>
            clear H'
            try clear c1
            try clear p2
            try clear q2
            try clear hx2
            try clear c3
            try clear c3b0
            try clear c3b1
            try clear c3b2
            try clear c4
            try clear c4b0
            try clear c5
            try clear c5b0
            try clear p6
            try clear c7
            try clear c8
            try clear c8b0
            try clear c10
            try clear hx231_0
            try clear hx231_1
            try clear hx233_0
            try clear p2
            try clear p231
            try clear p233
            try clear q231
            try clear q233
            obtain ⟨x6_2, rfl, HA, HK2, ⟨m2, rfl⟩⟩ := hrel
            cases gk with
            | zero => exact absurd HA.out (by simp [variorumref20_Clear.l1])
            | succ k2 =>
              have H := HA.out
              clear HA
              simp only [variorumref20_Clear.l1] at H
              by_cases c11 : x6_2 < (l0.length : Int)
              · rw [if_pos c11] at H
                have c11b0 : decide (x6_2 < (l0.length : Int)) = true := decide_eq_true c11
                clear c11
                have H' := Aside0.mk H
                clear H
                go_wp2
                repeat (go_quiet (fail); try go_wp2)
                go_loopg [7] k2 (fun kq v7 w' => ∃ (x7_3 : Int), v7 = .int .i64 x7_3 ∧ Aside0 (variorumref20_Clear.l2 kq l0 l1 x6_2 x7_3 = some r) ∧ Aside0 (kq ≤ k2) ∧ Drawn0 w w')
                case atStart => exact ⟨(0), (by first | rfl | (simp; done) | (simp [*]; done)), H', ⟨Nat.le_refl _⟩, by repeat (first | exact Drawn0.refl _ | apply Drawn0.step)⟩
                case round =>
                  clear H'
                  try clear c1
                  try clear p2
                  try clear q2
                  try clear hx2
                  try clear c3
                  try clear c3b0
                  try clear c3b1
                  try clear c3b2
                  try clear c4
                  try clear c4b0
                  try clear c5
                  try clear c5b0
                  try clear p6
                  try clear c7
                  try clear c8
                  try clear c8b0
                  try clear c10
                  try clear c11
                  try clear c11b0
                  try clear hx231_0
                  try clear hx231_1
                  try clear hx233_0
                  try clear p2
                  try clear p231
                  try clear p233
                  try clear p6
                  try clear q2
                  try clear q231
                  try clear q233
                  obtain ⟨x7_3, rfl, HA, HK3, ⟨m3, rfl⟩⟩ := hrel
                  cases gk with
                  | zero => exact absurd HA.out (by simp [variorumref20_Clear.l2])
                  | succ k3 =>
                    have H := HA.out
                    clear HA
                    simp only [variorumref20_Clear.l2] at H
                    by_cases c12 : x7_3 < (l0.length : Int)
                    · rw [if_pos c12] at H
                      have c12b0 : decide (x7_3 < (l0.length : Int)) = true := decide_eq_true c12
                      clear c12
                      by_cases c13 : 0 ≤ x6_2
                      · rw [if_pos c13] at H
                        have c13b0 : decide (0 ≤ x6_2) = true := decide_eq_true c13
                        clear c13
                        by_cases c14 : x6_2 < (l0.length : Int)
                        · rw [if_pos c14] at H
                          have c14b0 : decide (x6_2 < (l0.length : Int)) = true := decide_eq_true c14
                          clear c14
                          by_cases c15 : 0 ≤ x7_3
                          · rw [if_pos c15] at H
                            have c15b0 : decide (0 ≤ x7_3) = true := decide_eq_true c15
                            clear c15
                            by_cases c16 : ((rd_T32 l0 x6_2).f1) ≥ ((rd_T32 l0 x7_3).f1)
                            · rw [if_pos c16] at H
                              have c16b0 : decide (((rd_T32 l0 x7_3).f1) ≤ ((rd_T32 l0 x6_2).f1)) = true := decide_eq_true c16
                              clear c16
                              by_cases c17 : x7_3 < (l1.length : Int)
                              · rw [if_pos c17] at H
                                have c17b0 : decide (x7_3 < (l1.length : Int)) = true := decide_eq_true c17
                                clear c17
                                by_cases c18 : x6_2 = x7_3
                                · rw [if_pos c18] at H
                                  have c18b0 : (x6_2 == x7_3) = true := beq_iff_eq.mpr c18
                                  have c18b1 : (x6_2 != x7_3) = false := bne_eq_false_iff_eq.mpr c18
                                  clear c18
                                  have H' := Aside0.mk H
                                  clear H
                                  have p235 : 0 ≤ (x6_2 : Int) := of_decide_eq_true (by first | (with_reducible assumption) | assumption)
                                  have q235 : x6_2 < (l0.length : Int) := of_decide_eq_true (by first | (with_reducible assumption) | assumption)
                                  obtain ⟨ad235, e235, hx235_0, hx235_1⟩ := at_T32 HR0.out x6_2 p235 q235
                                  cases e235
                                  replace p235 := eq_true p235
                                  replace q235 := eq_true q235
                                  have p236 : 0 ≤ (x7_3 : Int) := of_decide_eq_true (by first | (with_reducible assumption) | assumption)
                                  have q236 : x7_3 < (l0.length : Int) := of_decide_eq_true (by first | (with_reducible assumption) | assumption)
                                  obtain ⟨ad236, e236, hx236_0, hx236_1⟩ := at_T32 HR0.out x7_3 p236 q236
                                  obtain rfl : ad235 = ad236 := (by injection e236)
                                  replace p236 := eq_true p236
                                  replace q236 := eq_true q236
                                  have p237 : 0 ≤ (x6_2 : Int) := of_decide_eq_true (by first | (with_reducible assumption) | assumption)
                                  have q237 : x6_2 < (l0.length : Int) := of_decide_eq_true (by first | (with_reducible assumption) | assumption)
                                  obtain ⟨ad237, e237, hx237_0, hx237_1⟩ := at_T32 HR0.out x6_2 p237 q237
                                  obtain rfl : ad235 = ad237 := (by injection e237)
                                  replace p237 := eq_true p237
                                  replace q237 := eq_true q237
                                  have p238 : 0 ≤ (x7_3 : Int) := of_decide_eq_true (by first | (with_reducible assumption) | assumption)
                                  have q238 : x7_3 < (l0.length : Int) := of_decide_eq_true (by first | (with_reducible assumption) | assumption)
                                  obtain ⟨ad238, e238, hx238_0, hx238_1⟩ := at_T32 HR0.out x7_3 p238 q238
                                  obtain rfl : ad235 = ad238 := (by injection e238)
                                  replace p238 := eq_true p238
                                  replace q238 := eq_true q238
                                  have p239 : 0 ≤ (x7_3 : Int) := of_decide_eq_true (by first | (with_reducible assumption) | assumption)
                                  have q239 : x7_3 < (l1.length : Int) := of_decide_eq_true (by first | (with_reducible assumption) | assumption)
                                  obtain ⟨ad239, e239, hx239_0⟩ := Kd.at_int HR1.out x7_3 p239 q239
                                  cases e239
                                  replace p239 := eq_true p239
                                  replace q239 := eq_true q239
                                  go_wp2
                                  repeat (go_quiet (fail); try go_wp2)
                                  go_roundg k3
                                  case measure => have := HK1.out; have := HK2.out; have := HK3.out; omega
                                  case rel => exact ⟨(wrap64 (x7_3 + 1)), (by first | rfl | (simp; done) | (simp [*]; done)), H', ⟨by have := HK1.out; have := HK2.out; have := HK3.out; omega⟩, by repeat (first | exact Drawn0.refl _ | apply Drawn0.step)⟩
                                · rw [if_neg c18] at H
                                  have c18b0 : (x6_2 == x7_3) = false := beq_eq_false_iff_ne.mpr c18
                                  have c18b1 : (x6_2 != x7_3) = true := bne_iff_ne.mpr c18
                                  by_cases c19 : ((rd_T32 l0 x6_2).f0) = ((rd_T32 l0 x7_3).f0)
                                  · rw [if_pos c19] at H
                                    have c19b0 : (((rd_T32 l0 x6_2).f0) == ((rd_T32 l0 x7_3).f0)) = true := beq_iff_eq.mpr c19
                                    have c19b1 : (((rd_T32 l0 x6_2).f0) != ((rd_T32 l0 x7_3).f0)) = false := bne_eq_false_iff_eq.mpr c19
                                    clear c19
                                    by_cases c20 : x6_2 < (l1.length : Int)
                                    · rw [if_pos c20] at H
                                      have c20b0 : decide (x6_2 < (l1.length : Int)) = true := decide_eq_true c20
                                      clear c20
                                      by_cases c21 : (rd l1 x6_2) > 0
                                      · rw [if_pos c21] at H
                                        have c21b0 : decide (0 < (rd l1 x6_2)) = true := decide_eq_true c21
                                        clear c21
                                        by_cases c22 : (rd l1 x7_3) > 0
                                        · rw [if_pos c22] at H
                                          have c22b0 : decide (0 < (rd l1 x7_3)) = true := decide_eq_true c22
                                          clear c22
                                          by_cases c23 : ((rd_T32 l0 x6_2).f1) < (wrap64 (((rd_T32 l0 x7_3).f1) + (rd l1 x7_3)))
                                          · rw [if_pos c23] at H
                                            have c23b0 : decide (((rd_T32 l0 x6_2).f1) < (wrap64 (((rd_T32 l0 x7_3).f1) + (rd l1 x7_3)))) = true := decide_eq_true c23
                                            clear c23
                                            obtain rfl := Option.some.inj H
                                            have p235 : 0 ≤ (x6_2 : Int) := of_decide_eq_true (by first | (with_reducible assumption) | assumption)
                                            have q235 : x6_2 < (l0.length : Int) := of_decide_eq_true (by first | (with_reducible assumption) | assumption)
                                            obtain ⟨ad235, e235, hx235_0, hx235_1⟩ := at_T32 HR0.out x6_2 p235 q235
                                            cases e235
                                            replace p235 := eq_true p235
                                            replace q235 := eq_true q235
                                            have p236 : 0 ≤ (x7_3 : Int) := of_decide_eq_true (by first | (with_reducible assumption) | assumption)
                                            have q236 : x7_3 < (l0.length : Int) := of_decide_eq_true (by first | (with_reducible assumption) | assumption)
                                            obtain ⟨ad236, e236, hx236_0, hx236_1⟩ := at_T32 HR0.out x7_3 p236 q236
                                            obtain rfl : ad235 = ad236 := (by injection e236)
                                            replace p236 := eq_true p236
                                            replace q236 := eq_true q236
                                            have p237 : 0 ≤ (x6_2 : Int) := of_decide_eq_true (by first | (with_reducible assumption) | assumption)
                                            have q237 : x6_2 < (l0.length : Int) := of_decide_eq_true (by first | (with_reducible assumption) | assumption)
                                            obtain ⟨ad237, e237, hx237_0, hx237_1⟩ := at_T32 HR0.out x6_2 p237 q237
                                            obtain rfl : ad235 = ad237 := (by injection e237)
                                            replace p237 := eq_true p237
                                            replace q237 := eq_true q237
                                            have p238 : 0 ≤ (x7_3 : Int) := of_decide_eq_true (by first | (with_reducible assumption) | assumption)
                                            have q238 : x7_3 < (l0.length : Int) := of_decide_eq_true (by first | (with_reducible assumption) | assumption)
                                            obtain ⟨ad238, e238, hx238_0, hx238_1⟩ := at_T32 HR0.out x7_3 p238 q238
                                            obtain rfl : ad235 = ad238 := (by injection e238)
                                            replace p238 := eq_true p238
                                            replace q238 := eq_true q238
                                            have p239 : 0 ≤ (x7_3 : Int) := of_decide_eq_true (by first | (with_reducible assumption) | assumption)
                                            have q239 : x7_3 < (l1.length : Int) := of_decide_eq_true (by first | (with_reducible assumption) | assumption)
                                            obtain ⟨ad239, e239, hx239_0⟩ := Kd.at_int HR1.out x7_3 p239 q239
                                            cases e239
                                            replace p239 := eq_true p239
                                            replace q239 := eq_true q239
                                            have p240 : 0 ≤ (x6_2 : Int) := of_decide_eq_true (by first | (with_reducible assumption) | assumption)
                                            have q240 : x6_2 < (l0.length : Int) := of_decide_eq_true (by first | (with_reducible assumption) | assumption)
                                            obtain ⟨ad240, e240, hx240_0, hx240_1⟩ := at_T32 HR0.out x6_2 p240 q240
                                            obtain rfl : ad235 = ad240 := (by injection e240)
                                            replace p240 := eq_true p240
                                            replace q240 := eq_true q240
                                            have p241 : 0 ≤ (x7_3 : Int) := of_decide_eq_true (by first | (with_reducible assumption) | assumption)
                                            have q241 : x7_3 < (l0.length : Int) := of_decide_eq_true (by first | (with_reducible assumption) | assumption)
                                            obtain ⟨ad241, e241, hx241_0, hx241_1⟩ := at_T32 HR0.out x7_3 p241 q241
                                            obtain rfl : ad235 = ad241 := (by injection e241)
                                            replace p241 := eq_true p241
                                            replace q241 := eq_true q241
                                            have p242 : 0 ≤ (x6_2 : Int) := of_decide_eq_true (by first | (with_reducible assumption) | assumption)
                                            have q242 : x6_2 < (l1.length : Int) := of_decide_eq_true (by first | (with_reducible assumption) | assumption)
                                            obtain ⟨ad242, e242, hx242_0⟩ := Kd.at_int HR1.out x6_2 p242 q242
                                            obtain rfl : ad239 = ad242 := (by injection e242)
                                            replace p242 := eq_true p242
                                            replace q242 := eq_true q242
                                            have p243 : 0 ≤ (x7_3 : Int) := of_decide_eq_true (by first | (with_reducible assumption) | assumption)
                                            have q243 : x7_3 < (l1.length : Int) := of_decide_eq_true (by first | (with_reducible assumption) | assumption)
                                            obtain ⟨ad243, e243, hx243_0⟩ := Kd.at_int HR1.out x7_3 p243 q243
                                            obtain rfl : ad239 = ad243 := (by injection e243)
                                            replace p243 := eq_true p243
                                            replace q243 := eq_true q243
                                            go_wp2
                                            repeat (go_quiet (fail); try go_wp2)
                                            go_ret
                                            exact ⟨by first | rfl | (simp; done) | (simp [*]; done), by repeat (first | exact Drawn0.refl _ | apply Drawn0.step)⟩
                                          · rw [if_neg c23] at H
                                            have c23b0 : decide (((rd_T32 l0 x6_2).f1) < (wrap64 (((rd_T32 l0 x7_3).f1) + (rd l1 x7_3)))) = false := decide_eq_false c23
                                            clear c23
                                            have H' := Aside0.mk H
                                            clear H
                                            have p235 : 0 ≤ (x6_2 : Int) := of_decide_eq_true (by first | (with_reducible assumption) | assumption)
                                            have q235 : x6_2 < (l0.length : Int) := of_decide_eq_true (by first | (with_reducible assumption) | assumption)
                                            obtain ⟨ad235, e235, hx235_0, hx235_1⟩ := at_T32 HR0.out x6_2 p235 q235
                                            cases e235
                                            replace p235 := eq_true p235
                                            replace q235 := eq_true q235
                                            have p236 : 0 ≤ (x7_3 : Int) := of_decide_eq_true (by first | (with_reducible assumption) | assumption)
                                            have q236 : x7_3 < (l0.length : Int) := of_decide_eq_true (by first | (with_reducible assumption) | assumption)
                                            obtain ⟨ad236, e236, hx236_0, hx236_1⟩ := at_T32 HR0.out x7_3 p236 q236
                                            obtain rfl : ad235 = ad236 := (by injection e236)
                                            replace p236 := eq_true p236
                                            replace q236 := eq_true q236
                                            have p237 : 0 ≤ (x6_2 : Int) := of_decide_eq_true (by first | (with_reducible assumption) | assumption)
                                            have q237 : x6_2 < (l0.length : Int) := of_decide_eq_true (by first | (with_reducible assumption) | assumption)
                                            obtain ⟨ad237, e237, hx237_0, hx237_1⟩ := at_T32 HR0.out x6_2 p237 q237
                                            obtain rfl : ad235 = ad237 := (by injection e237)
                                            replace p237 := eq_true p237
                                            replace q237 := eq_true q237
                                            have p238 : 0 ≤ (x7_3 : Int) := of_decide_eq_true (by first | (with_reducible assumption) | assumption)
                                            have q238 : x7_3 < (l0.length : Int) := of_decide_eq_true (by first | (with_reducible assumption) | assumption)
                                            obtain ⟨ad238, e238, hx238_0, hx238_1⟩ := at_T32 HR0.out x7_3 p238 q238
                                            obtain rfl : ad235 = ad238 := (by injection e238)
                                            replace p238 := eq_true p238
                                            replace q238 := eq_true q238
                                            have p239 : 0 ≤ (x7_3 : Int) := of_decide_eq_true (by first | (with_reducible assumption) | assumption)
                                            have q239 : x7_3 < (l1.length : Int) := of_decide_eq_true (by first | (with_reducible assumption) | assumption)
                                            obtain ⟨ad239, e239, hx239_0⟩ := Kd.at_int HR1.out x7_3 p239 q239
                                            cases e239
                                            replace p239 := eq_true p239
                                            replace q239 := eq_true q239
                                            have p240 : 0 ≤ (x6_2 : Int) := of_decide_eq_true (by first | (with_reducible assumption) | assumption)
                                            have q240 : x6_2 < (l0.length : Int) := of_decide_eq_true (by first | (with_reducible assumption) | assumption)
                                            obtain ⟨ad240, e240, hx240_0, hx240_1⟩ := at_T32 HR0.out x6_2 p240 q240
                                            obtain rfl : ad235 = ad240 := (by injection e240)
                                            replace p240 := eq_true p240
                                            replace q240 := eq_true q240
                                            have p241 : 0 ≤ (x7_3 : Int) := of_decide_eq_true (by first | (with_reducible assumption) | assumption)
                                            have q241 : x7_3 < (l0.length : Int) := of_decide_eq_true (by first | (with_reducible assumption) | assumption)
                                            obtain ⟨ad241, e241, hx241_0, hx241_1⟩ := at_T32 HR0.out x7_3 p241 q241
                                            obtain rfl : ad235 = ad241 := (by injection e241)
                                            replace p241 := eq_true p241
                                            replace q241 := eq_true q241
                                            have p242 : 0 ≤ (x6_2 : Int) := of_decide_eq_true (by first | (with_reducible assumption) | assumption)
                                            have q242 : x6_2 < (l1.length : Int) := of_decide_eq_true (by first | (with_reducible assumption) | assumption)
                                            obtain ⟨ad242, e242, hx242_0⟩ := Kd.at_int HR1.out x6_2 p242 q242
                                            obtain rfl : ad239 = ad242 := (by injection e242)
                                            replace p242 := eq_true p242
                                            replace q242 := eq_true q242
                                            have p243 : 0 ≤ (x7_3 : Int) := of_decide_eq_true (by first | (with_reducible assumption) | assumption)
                                            have q243 : x7_3 < (l1.length : Int) := of_decide_eq_true (by first | (with_reducible assumption) | assumption)
                                            obtain ⟨ad243, e243, hx243_0⟩ := Kd.at_int HR1.out x7_3 p243 q243
                                            obtain rfl : ad239 = ad243 := (by injection e243)
                                            replace p243 := eq_true p243
                                            replace q243 := eq_true q243
                                            go_wp2
                                            repeat (go_quiet (fail); try go_wp2)
                                            go_roundg k3
                                            case measure => have := HK1.out; have := HK2.out; have := HK3.out; omega
                                            case rel => exact ⟨(wrap64 (x7_3 + 1)), (by first | rfl | (simp; done) | (simp [*]; done)), H', ⟨by have := HK1.out; have := HK2.out; have := HK3.out; omega⟩, by repeat (first | exact Drawn0.refl _ | apply Drawn0.step)⟩
                                        · rw [if_neg c22] at H
                                          have c22b0 : decide (0 < (rd l1 x7_3)) = false := decide_eq_false c22
                                          clear c22
                                          have H' := Aside0.mk H
                                          clear H
                                          have p235 : 0 ≤ (x6_2 : Int) := of_decide_eq_true (by first | (with_reducible assumption) | assumption)
                                          have q235 : x6_2 < (l0.length : Int) := of_decide_eq_true (by first | (with_reducible assumption) | assumption)
                                          obtain ⟨ad235, e235, hx235_0, hx235_1⟩ := at_T32 HR0.out x6_2 p235 q235
                                          cases e235
                                          replace p235 := eq_true p235
                                          replace q235 := eq_true q235
                                          have p236 : 0 ≤ (x7_3 : Int) := of_decide_eq_true (by first | (with_reducible assumption) | assumption)
                                          have q236 : x7_3 < (l0.length : Int) := of_decide_eq_true (by first | (with_reducible assumption) | assumption)
                                          obtain ⟨ad236, e236, hx236_0, hx236_1⟩ := at_T32 HR0.out x7_3 p236 q236
                                          obtain rfl : ad235 = ad236 := (by injection e236)
                                          replace p236 := eq_true p236
                                          replace q236 := eq_true q236
                                          have p237 : 0 ≤ (x6_2 : Int) := of_decide_eq_true (by first | (with_reducible assumption) | assumption)
                                          have q237 : x6_2 < (l0.length : Int) := of_decide_eq_true (by first | (with_reducible assumption) | assumption)
                                          obtain ⟨ad237, e237, hx237_0, hx237_1⟩ := at_T32 HR0.out x6_2 p237 q237
                                          obtain rfl : ad235 = ad237 := (by injection e237)
                                          replace p237 := eq_true p237
                                          replace q237 := eq_true q237
                                          have p238 : 0 ≤ (x7_3 : Int) := of_decide_eq_true (by first | (with_reducible assumption) | assumption)
                                          have q238 : x7_3 < (l0.length : Int) := of_decide_eq_true (by first | (with_reducible assumption) | assumption)
                                          obtain ⟨ad238, e238, hx238_0, hx238_1⟩ := at_T32 HR0.out x7_3 p238 q238
                                          obtain rfl : ad235 = ad238 := (by injection e238)
                                          replace p238 := eq_true p238
                                          replace q238 := eq_true q238
                                          have p239 : 0 ≤ (x7_3 : Int) := of_decide_eq_true (by first | (with_reducible assumption) | assumption)
                                          have q239 : x7_3 < (l1.length : Int) := of_decide_eq_true (by first | (with_reducible assumption) | assumption)
                                          obtain ⟨ad239, e239, hx239_0⟩ := Kd.at_int HR1.out x7_3 p239 q239
                                          cases e239
                                          replace p239 := eq_true p239
                                          replace q239 := eq_true q239
                                          have p240 : 0 ≤ (x6_2 : Int) := of_decide_eq_true (by first | (with_reducible assumption) | assumption)
                                          have q240 : x6_2 < (l0.length : Int) := of_decide_eq_true (by first | (with_reducible assumption) | assumption)
                                          obtain ⟨ad240, e240, hx240_0, hx240_1⟩ := at_T32 HR0.out x6_2 p240 q240
                                          obtain rfl : ad235 = ad240 := (by injection e240)
                                          replace p240 := eq_true p240
                                          replace q240 := eq_true q240
                                          have p241 : 0 ≤ (x7_3 : Int) := of_decide_eq_true (by first | (with_reducible assumption) | assumption)
                                          have q241 : x7_3 < (l0.length : Int) := of_decide_eq_true (by first | (with_reducible assumption) | assumption)
                                          obtain ⟨ad241, e241, hx241_0, hx241_1⟩ := at_T32 HR0.out x7_3 p241 q241
                                          obtain rfl : ad235 = ad241 := (by injection e241)
                                          replace p241 := eq_true p241
                                          replace q241 := eq_true q241
                                          have p242 : 0 ≤ (x6_2 : Int) := of_decide_eq_true (by first | (with_reducible assumption) | assumption)
                                          have q242 : x6_2 < (l1.length : Int) := of_decide_eq_true (by first | (with_reducible assumption) | assumption)
                                          obtain ⟨ad242, e242, hx242_0⟩ := Kd.at_int HR1.out x6_2 p242 q242
                                          obtain rfl : ad239 = ad242 := (by injection e242)
                                          replace p242 := eq_true p242
                                          replace q242 := eq_true q242
                                          have p243 : 0 ≤ (x7_3 : Int) := of_decide_eq_true (by first | (with_reducible assumption) | assumption)
                                          have q243 : x7_3 < (l1.length : Int) := of_decide_eq_true (by first | (with_reducible assumption) | assumption)
                                          obtain ⟨ad243, e243, hx243_0⟩ := Kd.at_int HR1.out x7_3 p243 q243
                                          obtain rfl : ad239 = ad243 := (by injection e243)
                                          replace p243 := eq_true p243
                                          replace q243 := eq_true q243
                                          go_wp2
                                          repeat (go_quiet (fail); try go_wp2)
                                          go_roundg k3
                                          case measure => have := HK1.out; have := HK2.out; have := HK3.out; omega
                                          case rel => exact ⟨(wrap64 (x7_3 + 1)), (by first | rfl | (simp; done) | (simp [*]; done)), H', ⟨by have := HK1.out; have := HK2.out; have := HK3.out; omega⟩, by repeat (first | exact Drawn0.refl _ | apply Drawn0.step)⟩
                                      · rw [if_neg c21] at H
                                        have c21b0 : decide (0 < (rd l1 x6_2)) = false := decide_eq_false c21
                                        clear c21
                                        have H' := Aside0.mk H
                                        clear H
                                        have p235 : 0 ≤ (x6_2 : Int) := of_decide_eq_true (by first | (with_reducible assumption) | assumption)
                                        have q235 : x6_2 < (l0.length : Int) := of_decide_eq_true (by first | (with_reducible assumption) | assumption)
                                        obtain ⟨ad235, e235, hx235_0, hx235_1⟩ := at_T32 HR0.out x6_2 p235 q235
                                        cases e235
                                        replace p235 := eq_true p235
                                        replace q235 := eq_true q235
                                        have p236 : 0 ≤ (x7_3 : Int) := of_decide_eq_true (by first | (with_reducible assumption) | assumption)
                                        have q236 : x7_3 < (l0.length : Int) := of_decide_eq_true (by first | (with_reducible assumption) | assumption)
                                        obtain ⟨ad236, e236, hx236_0, hx236_1⟩ := at_T32 HR0.out x7_3 p236 q236
                                        obtain rfl : ad235 = ad236 := (by injection e236)
                                        replace p236 := eq_true p236
                                        replace q236 := eq_true q236
                                        have p237 : 0 ≤ (x6_2 : Int) := of_decide_eq_true (by first | (with_reducible assumption) | assumption)
                                        have q237 : x6_2 < (l0.length : Int) := of_decide_eq_true (by first | (with_reducible assumption) | assumption)
                                        obtain ⟨ad237, e237, hx237_0, hx237_1⟩ := at_T32 HR0.out x6_2 p237 q237
                                        obtain rfl : ad235 = ad237 := (by injection e237)
                                        replace p237 := eq_true p237
                                        replace q237 := eq_true q237
                                        have p238 : 0 ≤ (x7_3 : Int) := of_decide_eq_true (by first | (with_reducible assumption) | assumption)
                                        have q238 : x7_3 < (l0.length : Int) := of_decide_eq_true (by first | (with_reducible assumption) | assumption)
                                        obtain ⟨ad238, e238, hx238_0, hx238_1⟩ := at_T32 HR0.out x7_3 p238 q238
                                        obtain rfl : ad235 = ad238 := (by injection e238)
                                        replace p238 := eq_true p238
                                        replace q238 := eq_true q238
                                        have p239 : 0 ≤ (x7_3 : Int) := of_decide_eq_true (by first | (with_reducible assumption) | assumption)
                                        have q239 : x7_3 < (l1.length : Int) := of_decide_eq_true (by first | (with_reducible assumption) | assumption)
                                        obtain ⟨ad239, e239, hx239_0⟩ := Kd.at_int HR1.out x7_3 p239 q239
                                        cases e239
                                        replace p239 := eq_true p239
                                        replace q239 := eq_true q239
                                        have p240 : 0 ≤ (x6_2 : Int) := of_decide_eq_true (by first | (with_reducible assumption) | assumption)
                                        have q240 : x6_2 < (l0.length : Int) := of_decide_eq_true (by first | (with_reducible assumption) | assumption)
                                        obtain ⟨ad240, e240, hx240_0, hx240_1⟩ := at_T32 HR0.out x6_2 p240 q240
                                        obtain rfl : ad235 = ad240 := (by injection e240)
                                        replace p240 := eq_true p240
                                        replace q240 := eq_true q240
                                        have p241 : 0 ≤ (x7_3 : Int) := of_decide_eq_true (by first | (with_reducible assumption) | assumption)
                                        have q241 : x7_3 < (l0.length : Int) := of_decide_eq_true (by first | (with_reducible assumption) | assumption)
                                        obtain ⟨ad241, e241, hx241_0, hx241_1⟩ := at_T32 HR0.out x7_3 p241 q241
                                        obtain rfl : ad235 = ad241 := (by injection e241)
                                        replace p241 := eq_true p241
                                        replace q241 := eq_true q241
                                        have p242 : 0 ≤ (x6_2 : Int) := of_decide_eq_true (by first | (with_reducible assumption) | assumption)
                                        have q242 : x6_2 < (l1.length : Int) := of_decide_eq_true (by first | (with_reducible assumption) | assumption)
                                        obtain ⟨ad242, e242, hx242_0⟩ := Kd.at_int HR1.out x6_2 p242 q242
                                        obtain rfl : ad239 = ad242 := (by injection e242)
                                        replace p242 := eq_true p242
                                        replace q242 := eq_true q242
                                        go_wp2
                                        repeat (go_quiet (fail); try go_wp2)
                                        go_roundg k3
                                        case measure => have := HK1.out; have := HK2.out; have := HK3.out; omega
                                        case rel => exact ⟨(wrap64 (x7_3 + 1)), (by first | rfl | (simp; done) | (simp [*]; done)), H', ⟨by have := HK1.out; have := HK2.out; have := HK3.out; omega⟩, by repeat (first | exact Drawn0.refl _ | apply Drawn0.step)⟩
                                    · rw [if_neg c20] at H
                                      exact absurd H (by simp)
                                  · rw [if_neg c19] at H
                                    have c19b0 : (((rd_T32 l0 x6_2).f0) == ((rd_T32 l0 x7_3).f0)) = false := beq_eq_false_iff_ne.mpr c19
                                    have c19b1 : (((rd_T32 l0 x6_2).f0) != ((rd_T32 l0 x7_3).f0)) = true := bne_iff_ne.mpr c19
                                    have H' := Aside0.mk H
                                    clear H
                                    have p235 : 0 ≤ (x6_2 : Int) := of_decide_eq_true (by first | (with_reducible assumption) | assumption)
                                    have q235 : x6_2 < (l0.length : Int) := of_decide_eq_true (by first | (with_reducible assumption) | assumption)
                                    obtain ⟨ad235, e235, hx235_0, hx235_1⟩ := at_T32 HR0.out x6_2 p235 q235
                                    cases e235
                                    replace p235 := eq_true p235
                                    replace q235 := eq_true q235
                                    have p236 : 0 ≤ (x7_3 : Int) := of_decide_eq_true (by first | (with_reducible assumption) | assumption)
                                    have q236 : x7_3 < (l0.length : Int) := of_decide_eq_true (by first | (with_reducible assumption) | assumption)
                                    obtain ⟨ad236, e236, hx236_0, hx236_1⟩ := at_T32 HR0.out x7_3 p236 q236
                                    obtain rfl : ad235 = ad236 := (by injection e236)
                                    replace p236 := eq_true p236
                                    replace q236 := eq_true q236
                                    have p237 : 0 ≤ (x6_2 : Int) := of_decide_eq_true (by first | (with_reducible assumption) | assumption)
                                    have q237 : x6_2 < (l0.length : Int) := of_decide_eq_true (by first | (with_reducible assumption) | assumption)
                                    obtain ⟨ad237, e237, hx237_0, hx237_1⟩ := at_T32 HR0.out x6_2 p237 q237
                                    obtain rfl : ad235 = ad237 := (by injection e237)
                                    replace p237 := eq_true p237
                                    replace q237 := eq_true q237
                                    have p238 : 0 ≤ (x7_3 : Int) := of_decide_eq_true (by first | (with_reducible assumption) | assumption)
                                    have q238 : x7_3 < (l0.length : Int) := of_decide_eq_true (by first | (with_reducible assumption) | assumption)
                                    obtain ⟨ad238, e238, hx238_0, hx238_1⟩ := at_T32 HR0.out x7_3 p238 q238
                                    obtain rfl : ad235 = ad238 := (by injection e238)
                                    replace p238 := eq_true p238
                                    replace q238 := eq_true q238
                                    have p239 : 0 ≤ (x7_3 : Int) := of_decide_eq_true (by first | (with_reducible assumption) | assumption)
                                    have q239 : x7_3 < (l1.length : Int) := of_decide_eq_true (by first | (with_reducible assumption) | assumption)
                                    obtain ⟨ad239, e239, hx239_0⟩ := Kd.at_int HR1.out x7_3 p239 q239
                                    cases e239
                                    replace p239 := eq_true p239
                                    replace q239 := eq_true q239
                                    have p240 : 0 ≤ (x6_2 : Int) := of_decide_eq_true (by first | (with_reducible assumption) | assumption)
                                    have q240 : x6_2 < (l0.length : Int) := of_decide_eq_true (by first | (with_reducible assumption) | assumption)
                                    obtain ⟨ad240, e240, hx240_0, hx240_1⟩ := at_T32 HR0.out x6_2 p240 q240
                                    obtain rfl : ad235 = ad240 := (by injection e240)
                                    replace p240 := eq_true p240
                                    replace q240 := eq_true q240
                                    have p241 : 0 ≤ (x7_3 : Int) := of_decide_eq_true (by first | (with_reducible assumption) | assumption)
                                    have q241 : x7_3 < (l0.length : Int) := of_decide_eq_true (by first | (with_reducible assumption) | assumption)
                                    obtain ⟨ad241, e241, hx241_0, hx241_1⟩ := at_T32 HR0.out x7_3 p241 q241
                                    obtain rfl : ad235 = ad241 := (by injection e241)
                                    replace p241 := eq_true p241
                                    replace q241 := eq_true q241
                                    go_wp2
                                    repeat (go_quiet (fail); try go_wp2)
                                    go_roundg k3
                                    case measure => have := HK1.out; have := HK2.out; have := HK3.out; omega
                                    case rel => exact ⟨(wrap64 (x7_3 + 1)), (by first | rfl | (simp; done) | (simp [*]; done)), H', ⟨by have := HK1.out; have := HK2.out; have := HK3.out; omega⟩, by repeat (first | exact Drawn0.refl _ | apply Drawn0.step)⟩
                              · rw [if_neg c17] at H
                                exact absurd H (by simp)
                            · rw [if_neg c16] at H
                              have c16b0 : decide (((rd_T32 l0 x7_3).f1) ≤ ((rd_T32 l0 x6_2).f1)) = false := decide_eq_false c16
                              clear c16
                              by_cases c24 : x6_2 = x7_3
                              · rw [if_pos c24] at H
                                have c24b0 : (x6_2 == x7_3) = true := beq_iff_eq.mpr c24
                                have c24b1 : (x6_2 != x7_3) = false := bne_eq_false_iff_eq.mpr c24
                                clear c24
                                have H' := Aside0.mk H
                                clear H
                                have p235 : 0 ≤ (x6_2 : Int) := of_decide_eq_true (by first | (with_reducible assumption) | assumption)
                                have q235 : x6_2 < (l0.length : Int) := of_decide_eq_true (by first | (with_reducible assumption) | assumption)
                                obtain ⟨ad235, e235, hx235_0, hx235_1⟩ := at_T32 HR0.out x6_2 p235 q235
                                cases e235
                                replace p235 := eq_true p235
                                replace q235 := eq_true q235
                                have p236 : 0 ≤ (x7_3 : Int) := of_decide_eq_true (by first | (with_reducible assumption) | assumption)
                                have q236 : x7_3 < (l0.length : Int) := of_decide_eq_true (by first | (with_reducible assumption) | assumption)
                                obtain ⟨ad236, e236, hx236_0, hx236_1⟩ := at_T32 HR0.out x7_3 p236 q236
                                obtain rfl : ad235 = ad236 := (by injection e236)
                                replace p236 := eq_true p236
                                replace q236 := eq_true q236
                                go_wp2
                                repeat (go_quiet (fail); try go_wp2)
                                go_roundg k3
                                case measure => have := HK1.out; have := HK2.out; have := HK3.out; omega
                                case rel => exact ⟨(wrap64 (x7_3 + 1)), (by first | rfl | (simp; done) | (simp [*]; done)), H', ⟨by have := HK1.out; have := HK2.out; have := HK3.out; omega⟩, by repeat (first | exact Drawn0.refl _ | apply Drawn0.step)⟩
                              · rw [if_neg c24] at H
                                have c24b0 : (x6_2 == x7_3) = false := beq_eq_false_iff_ne.mpr c24
                                have c24b1 : (x6_2 != x7_3) = true := bne_iff_ne.mpr c24
                                by_cases c25 : ((rd_T32 l0 x6_2).f0) = ((rd_T32 l0 x7_3).f0)
                                · rw [if_pos c25] at H
                                  have c25b0 : (((rd_T32 l0 x6_2).f0) == ((rd_T32 l0 x7_3).f0)) = true := beq_iff_eq.mpr c25
                                  have c25b1 : (((rd_T32 l0 x6_2).f0) != ((rd_T32 l0 x7_3).f0)) = false := bne_eq_false_iff_eq.mpr c25
                                  clear c25
                                  by_cases c26 : x6_2 < (l1.length : Int)
                                  · rw [if_pos c26] at H
                                    have c26b0 : decide (x6_2 < (l1.length : Int)) = true := decide_eq_true c26
                                    clear c26
                                    by_cases c27 : (rd l1 x6_2) > 0
                                    · rw [if_pos c27] at H
                                      have c27b0 : decide (0 < (rd l1 x6_2)) = true := decide_eq_true c27
                                      clear c27
                                      by_cases c28 : x7_3 < (l1.length : Int)
                                      · rw [if_pos c28] at H
                                        have c28b0 : decide (x7_3 < (l1.length : Int)) = true := decide_eq_true c28
                                        clear c28
                                        by_cases c29 : (rd l1 x7_3) > 0
                                        · rw [if_pos c29] at H
                                          have c29b0 : decide (0 < (rd l1 x7_3)) = true := decide_eq_true c29
                                          clear c29
                                          have H' := Aside0.mk H
                                          clear H
                                          have p235 : 0 ≤ (x6_2 : Int) := of_decide_eq_true (by first | (with_reducible assumption) | assumption)
                                          have q235 : x6_2 < (l0.length : Int) := of_decide_eq_true (by first | (with_reducible assumption) | assumption)
                                          obtain ⟨ad235, e235, hx235_0, hx235_1⟩ := at_T32 HR0.out x6_2 p235 q235
                                          cases e235
                                          replace p235 := eq_true p235
                                          replace q235 := eq_true q235
                                          have p236 : 0 ≤ (x7_3 : Int) := of_decide_eq_true (by first | (with_reducible assumption) | assumption)
                                          have q236 : x7_3 < (l0.length : Int) := of_decide_eq_true (by first | (with_reducible assumption) | assumption)
                                          obtain ⟨ad236, e236, hx236_0, hx236_1⟩ := at_T32 HR0.out x7_3 p236 q236
                                          obtain rfl : ad235 = ad236 := (by injection e236)
                                          replace p236 := eq_true p236
                                          replace q236 := eq_true q236
                                          have p244 : 0 ≤ (x6_2 : Int) := of_decide_eq_true (by first | (with_reducible assumption) | assumption)
                                          have q244 : x6_2 < (l0.length : Int) := of_decide_eq_true (by first | (with_reducible assumption) | assumption)
                                          obtain ⟨ad244, e244, hx244_0, hx244_1⟩ := at_T32 HR0.out x6_2 p244 q244
                                          obtain rfl : ad235 = ad244 := (by injection e244)
                                          replace p244 := eq_true p244
                                          replace q244 := eq_true q244
                                          have p245 : 0 ≤ (x7_3 : Int) := of_decide_eq_true (by first | (with_reducible assumption) | assumption)
                                          have q245 : x7_3 < (l0.length : Int) := of_decide_eq_true (by first | (with_reducible assumption) | assumption)
                                          obtain ⟨ad245, e245, hx245_0, hx245_1⟩ := at_T32 HR0.out x7_3 p245 q245
                                          obtain rfl : ad235 = ad245 := (by injection e245)
                                          replace p245 := eq_true p245
                                          replace q245 := eq_true q245
                                          have p246 : 0 ≤ (x6_2 : Int) := of_decide_eq_true (by first | (with_reducible assumption) | assumption)
                                          have q246 : x6_2 < (l1.length : Int) := of_decide_eq_true (by first | (with_reducible assumption) | assumption)
                                          obtain ⟨ad246, e246, hx246_0⟩ := Kd.at_int HR1.out x6_2 p246 q246
                                          cases e246
                                          replace p246 := eq_true p246
                                          replace q246 := eq_true q246
                                          have p247 : 0 ≤ (x7_3 : Int) := of_decide_eq_true (by first | (with_reducible assumption) | assumption)
                                          have q247 : x7_3 < (l1.length : Int) := of_decide_eq_true (by first | (with_reducible assumption) | assumption)
                                          obtain ⟨ad247, e247, hx247_0⟩ := Kd.at_int HR1.out x7_3 p247 q247
                                          obtain rfl : ad246 = ad247 := (by injection e247)
                                          replace p247 := eq_true p247
                                          replace q247 := eq_true q247
                                          go_wp2
                                          repeat (go_quiet (fail); try go_wp2)
                                          go_roundg k3
                                          case measure => have := HK1.out; have := HK2.out; have := HK3.out; omega
                                          case rel => exact ⟨(wrap64 (x7_3 + 1)), (by first | rfl | (simp; done) | (simp [*]; done)), H', ⟨by have := HK1.out; have := HK2.out; have := HK3.out; omega⟩, by repeat (first | exact Drawn0.refl _ | apply Drawn0.step)⟩
                                        · rw [if_neg c29] at H
                                          have c29b0 : decide (0 < (rd l1 x7_3)) = false := decide_eq_false c29
                                          clear c29
                                          have H' := Aside0.mk H
                                          clear H
                                          have p235 : 0 ≤ (x6_2 : Int) := of_decide_eq_true (by first | (with_reducible assumption) | assumption)
                                          have q235 : x6_2 < (l0.length : Int) := of_decide_eq_true (by first | (with_reducible assumption) | assumption)
                                          obtain ⟨ad235, e235, hx235_0, hx235_1⟩ := at_T32 HR0.out x6_2 p235 q235
                                          cases e235
                                          replace p235 := eq_true p235
                                          replace q235 := eq_true q235
                                          have p236 : 0 ≤ (x7_3 : Int) := of_decide_eq_true (by first | (with_reducible assumption) | assumption)
                                          have q236 : x7_3 < (l0.length : Int) := of_decide_eq_true (by first | (with_reducible assumption) | assumption)
                                          obtain ⟨ad236, e236, hx236_0, hx236_1⟩ := at_T32 HR0.out x7_3 p236 q236
                                          obtain rfl : ad235 = ad236 := (by injection e236)
                                          replace p236 := eq_true p236
                                          replace q236 := eq_true q236
                                          have p244 : 0 ≤ (x6_2 : Int) := of_decide_eq_true (by first | (with_reducible assumption) | assumption)
                                          have q244 : x6_2 < (l0.length : Int) := of_decide_eq_true (by first | (with_reducible assumption) | assumption)
                                          obtain ⟨ad244, e244, hx244_0, hx244_1⟩ := at_T32 HR0.out x6_2 p244 q244
                                          obtain rfl : ad235 = ad244 := (by injection e244)
                                          replace p244 := eq_true p244
                                          replace q244 := eq_true q244
                                          have p245 : 0 ≤ (x7_3 : Int) := of_decide_eq_true (by first | (with_reducible assumption) | assumption)
                                          have q245 : x7_3 < (l0.length : Int) := of_decide_eq_true (by first | (with_reducible assumption) | assumption)
                                          obtain ⟨ad245, e245, hx245_0, hx245_1⟩ := at_T32 HR0.out x7_3 p245 q245
                                          obtain rfl : ad235 = ad245 := (by injection e245)
                                          replace p245 := eq_true p245
                                          replace q245 := eq_true q245
                                          have p246 : 0 ≤ (x6_2 : Int) := of_decide_eq_true (by first | (with_reducible assumption) | assumption)
                                          have q246 : x6_2 < (l1.length : Int) := of_decide_eq_true (by first | (with_reducible assumption) | assumption)
                                          obtain ⟨ad246, e246, hx246_0⟩ := Kd.at_int HR1.out x6_2 p246 q246
                                          cases e246
                                          replace p246 := eq_true p246
                                          replace q246 := eq_true q246
                                          have p247 : 0 ≤ (x7_3 : Int) := of_decide_eq_true (by first | (with_reducible assumption) | assumption)
                                          have q247 : x7_3 < (l1.length : Int) := of_decide_eq_true (by first | (with_reducible assumption) | assumption)
                                          obtain ⟨ad247, e247, hx247_0⟩ := Kd.at_int HR1.out x7_3 p247 q247
                                          obtain rfl : ad246 = ad247 := (by injection e247)
                                          replace p247 := eq_true p247
                                          replace q247 := eq_true q247
                                          go_wp2
                                          repeat (go_quiet (fail); try go_wp2)
                                          go_roundg k3
                                          case measure => have := HK1.out; have := HK2.out; have := HK3.out; omega
                                          case rel => exact ⟨(wrap64 (x7_3 + 1)), (by first | rfl | (simp; done) | (simp [*]; done)), H', ⟨by have := HK1.out; have := HK2.out; have := HK3.out; omega⟩, by repeat (first | exact Drawn0.refl _ | apply Drawn0.step)⟩
                                      · rw [if_neg c28] at H
                                        exact absurd H (by simp)
                                    · rw [if_neg c27] at H
                                      have c27b0 : decide (0 < (rd l1 x6_2)) = false := decide_eq_false c27
                                      clear c27
                                      have H' := Aside0.mk H
                                      clear H
                                      have p235 : 0 ≤ (x6_2 : Int) := of_decide_eq_true (by first | (with_reducible assumption) | assumption)
                                      have q235 : x6_2 < (l0.length : Int) := of_decide_eq_true (by first | (with_reducible assumption) | assumption)
                                      obtain ⟨ad235, e235, hx235_0, hx235_1⟩ := at_T32 HR0.out x6_2 p235 q235
                                      cases e235
                                      replace p235 := eq_true p235
                                      replace q235 := eq_true q235
                                      have p236 : 0 ≤ (x7_3 : Int) := of_decide_eq_true (by first | (with_reducible assumption) | assumption)
                                      have q236 : x7_3 < (l0.length : Int) := of_decide_eq_true (by first | (with_reducible assumption) | assumption)
                                      obtain ⟨ad236, e236, hx236_0, hx236_1⟩ := at_T32 HR0.out x7_3 p236 q236
                                      obtain rfl : ad235 = ad236 := (by injection e236)
                                      replace p236 := eq_true p236
                                      replace q236 := eq_true q236
                                      have p244 : 0 ≤ (x6_2 : Int) := of_decide_eq_true (by first | (with_reducible assumption) | assumption)
                                      have q244 : x6_2 < (l0.length : Int) := of_decide_eq_true (by first | (with_reducible assumption) | assumption)
                                      obtain ⟨ad244, e244, hx244_0, hx244_1⟩ := at_T32 HR0.out x6_2 p244 q244
                                      obtain rfl : ad235 = ad244 := (by injection e244)
                                      replace p244 := eq_true p244
                                      replace q244 := eq_true q244
                                      have p245 : 0 ≤ (x7_3 : Int) := of_decide_eq_true (by first | (with_reducible assumption) | assumption)
                                      have q245 : x7_3 < (l0.length : Int) := of_decide_eq_true (by first | (with_reducible assumption) | assumption)
                                      obtain ⟨ad245, e245, hx245_0, hx245_1⟩ := at_T32 HR0.out x7_3 p245 q245
                                      obtain rfl : ad235 = ad245 := (by injection e245)
                                      replace p245 := eq_true p245
                                      replace q245 := eq_true q245
                                      have p246 : 0 ≤ (x6_2 : Int) := of_decide_eq_true (by first | (with_reducible assumption) | assumption)
                                      have q246 : x6_2 < (l1.length : Int) := of_decide_eq_true (by first | (with_reducible assumption) | assumption)
                                      obtain ⟨ad246, e246, hx246_0⟩ := Kd.at_int HR1.out x6_2 p246 q246
                                      cases e246
                                      replace p246 := eq_true p246
                                      replace q246 := eq_true q246
                                      go_wp2
                                      repeat (go_quiet (fail); try go_wp2)
                                      go_roundg k3
                                      case measure => have := HK1.out; have := HK2.out; have := HK3.out; omega
                                      case rel => exact ⟨(wrap64 (x7_3 + 1)), (by first | rfl | (simp; done) | (simp [*]; done)), H', ⟨by have := HK1.out; have := HK2.out; have := HK3.out; omega⟩, by repeat (first | exact Drawn0.refl _ | apply Drawn0.step)⟩
                                  · rw [if_neg c26] at H
                                    exact absurd H (by simp)
                                · rw [if_neg c25] at H
                                  have c25b0 : (((rd_T32 l0 x6_2).f0) == ((rd_T32 l0 x7_3).f0)) = false := beq_eq_false_iff_ne.mpr c25
                                  have c25b1 : (((rd_T32 l0 x6_2).f0) != ((rd_T32 l0 x7_3).f0)) = true := bne_iff_ne.mpr c25
                                  have H' := Aside0.mk H
                                  clear H
                                  have p235 : 0 ≤ (x6_2 : Int) := of_decide_eq_true (by first | (with_reducible assumption) | assumption)
                                  have q235 : x6_2 < (l0.length : Int) := of_decide_eq_true (by first | (with_reducible assumption) | assumption)
                                  obtain ⟨ad235, e235, hx235_0, hx235_1⟩ := at_T32 HR0.out x6_2 p235 q235
                                  cases e235
                                  replace p235 := eq_true p235
                                  replace q235 := eq_true q235
                                  have p236 : 0 ≤ (x7_3 : Int) := of_decide_eq_true (by first | (with_reducible assumption) | assumption)
                                  have q236 : x7_3 < (l0.length : Int) := of_decide_eq_true (by first | (with_reducible assumption) | assumption)
                                  obtain ⟨ad236, e236, hx236_0, hx236_1⟩ := at_T32 HR0.out x7_3 p236 q236
                                  obtain rfl : ad235 = ad236 := (by injection e236)
                                  replace p236 := eq_true p236
                                  replace q236 := eq_true q236
                                  have p244 : 0 ≤ (x6_2 : Int) := of_decide_eq_true (by first | (with_reducible assumption) | assumption)
                                  have q244 : x6_2 < (l0.length : Int) := of_decide_eq_true (by first | (with_reducible assumption) | assumption)
                                  obtain ⟨ad244, e244, hx244_0, hx244_1⟩ := at_T32 HR0.out x6_2 p244 q244
                                  obtain rfl : ad235 = ad244 := (by injection e244)
                                  replace p244 := eq_true p244
                                  replace q244 := eq_true q244
                                  have p245 : 0 ≤ (x7_3 : Int) := of_decide_eq_true (by first | (with_reducible assumption) | assumption)
                                  have q245 : x7_3 < (l0.length : Int) := of_decide_eq_true (by first | (with_reducible assumption) | assumption)
                                  obtain ⟨ad245, e245, hx245_0, hx245_1⟩ := at_T32 HR0.out x7_3 p245 q245
                                  obtain rfl : ad235 = ad245 := (by injection e245)
                                  replace p245 := eq_true p245
                                  replace q245 := eq_true q245
                                  go_wp2
                                  repeat (go_quiet (fail); try go_wp2)
                                  go_roundg k3
                                  case measure => have := HK1.out; have := HK2.out; have := HK3.out; omega
                                  case rel => exact ⟨(wrap64 (x7_3 + 1)), (by first | rfl | (simp; done) | (simp [*]; done)), H', ⟨by have := HK1.out; have := HK2.out; have := HK3.out; omega⟩, by repeat (first | exact Drawn0.refl _ | apply Drawn0.step)⟩
                          · rw [if_neg c15] at H
                            exact absurd H (by simp)
                        · rw [if_neg c14] at H
                          exact absurd H (by simp)
                      · rw [if_neg c13] at H
                        exact absurd H (by simp)
                    · rw [if_neg c12] at H
                      have c12b0 : decide (x7_3 < (l0.length : Int)) = false := decide_eq_false c12
                      clear c12
                      have H' := Aside0.mk H
                      clear H
                      go_wp2
                      repeat (go_quiet (fail); try go_wp2)
                      go_roundg k3
                      case measure => have := HK1.out; have := HK2.out; have := HK3.out; omega
                      case rel => exact ⟨(wrap64 (x6_2 + 1)), (by first | rfl | (simp; done) | (simp [*]; done)), H', ⟨by have := HK1.out; have := HK2.out; have := HK3.out; omega⟩, by repeat (first | exact Drawn0.refl _ | apply Drawn0.step)⟩
              · rw [if_neg c11] at H
                have c11b0 : decide (x6_2 < (l0.length : Int)) = false := decide_eq_false c11
                clear c11
                obtain rfl := Option.some.inj H
                go_wp2
                repeat (go_quiet (fail); try go_wp2)
                go_ret
                exact ⟨by first | rfl | (simp; done) | (simp [*]; done), by repeat (first | exact Drawn0.refl _ | apply Drawn0.step)⟩
  · rw [if_neg c3] at H
    have c3b0 : ((l0.length : Int) == (l1.length : Int)) = false := beq_eq_false_iff_ne.mpr c3
    have c3b1 : ((l0.length : Int) != (l1.length : Int)) = true := bne_iff_ne.mpr c3
    have c3b2 : (l0.length == l1.length) = false := by first | simpa using c3 | (simp at c3 ⊢; omega)
    obtain rfl := Option.some.inj H
    go_enter Try.func14, Try.ntmps14
    go_wp2
    repeat (go_quiet (fail); try go_wp2)
    go_ret
    exact ⟨by first | rfl | (simp; done) | (simp [*]; done), by repeat (first | exact Drawn0.refl _ | apply Drawn0.step)⟩

end Go.Proofs.Ytmhnccjdhhcjoaa.PAll

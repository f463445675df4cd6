/- Written by a program of this session: functions of the given program as plain Lean functions, the walks that show it, and the row of each law, for every input that its statement speaks of. -/
import Derived.Test.YtbdaaiagpknaoaaPUbx0
import Derived.Test.YtbdaaiagpknaoaaPUbx3
namespace Go.Proofs.Ytbdaaiagpknaoaa.PUb
open Go.RowKit Go.Proofs.YtbdaaiagpknaoaaW.PrintWords Go.Proofs.YtbdaaiagpknaoaaW.PrintLast Go.Proofs.YtbdaaiagpknaoaaW.PrintMore
attribute [local go_sem] max2_int min2_int max_two min_two max_three min_three max_four min_four   -- for this text's walks alone
set_option linter.unusedVariables false
set_option linter.unusedSimpArgs false

attribute [local go_sem high] eqA45
/-! ### variorumref09_Same: function 11 -/
def variorumref09_Same.l0 : Nat → List (S45) → List (S45) → Int → Option (Bool)
 | 0, _, _, _ => none
 | k + 1, x0, x1, x5 => if x5 < (x0.length : Int) then (if 0 ≤ x5 then (if x5 < (x1.length : Int) then (if (!(((rd_T45 x0 x5).f0) == ((rd_T45 x1 x5).f0)) || ((!(((rd_T45 x0 x5).f1.f0) == ((rd_T45 x1 x5).f1.f0)) || (!(((rd_T45 x0 x5).f1.f1) == ((rd_T45 x1 x5).f1.f1)) || (!(((rd_T45 x0 x5).f1.f2) == ((rd_T45 x1 x5).f1.f2)) || (!(((rd_T45 x0 x5).f1.f3) == ((rd_T45 x1 x5).f1.f3)))))) || (!(((rd_T45 x0 x5).f2) == ((rd_T45 x1 x5).f2)) || (!(((rd_T45 x0 x5).f3) == ((rd_T45 x1 x5).f3)) || (!(((rd_T45 x0 x5).f4) == ((rd_T45 x1 x5).f4)) || (!(((rd_T45 x0 x5).f5) == ((rd_T45 x1 x5).f5)))))))) = true then (some false) else (variorumref09_Same.l0 k x0 x1 (wrap64 (x5 + 1)))) else (none)) else (none)) else (some true)
def variorumref09_Same.f (k : Nat) (l0 : List (S45)) (l1 : List (S45)) : Option (Bool) := if (l0.length : Int) = (l1.length : Int) then (variorumref09_Same.l0 k l0 l1 0) else (some false)
theorem variorumref09_Same.mono_l : ∀ k, (∀ y0 y1 y2, LeO (variorumref09_Same.l0 k y0 y1 y2) (variorumref09_Same.l0 (k + 1) y0 y1 y2))
 | 0 => fun _ _ _ r h => by simp [variorumref09_Same.l0] at h
 | k + 1 => by
  have ih0 := variorumref09_Same.mono_l k
  ·intro y0 y1 y2
   unfold variorumref09_Same.l0
   repeat' first
   | (with_reducible exact ih0 _ _ _)
   | (with_reducible exact LeO.refl _)
   | (with_reducible exact LeO.none _)
   | (with_reducible refine LeO.ite ?_ ?_)
   | (with_reducible refine LeO.bind ?_ (fun _ => ?_))
   | exact ih0 _ _ _
   | exact LeO.none _
   | refine LeO.ite ?_ ?_
   | refine LeO.bind ?_ (fun _ => ?_)
theorem variorumref09_Same.mono : ∀ a0 a1 k, LeO (variorumref09_Same.f k a0 a1) (variorumref09_Same.f (k + 1) a0 a1) := by
 intro a0 a1 k
 have ih0 := variorumref09_Same.mono_l k
 unfold variorumref09_Same.f
 repeat' first
   | (with_reducible exact ih0 _ _ _)
   | (with_reducible exact LeO.refl _)
   | (with_reducible exact LeO.none _)
   | (with_reducible refine LeO.ite ?_ ?_)
   | (with_reducible refine LeO.bind ?_ (fun _ => ?_))
   | exact ih0 _ _ _
   | exact LeO.none _
   | refine LeO.ite ?_ ?_
   | refine LeO.bind ?_ (fun _ => ?_)
set_option maxHeartbeats 8000000 in
set_option maxRecDepth 100000 in
theorem variorumref09_Same.calls (k : Nat) (A0 : Option Addr) (c0 : Nat) (l0 : List (S45)) (A1 : Option Addr) (c1 : Nat) (l1 : List (S45)) (r : Bool) (w : World) (hr0 : Kd.C k45 w A0 l0.length l0) (hc0 : l0.length ≤ c0) (hr1 : Kd.C k45 w A1 l1.length l1) (hc1 : l1.length ≤ c1) (h : variorumref09_Same.f k l0 l1 = some r) :
  Calls Try.prog 11 #[.slice A0 l0.length c0, .slice A1 l1.length c1] w fun e w' => e = .returned (.bool r) ∧ Drawn0 w w' := by
 have hu45 := Try.underlying45
 have HR0 := Aside0.mk hr0
 have HC0 := Aside0.mk hc0
 clear hr0 hc0
 have HR1 := Aside0.mk hr1
 have HC1 := Aside0.mk hc1
 clear hr1 hc1
 have H : (if (l0.length : Int) = (l1.length : Int) then (variorumref09_Same.l0 k l0 l1 0) else (some false)) = some r := h
 clear h
 by_cases c3 : (l0.length : Int) = (l1.length : Int)
 ·rw [if_pos c3] at H
  have c3b0 : ((l0.length : Int) == (l1.length : Int)) = true := beq_iff_eq.mpr c3
  have c3b1 : ((l0.length : Int) != (l1.length : Int)) = false := bne_eq_false_iff_eq.mpr c3
  have c3b2 : (l0.length == l1.length) = true := by first | simpa using c3 | (simp at c3 ⊢; omega)
  clear c3
  have H' := Aside0.mk H
  clear H
  go_enter Try.func11, Try.ntmps11
  go_wp2
  repeat (go_quiet (fail); try go_wp2)
  go_loopg [5] k (fun kq v5 w' => ∃ (x5_1 : Int), v5 = .int .i64 x5_1 ∧ Aside0 (variorumref09_Same.l0 kq l0 l1 x5_1 = some r) ∧ Aside0 (kq ≤ k) ∧ Drawn0 w w')
  case atStart => exact ⟨(0), (by first | rfl | (simp; done) | (simp [*]; done)), H', ⟨Nat.le_refl _⟩, by repeat (first | exact Drawn0.refl _ | apply Drawn0.step)⟩
  case round =>
   clear H'
   try clear c1
   try clear p2
   try clear c3
   try clear c3b0
   try clear c3b1
   try clear c3b2
   obtain ⟨x5_1, rfl, HA, HK1, ⟨m1, rfl⟩⟩ := hrel
   cases gk with
   | zero => exact absurd HA.out (by simp [variorumref09_Same.l0])
   | succ k1 =>
    have H := HA.out
    clear HA
    simp only [variorumref09_Same.l0] at H
    by_cases c4 : x5_1 < (l0.length : Int)
    ·rw [if_pos c4] at H
     have c4b0 : decide (x5_1 < (l0.length : Int)) = true := decide_eq_true c4
     clear c4
     by_cases c5 : 0 ≤ x5_1
     ·rw [if_pos c5] at H
      have c5b0 : decide (0 ≤ x5_1) = true := decide_eq_true c5
      clear c5
      by_cases c6 : x5_1 < (l1.length : Int)
      ·rw [if_pos c6] at H
       have c6b0 : decide (x5_1 < (l1.length : Int)) = true := decide_eq_true c6
       clear c6
       by_cases c7 : (!(((rd_T45 l0 x5_1).f0) == ((rd_T45 l1 x5_1).f0)) || ((!(((rd_T45 l0 x5_1).f1.f0) == ((rd_T45 l1 x5_1).f1.f0)) || (!(((rd_T45 l0 x5_1).f1.f1) == ((rd_T45 l1 x5_1).f1.f1)) || (!(((rd_T45 l0 x5_1).f1.f2) == ((rd_T45 l1 x5_1).f1.f2)) || (!(((rd_T45 l0 x5_1).f1.f3) == ((rd_T45 l1 x5_1).f1.f3)))))) || (!(((rd_T45 l0 x5_1).f2) == ((rd_T45 l1 x5_1).f2)) || (!(((rd_T45 l0 x5_1).f3) == ((rd_T45 l1 x5_1).f3)) || (!(((rd_T45 l0 x5_1).f4) == ((rd_T45 l1 x5_1).f4)) || (!(((rd_T45 l0 x5_1).f5) == ((rd_T45 l1 x5_1).f5)))))))) = true
       ·rw [if_pos c7] at H
        have c7b0 : (!(((rd_T45 l0 x5_1).f0) == ((rd_T45 l1 x5_1).f0)) || ((!(((rd_T45 l0 x5_1).f1.f0) == ((rd_T45 l1 x5_1).f1.f0)) || (!(((rd_T45 l0 x5_1).f1.f1) == ((rd_T45 l1 x5_1).f1.f1)) || (!(((rd_T45 l0 x5_1).f1.f2) == ((rd_T45 l1 x5_1).f1.f2)) || (!(((rd_T45 l0 x5_1).f1.f3) == ((rd_T45 l1 x5_1).f1.f3)))))) || (!(((rd_T45 l0 x5_1).f2) == ((rd_T45 l1 x5_1).f2)) || (!(((rd_T45 l0 x5_1).f3) == ((rd_T45 l1 x5_1).f3)) || (!(((rd_T45 l0 x5_1).f4) == ((rd_T45 l1 x5_1).f4)) || (!(((rd_T45 l0 x5_1).f5) == ((rd_T45 l1 x5_1).f5)))))))) = true := c7
        clear c7
        obtain rfl := Option.some.inj H
        have p213 : 0 ≤ (x5_1 : Int) := of_decide_eq_true (by first | (with_reducible assumption) | assumption)
        have q213 : x5_1 < (l0.length : Int) := of_decide_eq_true (by first | (with_reducible assumption) | assumption)
        obtain ⟨ad213, e213, hx213_0, hx213_1, hx213_2, hx213_3, hx213_4, hx213_5, hx213_6, hx213_7, hx213_8⟩ := at_T45 HR0.out x5_1 p213 q213
        cases e213
        replace p213 := eq_true p213
        replace q213 := eq_true q213
        have p214 : 0 ≤ (x5_1 : Int) := of_decide_eq_true (by first | (with_reducible assumption) | assumption)
        have q214 : x5_1 < (l1.length : Int) := of_decide_eq_true (by first | (with_reducible assumption) | assumption)
        obtain ⟨ad214, e214, hx214_0, hx214_1, hx214_2, hx214_3, hx214_4, hx214_5, hx214_6, hx214_7, hx214_8⟩ := at_T45 HR1.out x5_1 p214 q214
        cases e214
        replace p214 := eq_true p214
        replace q214 := eq_true q214
        go_wp2
        repeat (go_quiet (fail); try go_wp2)
        go_ret
        exact ⟨by first | rfl | (simp; done) | (simp [*]; done), by repeat (first | exact Drawn0.refl _ | apply Drawn0.step)⟩
       ·rw [if_neg c7] at H
        have c7b0 : (!(((rd_T45 l0 x5_1).f0) == ((rd_T45 l1 x5_1).f0)) || ((!(((rd_T45 l0 x5_1).f1.f0) == ((rd_T45 l1 x5_1).f1.f0)) || (!(((rd_T45 l0 x5_1).f1.f1) == ((rd_T45 l1 x5_1).f1.f1)) || (!(((rd_T45 l0 x5_1).f1.f2) == ((rd_T45 l1 x5_1).f1.f2)) || (!(((rd_T45 l0 x5_1).f1.f3) == ((rd_T45 l1 x5_1).f1.f3)))))) || (!(((rd_T45 l0 x5_1).f2) == ((rd_T45 l1 x5_1).f2)) || (!(((rd_T45 l0 x5_1).f3) == ((rd_T45 l1 x5_1).f3)) || (!(((rd_T45 l0 x5_1).f4) == ((rd_T45 l1 x5_1).f4)) || (!(((rd_T45 l0 x5_1).f5) == ((rd_T45 l1 x5_1).f5)))))))) = false := by simpa using c7
        clear c7
        have H' := Aside0.mk H
        clear H
        have p213 : 0 ≤ (x5_1 : Int) := of_decide_eq_true (by first | (with_reducible assumption) | assumption)
        have q213 : x5_1 < (l0.length : Int) := of_decide_eq_true (by first | (with_reducible assumption) | assumption)
        obtain ⟨ad213, e213, hx213_0, hx213_1, hx213_2, hx213_3, hx213_4, hx213_5, hx213_6, hx213_7, hx213_8⟩ := at_T45 HR0.out x5_1 p213 q213
        cases e213
        replace p213 := eq_true p213
        replace q213 := eq_true q213
        have p214 : 0 ≤ (x5_1 : Int) := of_decide_eq_true (by first | (with_reducible assumption) | assumption)
        have q214 : x5_1 < (l1.length : Int) := of_decide_eq_true (by first | (with_reducible assumption) | assumption)
        obtain ⟨ad214, e214, hx214_0, hx214_1, hx214_2, hx214_3, hx214_4, hx214_5, hx214_6, hx214_7, hx214_8⟩ := at_T45 HR1.out x5_1 p214 q214
        cases e214
        replace p214 := eq_true p214
        replace q214 := eq_true q214
        go_wp2
        repeat (go_quiet (fail); try go_wp2)
        go_roundg k1
        case measure => have := HK1.out; omega
        case rel => exact ⟨(wrap64 (x5_1 + 1)), (by first | rfl | (simp; done) | (simp [*]; done)), H', ⟨by have := HK1.out; omega⟩, by repeat (first | exact Drawn0.refl _ | apply Drawn0.step)⟩
      ·rw [if_neg c6] at H
       exact absurd H (by simp)
     ·rw [if_neg c5] at H
      exact absurd H (by simp)
    ·rw [if_neg c4] at H
     have c4b0 : decide (x5_1 < (l0.length : Int)) = false := decide_eq_false c4
     clear c4
     obtain rfl := Option.some.inj H
     go_wp2
     repeat (go_quiet (fail); try go_wp2)
     go_ret
     exact ⟨by first | rfl | (simp; done) | (simp [*]; done), by repeat (first | exact Drawn0.refl _ | apply Drawn0.step)⟩
 ·rw [if_neg c3] at H
  have c3b0 : ((l0.length : Int) == (l1.length : Int)) = false := beq_eq_false_iff_ne.mpr c3
  have c3b1 : ((l0.length : Int) != (l1.length : Int)) = true := bne_iff_ne.mpr c3
  have c3b2 : (l0.length == l1.length) = false := by first | simpa using c3 | (simp at c3 ⊢; omega)
  obtain rfl := Option.some.inj H
  go_enter Try.func11, Try.ntmps11
  go_wp2
  repeat (go_quiet (fail); try go_wp2)
  go_ret
  exact ⟨by first | rfl | (simp; done) | (simp [*]; done), by repeat (first | exact Drawn0.refl _ | apply Drawn0.step)⟩

/-! ### item_Boxes: function 14 -/
def item_Boxes.l0 : Nat → List (S45) → List (S45) → Int → Int → Option ((List (S45)))
 | 0, _, _, _, _ => none
 | k + 1, x3, x6, x7, x8 => if x8 < x7 then (if 0 ≤ x8 then (if x8 < (x6.length : Int) then (if ((rd_T45 x6 x8).f0) = 0 then (if x3.length < 1954687338268 then (item_Boxes.l0 k (x3 ++ [(⟨(rd_T45 x6 x8).f0, (⟨(rd_T45 x6 x8).f1.f0, (rd_T45 x6 x8).f1.f1, (rd_T45 x6 x8).f1.f2, (rd_T45 x6 x8).f1.f3⟩ : S23), (rd_T45 x6 x8).f2, (rd_T45 x6 x8).f3, (rd_T45 x6 x8).f4, (rd_T45 x6 x8).f5⟩ : S45)]) x6 x7 (wrap64 (x8 + 1))) else (none)) else (item_Boxes.l0 k x3 x6 x7 (wrap64 (x8 + 1)))) else (none)) else (none)) else (some x3)
def item_Boxes.f (k : Nat) (l0 : List (S45)) : Option ((List (S45))) := item_Boxes.l0 k ([] : List (S45)) l0 (l0.length : Int) 0
theorem item_Boxes.mono_l : ∀ k, (∀ y0 y1 y2 y3, LeO (item_Boxes.l0 k y0 y1 y2 y3) (item_Boxes.l0 (k + 1) y0 y1 y2 y3))
 | 0 => fun _ _ _ _ r h => by simp [item_Boxes.l0] at h
 | k + 1 => by
  have ih0 := item_Boxes.mono_l k
  ·intro y0 y1 y2 y3
   unfold item_Boxes.l0
   repeat' first
   | (with_reducible exact ih0 _ _ _ _)
   | (with_reducible exact LeO.refl _)
   | (with_reducible exact LeO.none _)
   | (with_reducible refine LeO.ite ?_ ?_)
   | (with_reducible refine LeO.bind ?_ (fun _ => ?_))
   | exact ih0 _ _ _ _
   | exact LeO.none _
   | refine LeO.ite ?_ ?_
   | refine LeO.bind ?_ (fun _ => ?_)
theorem item_Boxes.mono : ∀ a0 k, LeO (item_Boxes.f k a0) (item_Boxes.f (k + 1) a0) := by
 intro a0 k
 have ih0 := item_Boxes.mono_l k
 unfold item_Boxes.f
 repeat' first
   | (with_reducible exact ih0 _ _ _ _)
   | (with_reducible exact LeO.refl _)
   | (with_reducible exact LeO.none _)
   | (with_reducible refine LeO.ite ?_ ?_)
   | (with_reducible refine LeO.bind ?_ (fun _ => ?_))
   | exact ih0 _ _ _ _
   | exact LeO.none _
   | refine LeO.ite ?_ ?_
   | refine LeO.bind ?_ (fun _ => ?_)
set_option maxHeartbeats 8000000 in
set_option maxRecDepth 100000 in
theorem item_Boxes.calls (k : Nat) (A0 : Option Addr) (c0 : Nat) (l0 : List (S45)) (r : List (S45)) (w : World) (hr0 : Kd.C k45 w A0 l0.length l0) (hc0 : l0.length ≤ c0) (h : item_Boxes.f k l0 = some r) :
  Calls Try.prog 14 #[.slice A0 l0.length c0] w fun e w' => ∃ v0_ : Value, e = .returned (v0_) ∧ Kd.R k45 45 w' w.heap.size (fun _ => True) v0_ r ∧ Below w.heap.size w w' := by
 have hu45 := Try.underlying45
 have HR0 := Aside0.mk hr0
 have HC0 := Aside0.mk hc0
 clear hr0 hc0
 have HB := Aside0.mk (Below.refl w.heap.size w)
 have H : (item_Boxes.l0 k ([] : List (S45)) l0 (l0.length : Int) 0) = some r := h
 clear h
 have H' := Aside0.mk H
 clear H
 go_enter Try.func14, Try.ntmps14
 go_wp2
 go_loopg [3, 8] k (fun kq v3 v8 w' => ∃ (x3_1 : List (S45)) (x8_1 : Int), v8 = .int .i64 x8_1 ∧ Aside0 (item_Boxes.l0 kq x3_1 l0 (l0.length : Int) x8_1 = some r) ∧ Aside0 (kq ≤ k) ∧ Aside0 (Kd.R k45 45 w' w.heap.size (fun _ => True) v3 x3_1) ∧ Aside0 (Below w.heap.size w w'))
 case atStart => exact ⟨(([] : List (S45))), (0), (by first | rfl | (simp; done) | (simp [*]; done)), H', ⟨Nat.le_refl _⟩, ⟨by first | exact Kd.R_nil _ _ _ _ _ | exact Kd.N_nil _ _ _ _ _ | exact Kd.V_nil _ _ _ _ _ | exact Kd.Q_nil _ _ _ _ _ | exact Kd.S_nil _ _ _ _ _⟩, ⟨by repeat (first | (with_reducible first | exact HB.out | apply below_alloc | apply pw_below_drewN | apply below_drew1) | exact HB.out)⟩⟩
 case round =>
  clear H'
  try clear c1
  obtain ⟨x3_1, x8_1, rfl, HA, HK1, HO_3, HB⟩ := hrel
  cases gk with
  | zero => exact absurd HA.out (by simp [item_Boxes.l0])
  | succ k1 =>
   have H := HA.out
   clear HA
   simp only [item_Boxes.l0] at H
   by_cases c2 : x8_1 < (l0.length : Int)
   ·rw [if_pos c2] at H
    have c2b0 : decide (x8_1 < (l0.length : Int)) = true := decide_eq_true c2
    clear c2
    by_cases c3 : 0 ≤ x8_1
    ·rw [if_pos c3] at H
     have c3b0 : decide (0 ≤ x8_1) = true := decide_eq_true c3
     clear c3
     by_cases c4 : x8_1 < (l0.length : Int)
     ·rw [if_pos c4] at H
      have c4b0 : decide (x8_1 < (l0.length : Int)) = true := decide_eq_true c4
      clear c4
      by_cases c5 : ((rd_T45 l0 x8_1).f0) = 0
      ·rw [if_pos c5] at H
       have c5b0 : (((rd_T45 l0 x8_1).f0) == 0) = true := beq_iff_eq.mpr c5
       have c5b1 : (((rd_T45 l0 x8_1).f0) != 0) = false := bne_eq_false_iff_eq.mpr c5
       clear c5
       by_cases c6 : x3_1.length < 1954687338268
       ·rw [if_pos c6] at H
        have LMc6 := Aside0.mk c6
        clear c6
        obtain ⟨y217, hy217⟩ : ∃ y_ : List (S45), y_ = (x3_1 ++ [(⟨(rd_T45 l0 x8_1).f0, (⟨(rd_T45 l0 x8_1).f1.f0, (rd_T45 l0 x8_1).f1.f1, (rd_T45 l0 x8_1).f1.f2, (rd_T45 l0 x8_1).f1.f3⟩ : S23), (rd_T45 l0 x8_1).f2, (rd_T45 l0 x8_1).f3, (rd_T45 l0 x8_1).f4, (rd_T45 l0 x8_1).f5⟩ : S45)]) := ⟨_, rfl⟩
        replace H : (item_Boxes.l0 k1 y217 l0 (l0.length : Int) (wrap64 (x8_1 + 1))) = some r := by first | (rw [hy217]; with_reducible exact H) | (have H2_ := (Option.bind_some _ _).symm.trans H; rw [hy217]; with_reducible exact H2_) | (have H2_ := (Option.bind_some _ _).symm.trans H; with_reducible exact H2_) | with_reducible exact H | (rw [hy217]; exact H) | exact H
        have Ny217 := Aside0.mk hy217
        clear hy217
        have H' := Aside0.mk H
        clear H
        have p215 : 0 ≤ (x8_1 : Int) := of_decide_eq_true (by first | (with_reducible assumption) | assumption)
        have q215 : x8_1 < (l0.length : Int) := of_decide_eq_true (by first | (with_reducible assumption) | assumption)
        obtain ⟨ad215, e215, hx215_0, hx215_1, hx215_2, hx215_3, hx215_4, hx215_5, hx215_6, hx215_7, hx215_8⟩ := at_T45 HR0.out x8_1 p215 q215
        cases e215
        replace hx215_0 := (HB.out.cell (World.block_lt_of_cell? w _ hx215_0)).trans hx215_0
        replace hx215_1 := (HB.out.cell (World.block_lt_of_cell? w _ hx215_1)).trans hx215_1
        replace hx215_2 := (HB.out.cell (World.block_lt_of_cell? w _ hx215_2)).trans hx215_2
        replace hx215_3 := (HB.out.cell (World.block_lt_of_cell? w _ hx215_3)).trans hx215_3
        replace hx215_4 := (HB.out.cell (World.block_lt_of_cell? w _ hx215_4)).trans hx215_4
        replace hx215_5 := (HB.out.cell (World.block_lt_of_cell? w _ hx215_5)).trans hx215_5
        replace hx215_6 := (HB.out.cell (World.block_lt_of_cell? w _ hx215_6)).trans hx215_6
        replace hx215_7 := (HB.out.cell (World.block_lt_of_cell? w _ hx215_7)).trans hx215_7
        replace hx215_8 := (HB.out.cell (World.block_lt_of_cell? w _ hx215_8)).trans hx215_8
        replace p215 := eq_true p215
        replace q215 := eq_true q215
        go_wp2_with (first | ((with_reducible refine gate_dst (N := 5) rfl ?_); refine box_event ?hg (N := 5) ?hd (cs := #[.int .i64 0, .int .i64 0, .int .i64 0, .int .i64 0, .int .i64 0, .int .i64 0, .bool false, .int .i64 0, .int .i64 0]) (t := 45) ?hr ?_; (case hd => rfl); (case hg => rfl); (case hr => first | (go_simp; done) | (go_simp; rfl)); intro gb216 hg w7 hbox hb; have n0_ := Aside0.mk (Kd.R_below (Kd.R_elderB (by (with_reducible repeat (first | apply Kd.R_alloc | apply Kd.R_drewN | apply Kd.R_drew)); exact HO_3.out) gb216 (Nat.le_of_eq hg.symm)) hb); have n1_ := Aside0.mk (below_step (by repeat (first | (with_reducible first | exact HB.out | apply below_alloc | apply pw_below_drewN | apply below_drew1) | exact HB.out)) hb); have n2_ := Aside0.mk (hbox); have n3_ := Aside0.mk ((by rw [hg]; exact (below_size (by repeat (first | (with_reducible first | exact HB.out | apply below_alloc | apply pw_below_drewN | apply below_drew1) | exact HB.out))) : w.heap.size ≤ gb216)); have n4_ := Aside0.mk ((by rw [hg]; exact (below_size (by repeat (first | (with_reducible first | exact HB.out | apply below_alloc | apply pw_below_drewN | apply below_drew1) | exact HB.out))) : w.heap.size ≤ gb216)); clear HO_3; clear HB; have HO_3 := n0_; have HB := n1_; have BK216 := n2_; have GW216 := n3_; have GE216 := n4_; clear n0_ n1_ n2_ n3_ n4_; clear hb hbox hg; have hcz8_0 : w7.cell? ⟨gb216, 0, none⟩ = some (.int .i64 0) := (blk_cell BK216.out 0).trans rfl; have hcz8_1 : w7.cell? ⟨gb216, 1, none⟩ = some (.int .i64 0) := (blk_cell BK216.out 1).trans rfl; have hcz8_2 : w7.cell? ⟨gb216, 2, none⟩ = some (.int .i64 0) := (blk_cell BK216.out 2).trans rfl; have hcz8_3 : w7.cell? ⟨gb216, 3, none⟩ = some (.int .i64 0) := (blk_cell BK216.out 3).trans rfl; have hcz8_4 : w7.cell? ⟨gb216, 4, none⟩ = some (.int .i64 0) := (blk_cell BK216.out 4).trans rfl; have hcz8_5 : w7.cell? ⟨gb216, 5, none⟩ = some (.int .i64 0) := (blk_cell BK216.out 5).trans rfl; have hcz8_6 : w7.cell? ⟨gb216, 6, none⟩ = some (.bool false) := (blk_cell BK216.out 6).trans rfl; have hcz8_7 : w7.cell? ⟨gb216, 7, none⟩ = some (.int .i64 0) := (blk_cell BK216.out 7).trans rfl; have hcz8_8 : w7.cell? ⟨gb216, 8, none⟩ = some (.int .i64 0) := (blk_cell BK216.out 8).trans rfl; have hfz8_0 := blk_frozen BK216.out 0; have hfz8_1 := blk_frozen BK216.out 1; have hfz8_2 := blk_frozen BK216.out 2; have hfz8_3 := blk_frozen BK216.out 3; have hfz8_4 := blk_frozen BK216.out 4; have hfz8_5 := blk_frozen BK216.out 5; have hfz8_6 := blk_frozen BK216.out 6; have hfz8_7 := blk_frozen BK216.out 7; have hfz8_8 := blk_frozen BK216.out 8) | ((with_reducible refine gate_builtin (b := .append) (xs := #[.tmp 15, .tmp 17]) rfl ?_); at_builtin; refine Kd.R_append k45 (w0 := w) w.heap.size rfl (.tmp 15) (.tmp 17) 30 45 (.agg #[(.int .i64 0), (.int .i64 0), (.int .i64 0), (.int .i64 0), (.int .i64 0), (.int .i64 0), (.bool false), (.int .i64 0), (.int .i64 0)]) 72 rfl Try.underlying30 info45 rfl (by decide) (by omega) u3 x3_1 (⟨(rd_T45 l0 x8_1).f0, (⟨(rd_T45 l0 x8_1).f1.f0, (rd_T45 l0 x8_1).f1.f1, (rd_T45 l0 x8_1).f1.f2, (rd_T45 l0 x8_1).f1.f3⟩ : S23), (rd_T45 l0 x8_1).f2, (rd_T45 l0 x8_1).f3, (rd_T45 l0 x8_1).f4, (rd_T45 l0 x8_1).f5⟩ : S45) [.int .i64 ((rd_T45 l0 x8_1).f0), .int .i64 ((rd_T45 l0 x8_1).f1.f0), .int .i64 ((rd_T45 l0 x8_1).f1.f1), .int .i64 ((rd_T45 l0 x8_1).f1.f2), .int .i64 ((rd_T45 l0 x8_1).f1.f3), .int .i64 ((rd_T45 l0 x8_1).f2), .bool ((rd_T45 l0 x8_1).f3), .int .i64 ((rd_T45 l0 x8_1).f4), .int .i64 ((rd_T45 l0 x8_1).f5)] (fun k_ => k_ ≠ gb216) (fun _ => False) rfl (by first | (go_simp; done) | (go_simp; rfl)) ?aP (fun _ hk => hk.elim) ?aF ?aO ?aB ?aS ?aL ?_; (case aP => exact k45_mkM _ _ _ (⟨(rd_T45 l0 x8_1).f0, (⟨(rd_T45 l0 x8_1).f1.f0, (rd_T45 l0 x8_1).f1.f1, (rd_T45 l0 x8_1).f1.f2, (rd_T45 l0 x8_1).f1.f3⟩ : S23), (rd_T45 l0 x8_1).f2, (rd_T45 l0 x8_1).f3, (rd_T45 l0 x8_1).f4, (rd_T45 l0 x8_1).f5⟩ : S45)); (case aB => exact (by repeat (first | (with_reducible first | exact HB.out | apply below_alloc | apply pw_below_drewN | apply below_drew1 | refine below_set ?_ GE216.out) | exact HB.out))); (case aF => exact (fun k_ hk => Kd.freshB (g := gb216) (o := .cells #[.int .i64 ((rd_T45 l0 x8_1).f0), .int .i64 ((rd_T45 l0 x8_1).f1.f0), .int .i64 ((rd_T45 l0 x8_1).f1.f1), .int .i64 ((rd_T45 l0 x8_1).f1.f2), .int .i64 ((rd_T45 l0 x8_1).f1.f3), .int .i64 ((rd_T45 l0 x8_1).f2), .bool ((rd_T45 l0 x8_1).f3), .int .i64 ((rd_T45 l0 x8_1).f4), .int .i64 ((rd_T45 l0 x8_1).f5)] 45 (0, 0)) (by (with_reducible repeat (first | refine blk_drewN ?_ _ | refine blk_drew ?_ | refine blk_alloc ?_ _)); refine blk_put (cs := #[.int .i64 ((rd_T45 l0 x8_1).f0), .int .i64 ((rd_T45 l0 x8_1).f1.f0), .int .i64 ((rd_T45 l0 x8_1).f1.f1), .int .i64 ((rd_T45 l0 x8_1).f1.f2), .int .i64 ((rd_T45 l0 x8_1).f1.f3), .int .i64 ((rd_T45 l0 x8_1).f2), .bool ((rd_T45 l0 x8_1).f3), .int .i64 ((rd_T45 l0 x8_1).f4), .int .i64 0]) ?_ 8 _ rfl; (with_reducible repeat (first | refine blk_drewN ?_ _ | refine blk_drew ?_ | refine blk_alloc ?_ _)); refine blk_put (cs := #[.int .i64 ((rd_T45 l0 x8_1).f0), .int .i64 ((rd_T45 l0 x8_1).f1.f0), .int .i64 ((rd_T45 l0 x8_1).f1.f1), .int .i64 ((rd_T45 l0 x8_1).f1.f2), .int .i64 ((rd_T45 l0 x8_1).f1.f3), .int .i64 ((rd_T45 l0 x8_1).f2), .bool ((rd_T45 l0 x8_1).f3), .int .i64 0, .int .i64 0]) ?_ 7 _ rfl; (with_reducible repeat (first | refine blk_drewN ?_ _ | refine blk_drew ?_ | refine blk_alloc ?_ _)); refine blk_put (cs := #[.int .i64 ((rd_T45 l0 x8_1).f0), .int .i64 ((rd_T45 l0 x8_1).f1.f0), .int .i64 ((rd_T45 l0 x8_1).f1.f1), .int .i64 ((rd_T45 l0 x8_1).f1.f2), .int .i64 ((rd_T45 l0 x8_1).f1.f3), .int .i64 ((rd_T45 l0 x8_1).f2), .bool false, .int .i64 0, .int .i64 0]) ?_ 6 _ rfl; (with_reducible repeat (first | refine blk_drewN ?_ _ | refine blk_drew ?_ | refine blk_alloc ?_ _)); refine blk_put (cs := #[.int .i64 ((rd_T45 l0 x8_1).f0), .int .i64 ((rd_T45 l0 x8_1).f1.f0), .int .i64 ((rd_T45 l0 x8_1).f1.f1), .int .i64 ((rd_T45 l0 x8_1).f1.f2), .int .i64 ((rd_T45 l0 x8_1).f1.f3), .int .i64 0, .bool false, .int .i64 0, .int .i64 0]) ?_ 5 _ rfl; (with_reducible repeat (first | refine blk_drewN ?_ _ | refine blk_drew ?_ | refine blk_alloc ?_ _)); refine blk_put (cs := #[.int .i64 ((rd_T45 l0 x8_1).f0), .int .i64 ((rd_T45 l0 x8_1).f1.f0), .int .i64 ((rd_T45 l0 x8_1).f1.f1), .int .i64 ((rd_T45 l0 x8_1).f1.f2), .int .i64 0, .int .i64 0, .bool false, .int .i64 0, .int .i64 0]) ?_ 4 _ rfl; (with_reducible repeat (first | refine blk_drewN ?_ _ | refine blk_drew ?_ | refine blk_alloc ?_ _)); refine blk_put (cs := #[.int .i64 ((rd_T45 l0 x8_1).f0), .int .i64 ((rd_T45 l0 x8_1).f1.f0), .int .i64 ((rd_T45 l0 x8_1).f1.f1), .int .i64 0, .int .i64 0, .int .i64 0, .bool false, .int .i64 0, .int .i64 0]) ?_ 3 _ rfl; (with_reducible repeat (first | refine blk_drewN ?_ _ | refine blk_drew ?_ | refine blk_alloc ?_ _)); refine blk_put (cs := #[.int .i64 ((rd_T45 l0 x8_1).f0), .int .i64 ((rd_T45 l0 x8_1).f1.f0), .int .i64 0, .int .i64 0, .int .i64 0, .int .i64 0, .bool false, .int .i64 0, .int .i64 0]) ?_ 2 _ rfl; (with_reducible repeat (first | refine blk_drewN ?_ _ | refine blk_drew ?_ | refine blk_alloc ?_ _)); refine blk_put (cs := #[.int .i64 ((rd_T45 l0 x8_1).f0), .int .i64 0, .int .i64 0, .int .i64 0, .int .i64 0, .int .i64 0, .bool false, .int .i64 0, .int .i64 0]) ?_ 1 _ rfl; (with_reducible repeat (first | refine blk_drewN ?_ _ | refine blk_drew ?_ | refine blk_alloc ?_ _)); refine blk_put (cs := #[.int .i64 0, .int .i64 0, .int .i64 0, .int .i64 0, .int .i64 0, .int .i64 0, .bool false, .int .i64 0, .int .i64 0]) ?_ 0 _ rfl; (with_reducible repeat (first | refine blk_drewN ?_ _ | refine blk_drew ?_ | refine blk_alloc ?_ _)); exact BK216.out) k_ hk)); (case aO => exact (by (with_reducible repeat (first | apply Kd.R_alloc | apply Kd.R_drewN | apply Kd.R_drew)); exact Kd.R_mono (Kd.R_far (p := ⟨gb216, 8, none⟩) (Kd.R_far (p := ⟨gb216, 7, none⟩) (Kd.R_far (p := ⟨gb216, 6, none⟩) (Kd.R_far (p := ⟨gb216, 5, none⟩) (Kd.R_far (p := ⟨gb216, 4, none⟩) (Kd.R_far (p := ⟨gb216, 3, none⟩) (Kd.R_far (p := ⟨gb216, 2, none⟩) (Kd.R_far (p := ⟨gb216, 1, none⟩) (Kd.R_far (p := ⟨gb216, 0, none⟩) (Kd.R_mono HO_3.out (fun k_ hk => (⟨hk, hk.2⟩ : _ ∧ k_ ≠ gb216))) (fun _ hk => hk.2) (.int .i64 ((rd_T45 l0 x8_1).f0))) (fun _ hk => hk.2) (.int .i64 ((rd_T45 l0 x8_1).f1.f0))) (fun _ hk => hk.2) (.int .i64 ((rd_T45 l0 x8_1).f1.f1))) (fun _ hk => hk.2) (.int .i64 ((rd_T45 l0 x8_1).f1.f2))) (fun _ hk => hk.2) (.int .i64 ((rd_T45 l0 x8_1).f1.f3))) (fun _ hk => hk.2) (.int .i64 ((rd_T45 l0 x8_1).f2))) (fun _ hk => hk.2) (.bool ((rd_T45 l0 x8_1).f3))) (fun _ hk => hk.2) (.int .i64 ((rd_T45 l0 x8_1).f4))) (fun _ hk => hk.2) (.int .i64 ((rd_T45 l0 x8_1).f5))) (fun _ hk => hk.1.2))); (case aS => exact (below_size (by repeat (first | (with_reducible first | exact HB.out | apply below_alloc | apply pw_below_drewN | apply below_drew1 | refine below_set ?_ GE216.out) | exact HB.out)))); (case aL => have := LMc6.out; omega); intro v218 w9 ho hb hg hat; rw [← Ny217.out] at ho; have n0_ := Aside0.mk (blk_grown (g := gb216) (o := .cells #[.int .i64 ((rd_T45 l0 x8_1).f0), .int .i64 ((rd_T45 l0 x8_1).f1.f0), .int .i64 ((rd_T45 l0 x8_1).f1.f1), .int .i64 ((rd_T45 l0 x8_1).f1.f2), .int .i64 ((rd_T45 l0 x8_1).f1.f3), .int .i64 ((rd_T45 l0 x8_1).f2), .bool ((rd_T45 l0 x8_1).f3), .int .i64 ((rd_T45 l0 x8_1).f4), .int .i64 ((rd_T45 l0 x8_1).f5)] 45 (0, 0)) (by (with_reducible repeat (first | refine blk_drewN ?_ _ | refine blk_drew ?_ | refine blk_alloc ?_ _)); refine blk_put (cs := #[.int .i64 ((rd_T45 l0 x8_1).f0), .int .i64 ((rd_T45 l0 x8_1).f1.f0), .int .i64 ((rd_T45 l0 x8_1).f1.f1), .int .i64 ((rd_T45 l0 x8_1).f1.f2), .int .i64 ((rd_T45 l0 x8_1).f1.f3), .int .i64 ((rd_T45 l0 x8_1).f2), .bool ((rd_T45 l0 x8_1).f3), .int .i64 ((rd_T45 l0 x8_1).f4), .int .i64 0]) ?_ 8 _ rfl; (with_reducible repeat (first | refine blk_drewN ?_ _ | refine blk_drew ?_ | refine blk_alloc ?_ _)); refine blk_put (cs := #[.int .i64 ((rd_T45 l0 x8_1).f0), .int .i64 ((rd_T45 l0 x8_1).f1.f0), .int .i64 ((rd_T45 l0 x8_1).f1.f1), .int .i64 ((rd_T45 l0 x8_1).f1.f2), .int .i64 ((rd_T45 l0 x8_1).f1.f3), .int .i64 ((rd_T45 l0 x8_1).f2), .bool ((rd_T45 l0 x8_1).f3), .int .i64 0, .int .i64 0]) ?_ 7 _ rfl; (with_reducible repeat (first | refine blk_drewN ?_ _ | refine blk_drew ?_ | refine blk_alloc ?_ _)); refine blk_put (cs := #[.int .i64 ((rd_T45 l0 x8_1).f0), .int .i64 ((rd_T45 l0 x8_1).f1.f0), .int .i64 ((rd_T45 l0 x8_1).f1.f1), .int .i64 ((rd_T45 l0 x8_1).f1.f2), .int .i64 ((rd_T45 l0 x8_1).f1.f3), .int .i64 ((rd_T45 l0 x8_1).f2), .bool false, .int .i64 0, .int .i64 0]) ?_ 6 _ rfl; (with_reducible repeat (first | refine blk_drewN ?_ _ | refine blk_drew ?_ | refine blk_alloc ?_ _)); refine blk_put (cs := #[.int .i64 ((rd_T45 l0 x8_1).f0), .int .i64 ((rd_T45 l0 x8_1).f1.f0), .int .i64 ((rd_T45 l0 x8_1).f1.f1), .int .i64 ((rd_T45 l0 x8_1).f1.f2), .int .i64 ((rd_T45 l0 x8_1).f1.f3), .int .i64 0, .bool false, .int .i64 0, .int .i64 0]) ?_ 5 _ rfl; (with_reducible repeat (first | refine blk_drewN ?_ _ | refine blk_drew ?_ | refine blk_alloc ?_ _)); refine blk_put (cs := #[.int .i64 ((rd_T45 l0 x8_1).f0), .int .i64 ((rd_T45 l0 x8_1).f1.f0), .int .i64 ((rd_T45 l0 x8_1).f1.f1), .int .i64 ((rd_T45 l0 x8_1).f1.f2), .int .i64 0, .int .i64 0, .bool false, .int .i64 0, .int .i64 0]) ?_ 4 _ rfl; (with_reducible repeat (first | refine blk_drewN ?_ _ | refine blk_drew ?_ | refine blk_alloc ?_ _)); refine blk_put (cs := #[.int .i64 ((rd_T45 l0 x8_1).f0), .int .i64 ((rd_T45 l0 x8_1).f1.f0), .int .i64 ((rd_T45 l0 x8_1).f1.f1), .int .i64 0, .int .i64 0, .int .i64 0, .bool false, .int .i64 0, .int .i64 0]) ?_ 3 _ rfl; (with_reducible repeat (first | refine blk_drewN ?_ _ | refine blk_drew ?_ | refine blk_alloc ?_ _)); refine blk_put (cs := #[.int .i64 ((rd_T45 l0 x8_1).f0), .int .i64 ((rd_T45 l0 x8_1).f1.f0), .int .i64 0, .int .i64 0, .int .i64 0, .int .i64 0, .bool false, .int .i64 0, .int .i64 0]) ?_ 2 _ rfl; (with_reducible repeat (first | refine blk_drewN ?_ _ | refine blk_drew ?_ | refine blk_alloc ?_ _)); refine blk_put (cs := #[.int .i64 ((rd_T45 l0 x8_1).f0), .int .i64 0, .int .i64 0, .int .i64 0, .int .i64 0, .int .i64 0, .bool false, .int .i64 0, .int .i64 0]) ?_ 1 _ rfl; (with_reducible repeat (first | refine blk_drewN ?_ _ | refine blk_drew ?_ | refine blk_alloc ?_ _)); refine blk_put (cs := #[.int .i64 0, .int .i64 0, .int .i64 0, .int .i64 0, .int .i64 0, .int .i64 0, .bool false, .int .i64 0, .int .i64 0]) ?_ 0 _ rfl; (with_reducible repeat (first | refine blk_drewN ?_ _ | refine blk_drew ?_ | refine blk_alloc ?_ _)); exact BK216.out) hg (Kd.R_away HO_3.out (fun _ hk => hk.2))); have n1_ := Aside0.mk (hb); have n2_ := Aside0.mk (ho); clear BK216; clear HB; clear HO_3; have BK216 := n0_; have HB := n1_; have HO219 := n2_; clear n0_ n1_ n2_; clear ho hb hg hat))
        go_roundg k1
        case measure => have := HK1.out; omega
        case rel => exact ⟨(y217), (wrap64 (x8_1 + 1)), (by first | rfl | (simp; done) | (simp [*]; done)), H', ⟨by have := HK1.out; omega⟩, ⟨by (with_reducible repeat (first | apply Kd.R_alloc | apply Kd.R_drewN | apply Kd.R_drew)); exact Kd.R_mono HO219.out (fun _ hk => trivial)⟩, ⟨by repeat (first | (with_reducible first | exact HB.out | apply below_alloc | apply pw_below_drewN | apply below_drew1 | refine below_set ?_ GE216.out) | exact HB.out)⟩⟩
       ·rw [if_neg c6] at H
        exact absurd H (by simp)
      ·rw [if_neg c5] at H
       have c5b0 : (((rd_T45 l0 x8_1).f0) == 0) = false := beq_eq_false_iff_ne.mpr c5
       have c5b1 : (((rd_T45 l0 x8_1).f0) != 0) = true := bne_iff_ne.mpr c5
       have H' := Aside0.mk H
       clear H
       have p215 : 0 ≤ (x8_1 : Int) := of_decide_eq_true (by first | (with_reducible assumption) | assumption)
       have q215 : x8_1 < (l0.length : Int) := of_decide_eq_true (by first | (with_reducible assumption) | assumption)
       obtain ⟨ad215, e215, hx215_0, hx215_1, hx215_2, hx215_3, hx215_4, hx215_5, hx215_6, hx215_7, hx215_8⟩ := at_T45 HR0.out x8_1 p215 q215
       cases e215
       replace hx215_0 := (HB.out.cell (World.block_lt_of_cell? w _ hx215_0)).trans hx215_0
       replace hx215_1 := (HB.out.cell (World.block_lt_of_cell? w _ hx215_1)).trans hx215_1
       replace hx215_2 := (HB.out.cell (World.block_lt_of_cell? w _ hx215_2)).trans hx215_2
       replace hx215_3 := (HB.out.cell (World.block_lt_of_cell? w _ hx215_3)).trans hx215_3
       replace hx215_4 := (HB.out.cell (World.block_lt_of_cell? w _ hx215_4)).trans hx215_4
       replace hx215_5 := (HB.out.cell (World.block_lt_of_cell? w _ hx215_5)).trans hx215_5
       replace hx215_6 := (HB.out.cell (World.block_lt_of_cell? w _ hx215_6)).trans hx215_6
       replace hx215_7 := (HB.out.cell (World.block_lt_of_cell? w _ hx215_7)).trans hx215_7
       replace hx215_8 := (HB.out.cell (World.block_lt_of_cell? w _ hx215_8)).trans hx215_8
       replace p215 := eq_true p215
       replace q215 := eq_true q215
       go_wp2_with (first | ((with_reducible refine gate_dst (N := 5) rfl ?_); refine box_event ?hg (N := 5) ?hd (cs := #[.int .i64 0, .int .i64 0, .int .i64 0, .int .i64 0, .int .i64 0, .int .i64 0, .bool false, .int .i64 0, .int .i64 0]) (t := 45) ?hr ?_; (case hd => rfl); (case hg => rfl); (case hr => first | (go_simp; done) | (go_simp; rfl)); intro gb216 hg w10 hbox hb; have n0_ := Aside0.mk (Kd.R_below (Kd.R_elderB (by (with_reducible repeat (first | apply Kd.R_alloc | apply Kd.R_drewN | apply Kd.R_drew)); exact HO_3.out) gb216 (Nat.le_of_eq hg.symm)) hb); have n1_ := Aside0.mk (below_step (by repeat (first | (with_reducible first | exact HB.out | apply below_alloc | apply pw_below_drewN | apply below_drew1) | exact HB.out)) hb); have n2_ := Aside0.mk (hbox); have n3_ := Aside0.mk ((by rw [hg]; exact (below_size (by repeat (first | (with_reducible first | exact HB.out | apply below_alloc | apply pw_below_drewN | apply below_drew1) | exact HB.out))) : w.heap.size ≤ gb216)); have n4_ := Aside0.mk ((by rw [hg]; exact (below_size (by repeat (first | (with_reducible first | exact HB.out | apply below_alloc | apply pw_below_drewN | apply below_drew1) | exact HB.out))) : w.heap.size ≤ gb216)); clear HO_3; clear HB; have HO_3 := n0_; have HB := n1_; have BK216 := n2_; have GW216 := n3_; have GE216 := n4_; clear n0_ n1_ n2_ n3_ n4_; clear hb hbox hg; have hcz11_0 : w10.cell? ⟨gb216, 0, none⟩ = some (.int .i64 0) := (blk_cell BK216.out 0).trans rfl; have hcz11_1 : w10.cell? ⟨gb216, 1, none⟩ = some (.int .i64 0) := (blk_cell BK216.out 1).trans rfl; have hcz11_2 : w10.cell? ⟨gb216, 2, none⟩ = some (.int .i64 0) := (blk_cell BK216.out 2).trans rfl; have hcz11_3 : w10.cell? ⟨gb216, 3, none⟩ = some (.int .i64 0) := (blk_cell BK216.out 3).trans rfl; have hcz11_4 : w10.cell? ⟨gb216, 4, none⟩ = some (.int .i64 0) := (blk_cell BK216.out 4).trans rfl; have hcz11_5 : w10.cell? ⟨gb216, 5, none⟩ = some (.int .i64 0) := (blk_cell BK216.out 5).trans rfl; have hcz11_6 : w10.cell? ⟨gb216, 6, none⟩ = some (.bool false) := (blk_cell BK216.out 6).trans rfl; have hcz11_7 : w10.cell? ⟨gb216, 7, none⟩ = some (.int .i64 0) := (blk_cell BK216.out 7).trans rfl; have hcz11_8 : w10.cell? ⟨gb216, 8, none⟩ = some (.int .i64 0) := (blk_cell BK216.out 8).trans rfl; have hfz11_0 := blk_frozen BK216.out 0; have hfz11_1 := blk_frozen BK216.out 1; have hfz11_2 := blk_frozen BK216.out 2; have hfz11_3 := blk_frozen BK216.out 3; have hfz11_4 := blk_frozen BK216.out 4; have hfz11_5 := blk_frozen BK216.out 5; have hfz11_6 := blk_frozen BK216.out 6; have hfz11_7 := blk_frozen BK216.out 7; have hfz11_8 := blk_frozen BK216.out 8))
       go_roundg k1
       case measure => have := HK1.out; omega
       case rel => exact ⟨(x3_1), (wrap64 (x8_1 + 1)), (by first | rfl | (simp; done) | (simp [*]; done)), H', ⟨by have := HK1.out; omega⟩, ⟨by (with_reducible repeat (first | apply Kd.R_alloc | apply Kd.R_drewN | apply Kd.R_drew)); exact Kd.R_mono (Kd.R_far (p := ⟨gb216, 8, none⟩) (Kd.R_far (p := ⟨gb216, 7, none⟩) (Kd.R_far (p := ⟨gb216, 6, none⟩) (Kd.R_far (p := ⟨gb216, 5, none⟩) (Kd.R_far (p := ⟨gb216, 4, none⟩) (Kd.R_far (p := ⟨gb216, 3, none⟩) (Kd.R_far (p := ⟨gb216, 2, none⟩) (Kd.R_far (p := ⟨gb216, 1, none⟩) (Kd.R_far (p := ⟨gb216, 0, none⟩) (Kd.R_mono HO_3.out (fun k_ hk => (⟨hk, hk.2⟩ : _ ∧ k_ ≠ gb216))) (fun _ hk => hk.2) (.int .i64 ((rd_T45 l0 x8_1).f0))) (fun _ hk => hk.2) (.int .i64 ((rd_T45 l0 x8_1).f1.f0))) (fun _ hk => hk.2) (.int .i64 ((rd_T45 l0 x8_1).f1.f1))) (fun _ hk => hk.2) (.int .i64 ((rd_T45 l0 x8_1).f1.f2))) (fun _ hk => hk.2) (.int .i64 ((rd_T45 l0 x8_1).f1.f3))) (fun _ hk => hk.2) (.int .i64 ((rd_T45 l0 x8_1).f2))) (fun _ hk => hk.2) (.bool ((rd_T45 l0 x8_1).f3))) (fun _ hk => hk.2) (.int .i64 ((rd_T45 l0 x8_1).f4))) (fun _ hk => hk.2) (.int .i64 ((rd_T45 l0 x8_1).f5))) (fun _ hk => trivial)⟩, ⟨by repeat (first | (with_reducible first | exact HB.out | apply below_alloc | apply pw_below_drewN | apply below_drew1 | refine below_set ?_ GE216.out) | exact HB.out)⟩⟩
     ·rw [if_neg c4] at H
      exact absurd H (by simp)
    ·rw [if_neg c3] at H
     exact absurd H (by simp)
   ·rw [if_neg c2] at H
    have c2b0 : decide (x8_1 < (l0.length : Int)) = false := decide_eq_false c2
    clear c2
    obtain rfl := Option.some.inj H
    go_wp2
    go_ret
    exact ⟨_, by first | rfl | (simp [errW_none, errW_some] <;> rfl) | (simp [*, errW_none, errW_some] <;> rfl), by (with_reducible repeat (first | apply Kd.R_alloc | apply Kd.R_drewN | apply Kd.R_drew)); exact HO_3.out, by repeat (first | (with_reducible first | exact HB.out | apply below_alloc | apply pw_below_drewN | apply below_drew1) | exact HB.out)⟩

/-! ### variorumlaw09_one: function 20 -/
def variorumlaw09_one.f (a0 : Int) : Option ((List (S47))) := some (([(⟨(⟨#[97]⟩ : ByteArray), a0, 0, 0⟩ : S47)] : List (S47)))
set_option maxHeartbeats 8000000 in
set_option maxRecDepth 100000 in
theorem variorumlaw09_one.calls (a0 : Int) (r : List (S47)) (w : World) (h : variorumlaw09_one.f a0 = some r) :
  Calls Try.prog 20 #[.int .i64 a0] w fun e w' => ∃ v0_ : Value, e = .returned (v0_) ∧ Kd.R k47 47 w' w.heap.size (fun _ => True) v0_ r ∧ Below w.heap.size w w' := by
 have hu47 := Try.underlying47
 have HB := Aside0.mk (Below.refl w.heap.size w)
 have H : (some (([(⟨(⟨#[97]⟩ : ByteArray), a0, 0, 0⟩ : S47)] : List (S47)))) = some r := h
 clear h
 obtain ⟨y220, hy220⟩ : ∃ y_ : List (S47), y_ = (([(⟨(⟨#[97]⟩ : ByteArray), a0, 0, 0⟩ : S47)] : List (S47))) := ⟨_, rfl⟩
 replace H : (some y220) = some r := by first | (rw [hy220]; with_reducible exact H) | (have H2_ := (Option.bind_some _ _).symm.trans H; rw [hy220]; with_reducible exact H2_) | (have H2_ := (Option.bind_some _ _).symm.trans H; with_reducible exact H2_) | with_reducible exact H | (rw [hy220]; exact H) | exact H
 have Ny220 := Aside0.mk hy220
 clear hy220
 obtain rfl := Option.some.inj H
 go_enter Try.func20, Try.ntmps20
 go_wp2_with (first | ((with_reducible refine gate_dst (N := 5) rfl ?_); refine Kd.R_lit k47 _ 47 ?hg (N := 5) ?hd (xs := ([(⟨(⟨#[97]⟩ : ByteArray), a0, 0, 0⟩ : S47)] : List (S47))) (inner := [.string (⟨#[97]⟩ : ByteArray), .int .i64 a0, .int .i64 0, .int .i64 0]) (ok := fun _ => True) (okp := fun _ => True) ?hr ?hp (fun _ hk => hk) trivial (Below.refl _ _) (Nat.le_refl _) (by simp) ?_; (case hd => rfl); (case hg => rfl); (case hr => first | (go_simp; done) | (go_simp; rfl)); (case hp => exact (Reps.c4 (show Kd.M k47 _ _ _ (⟨(⟨#[97]⟩ : ByteArray), a0, 0, 0⟩ : S47) [.string (⟨#[97]⟩ : ByteArray), .int .i64 a0, .int .i64 0, .int .i64 0] from (k47_mkM _ _ _ (⟨(⟨#[97]⟩ : ByteArray), a0, 0, 0⟩ : S47) )) (Reps.none _ _))); intro v221 w2 ho3 hb hg_ hnew_; clear hg_ hnew_; (first | rw [← Ny220.out] at ho3 | (simp only [Int.reduceToNat] at ho3; rw [← Ny220.out] at ho3)); have n0_ := Aside0.mk (Kd.R_lower ho3 (below_size (by repeat (first | (with_reducible first | exact HB.out | apply below_alloc | apply pw_below_drewN | apply below_drew1) | exact HB.out)))); have n1_ := Aside0.mk (below_step (by repeat (first | (with_reducible first | exact HB.out | apply below_alloc | apply pw_below_drewN | apply below_drew1) | exact HB.out)) hb); clear HB; have HO222 := n0_; have HB := n1_; clear n0_ n1_; clear hb ho3))
 go_ret
 exact ⟨_, by first | rfl | (simp [errW_none, errW_some] <;> rfl) | (simp [*, errW_none, errW_some] <;> rfl), by (with_reducible repeat (first | apply Kd.R_alloc | apply Kd.R_drewN | apply Kd.R_drew)); exact HO222.out, by repeat (first | (with_reducible first | exact HB.out | apply below_alloc | apply pw_below_drewN | apply below_drew1) | exact HB.out)⟩

end Go.Proofs.Ytbdaaiagpknaoaa.PUb

/- Written by a program of this session: functions of the given program as plain Lean functions, the walks that show it, and the row of each law, for every input that its statement speaks of. -/
import Derived.Test.YtnkdopihaohimaaPBrx0
import Derived.Test.YtnkdopihaohimaaPBrx8
import Derived.Test.YtnkdopihaohimaaPBrx9
import Derived.Test.YtnkdopihaohimaaPBrx12
import Derived.Test.YtnkdopihaohimaaPBrx17
namespace Go.Proofs.Ytnkdopihaohimaa.PBr
open Go.RowKit Go.Proofs.YtnkdopihaohimaaW.PrintWords Go.Proofs.YtnkdopihaohimaaW.PrintLast Go.Proofs.YtnkdopihaohimaaW.PrintMore
attribute [local go_sem] max2_int min2_int max_two min_two max_three min_three max_four min_four   -- for this text's walks alone
set_option linter.unusedVariables false
set_option linter.unusedSimpArgs false

/-! ### variorumref11_Many: function 17 -/
def variorumref11_Many.l0 : Nat → List (S47) → Int → Int → Option (Int)
 | 0, _, _, _ => none
 | k + 1, x0, x3, x4 => if x4 < (x0.length : Int) then ((variorumref10_Legal.f k x0 x4).bind fun t360 => (if t360 = true then (variorumref11_Many.l0 k x0 (wrap64 (x3 + 1)) (wrap64 (x4 + 1))) else (variorumref11_Many.l0 k x0 x3 (wrap64 (x4 + 1))))) else (some x3)
def variorumref11_Many.f (k : Nat) (l0 : List (S47)) : Option (Int) := variorumref11_Many.l0 k l0 0 0
theorem variorumref11_Many.mono_l : ∀ k, (∀ y0 y1 y2, LeO (variorumref11_Many.l0 k y0 y1 y2) (variorumref11_Many.l0 (k + 1) y0 y1 y2))
 | 0 => fun _ _ _ r h => by simp [variorumref11_Many.l0] at h
 | k + 1 => by
  have ih0 := variorumref11_Many.mono_l k
  ·intro y0 y1 y2
   unfold variorumref11_Many.l0
   repeat' first | (with_reducible first | exact ih0 _ _ _ | exact variorumref10_Legal.mono _ _ _ | exact LeO.refl _ | exact LeO.none _ | refine LeO.ite ?_ ?_ | refine LeO.bind ?_ (fun _ => ?_)) | exact LeO.none _ | refine LeO.ite ?_ ?_ | refine LeO.bind ?_ (fun _ => ?_)
theorem variorumref11_Many.mono : ∀ a0 k, LeO (variorumref11_Many.f k a0) (variorumref11_Many.f (k + 1) a0) := by
 intro a0 k
 have ih0 := variorumref11_Many.mono_l k
 unfold variorumref11_Many.f
 repeat' first
   | (with_reducible exact ih0 _ _ _)
   | (with_reducible exact variorumref10_Legal.mono _ _ _)
   | (with_reducible exact LeO.refl _)
   | (with_reducible exact LeO.none _)
   | (with_reducible refine LeO.ite ?_ ?_)
   | (with_reducible refine LeO.bind ?_ (fun _ => ?_))
   | exact ih0 _ _ _
   | exact variorumref10_Legal.mono _ _ _
   | exact LeO.none _
   | refine LeO.ite ?_ ?_
   | refine LeO.bind ?_ (fun _ => ?_)
set_option maxHeartbeats 8000000 in
set_option maxRecDepth 100000 in
theorem variorumref11_Many.calls (k : Nat) (A0 : Option Addr) (c0 : Nat) (l0 : List (S47)) (r : Int) (w : World) (hr0 : Kd.C k47 w A0 l0.length l0) (hc0 : l0.length ≤ c0) (h : variorumref11_Many.f k l0 = some r) :
  Calls Try.prog 17 #[.slice A0 l0.length c0] w fun e w' => e = .returned (.int .i64 r) ∧ Drawn0 w w' := by
 have HR0 := a_ hr0
 have HC0 := a_ hc0
 clear hr0 hc0
 have H : (variorumref11_Many.l0 k l0 0 0) = some r := h
 clear h
 have H' := a_ H
 clear H
 go_enter Try.func17, Try.ntmps17
 go_wp2
 go_loopg [3, 4] k (fun kq v3 v4 w' => ∃ (x3_1 : Int) (x4_1 : Int), v3 = .int .i64 x3_1 ∧ v4 = .int .i64 x4_1 ∧ Aside0 (variorumref11_Many.l0 kq l0 x3_1 x4_1 = some r) ∧ Aside0 (kq ≤ k) ∧ Drawn0 w w')
 case atStart => exact ⟨(0), (0), (by first | rfl | (simp; done) | (simp [*]; done)), (by first | rfl | (simp; done) | (simp [*]; done)), H', ⟨Nat.le_refl _⟩, by repeat (first | exact Drawn0.refl _ | apply Drawn0.step)⟩
 case round =>
  clear H'
  try clear c1
  obtain ⟨x3_1, x4_1, rfl, rfl, HA, HK1, ⟨m1, rfl⟩⟩ := hrel
  cases gk with
  | zero => exact absurd HA.out (by simp [variorumref11_Many.l0])
  | succ k1 =>
   have H := HA.out
   clear HA
   simp only [variorumref11_Many.l0] at H
   by_cases c2 : x4_1 < (l0.length : Int)
   ·rw [if_pos c2] at H
    have c2b0 : decide (x4_1 < (l0.length : Int)) = true := decide_eq_true c2
    clear c2
    replace H := Option.bind_eq_some_iff.mp H
    obtain ⟨t360, A30, H⟩ := H
    replace H : (if t360 = true then (variorumref11_Many.l0 k1 l0 (wrap64 (x3_1 + 1)) (wrap64 (x4_1 + 1))) else (variorumref11_Many.l0 k1 l0 x3_1 (wrap64 (x4_1 + 1)))) = some r := H
    have A3 := a_ A30
    clear A30
    by_cases c4 : t360 = true
    ·subst c4
     have H1 : (variorumref11_Many.l0 k1 l0 (wrap64 (x3_1 + 1)) (wrap64 (x4_1 + 1))) = some r := by rw [if_pos rfl] at H; exact H
     clear H
     have H := H1
     clear H1
     have H' := a_ H
     clear H
     go_wp2_with (first | ((with_reducible refine gate_callee (f := 21) rfl ?_); refine gl_ (some 13) Try.func21 (by kernel_rfl) #[.slice A0 l0.length c0, .int .i64 x4_1] ?_; (with_reducible refine (variorumref10_Legal.calls k1 _ _ l0 x4_1 true _ ?side1 ?side2 A3.out).mono ?_); (case side1 => repeat (first | exact HR0.out | (with_reducible refine Kd.C_alloc ?_ _) | (with_reducible refine Kd.C_drewN ?_ _) | (with_reducible refine Kd.C_drew ?_))); (case side2 => exact HC0.out); rintro e w' ⟨rfl, ⟨nd, rfl⟩⟩; refine ⟨_, rfl, ?_⟩))
     go_roundg k1
     case measure => have := HK1.out; omega
     case rel => exact ⟨(wrap64 (x3_1 + 1)), (wrap64 (x4_1 + 1)), (by first | rfl | (simp; done) | (simp [*]; done)), (by first | rfl | (simp; done) | (simp [*]; done)), H', ⟨by have := HK1.out; omega⟩, by repeat (first | exact Drawn0.refl _ | apply Drawn0.step)⟩
    ·replace c4 := Bool.eq_false_iff.mpr c4
     subst c4
     have H1 : (variorumref11_Many.l0 k1 l0 x3_1 (wrap64 (x4_1 + 1))) = some r := by rw [if_neg (show ¬ (false = true) by decide)] at H; exact H
     clear H
     have H := H1
     clear H1
     have H' := a_ H
     clear H
     go_wp2_with (first | ((with_reducible refine gate_callee (f := 21) rfl ?_); refine gl_ (some 13) Try.func21 (by kernel_rfl) #[.slice A0 l0.length c0, .int .i64 x4_1] ?_; (with_reducible refine (variorumref10_Legal.calls k1 _ _ l0 x4_1 false _ ?side1 ?side2 A3.out).mono ?_); (case side1 => repeat (first | exact HR0.out | (with_reducible refine Kd.C_alloc ?_ _) | (with_reducible refine Kd.C_drewN ?_ _) | (with_reducible refine Kd.C_drew ?_))); (case side2 => exact HC0.out); rintro e w' ⟨rfl, ⟨nd, rfl⟩⟩; refine ⟨_, rfl, ?_⟩))
     go_roundg k1
     case measure => have := HK1.out; omega
     case rel => exact ⟨(x3_1), (wrap64 (x4_1 + 1)), (by first | rfl | (simp; done) | (simp [*]; done)), (by first | rfl | (simp; done) | (simp [*]; done)), H', ⟨by have := HK1.out; omega⟩, by repeat (first | exact Drawn0.refl _ | apply Drawn0.step)⟩
   ·rw [if_neg c2] at H
    have c2b0 : decide (x4_1 < (l0.length : Int)) = false := decide_eq_false c2
    clear c2
    obtain rfl := Option.some.inj H
    go_wp2
    go_ret
    exact ⟨by first | rfl | (simp; done) | (simp [*]; done), by repeat (first | exact Drawn0.refl _ | apply Drawn0.step)⟩

/-! ### variorumlaw11_ahead: function 18 -/
mutual
def variorumlaw11_ahead.l0 : Nat → List Int → List Int → Int → Option (Bool)
 | 0, _, _, _ => none
 | k + 1, x0, x1, x5 => if x5 < (x0.length : Int) then (variorumlaw11_ahead.j1 k x0 x1 x5 (decide (x5 < (x1.length : Int)))) else (variorumlaw11_ahead.j1 k x0 x1 x5 false)
def variorumlaw11_ahead.j1 : Nat → List Int → List Int → Int → Bool → Option (Bool)
 | 0, _, _, _, _ => none
 | k + 1, x0, x1, x5, x15 => if x15 = true then (if 0 ≤ x5 then (if x5 < (x0.length : Int) then (if x5 < (x1.length : Int) then (if (rd x0 x5) = (rd x1 x5) then (variorumlaw11_ahead.l0 k x0 x1 (wrap64 (x5 + 1))) else (some (decide ((rd x0 x5) < (rd x1 x5))))) else (none)) else (none)) else (none)) else (some false)
end
def variorumlaw11_ahead.f (k : Nat) (l0 : List Int) (l1 : List Int) : Option (Bool) := variorumlaw11_ahead.l0 k l0 l1 0
theorem variorumlaw11_ahead.mono_l : ∀ k, (∀ y0 y1 y2, LeO (variorumlaw11_ahead.l0 k y0 y1 y2) (variorumlaw11_ahead.l0 (k + 1) y0 y1 y2)) ∧ (∀ y0 y1 y2 y3, LeO (variorumlaw11_ahead.j1 k y0 y1 y2 y3) (variorumlaw11_ahead.j1 (k + 1) y0 y1 y2 y3))
 | 0 => ⟨fun _ _ _ r h => by simp [variorumlaw11_ahead.l0] at h, fun _ _ _ _ r h => by simp [variorumlaw11_ahead.j1] at h⟩
 | k + 1 => by
  obtain ⟨ih0, ih1⟩ := variorumlaw11_ahead.mono_l k
  refine ⟨?_, ?_⟩
  ·intro y0 y1 y2
   unfold variorumlaw11_ahead.l0
   repeat' first | (with_reducible first | exact ih0 _ _ _ | exact ih1 _ _ _ _ | exact LeO.refl _ | exact LeO.none _ | refine LeO.ite ?_ ?_ | refine LeO.bind ?_ (fun _ => ?_)) | exact LeO.none _ | refine LeO.ite ?_ ?_ | refine LeO.bind ?_ (fun _ => ?_)
  ·intro y0 y1 y2 y3
   unfold variorumlaw11_ahead.j1
   repeat' first | (with_reducible first | exact ih0 _ _ _ | exact ih1 _ _ _ _ | exact LeO.refl _ | exact LeO.none _ | refine LeO.ite ?_ ?_ | refine LeO.bind ?_ (fun _ => ?_)) | exact LeO.none _ | refine LeO.ite ?_ ?_ | refine LeO.bind ?_ (fun _ => ?_)
theorem variorumlaw11_ahead.mono : ∀ a0 a1 k, LeO (variorumlaw11_ahead.f k a0 a1) (variorumlaw11_ahead.f (k + 1) a0 a1) := by
 intro a0 a1 k
 obtain ⟨ih0, ih1⟩ := variorumlaw11_ahead.mono_l k
 unfold variorumlaw11_ahead.f
 repeat' first
   | (with_reducible exact ih0 _ _ _)
   | (with_reducible exact ih1 _ _ _ _)
   | (with_reducible exact LeO.refl _)
   | (with_reducible exact LeO.none _)
   | (with_reducible refine LeO.ite ?_ ?_)
   | (with_reducible refine LeO.bind ?_ (fun _ => ?_))
   | exact ih0 _ _ _
   | exact ih1 _ _ _ _
   | exact LeO.none _
   | refine LeO.ite ?_ ?_
   | refine LeO.bind ?_ (fun _ => ?_)
set_option maxHeartbeats 8000000 in
set_option maxRecDepth 100000 in
theorem variorumlaw11_ahead.calls (k : Nat) (A0 : Option Addr) (c0 : Nat) (l0 : List Int) (A1 : Option Addr) (c1 : Nat) (l1 : List Int) (r : Bool) (w : World) (hr0 : Kd.C (Kd.int .i64) w A0 l0.length l0) (hc0 : l0.length ≤ c0) (hr1 : Kd.C (Kd.int .i64) w A1 l1.length l1) (hc1 : l1.length ≤ c1) (h : variorumlaw11_ahead.f k l0 l1 = some r) :
  Calls Try.prog 18 #[.slice A0 l0.length c0, .slice A1 l1.length c1] w fun e w' => e = .returned (.bool r) ∧ Drawn0 w w' := by
 have HR0 := a_ hr0
 have HC0 := a_ hc0
 clear hr0 hc0
 have HR1 := a_ hr1
 have HC1 := a_ hc1
 clear hr1 hc1
 have H : (variorumlaw11_ahead.l0 k l0 l1 0) = some r := h
 clear h
 have H' := a_ H
 clear H
 go_enter Try.func18, Try.ntmps18
 go_wp2
 repeat (go_quiet (fail); try go_wp2)
 go_loopg [5] k (fun kq v5 w' => ∃ (x5_1 : Int), v5 = .int .i64 x5_1 ∧ Aside0 (variorumlaw11_ahead.l0 kq l0 l1 x5_1 = some r) ∧ Aside0 (kq ≤ k) ∧ Drawn0 w w')
 case atStart => exact ⟨(0), (by first | rfl | (simp; done) | (simp [*]; done)), H', ⟨Nat.le_refl _⟩, by repeat (first | exact Drawn0.refl _ | apply Drawn0.step)⟩
 case round =>
  clear H'
  try clear c1
  try clear p2
  obtain ⟨x5_1, rfl, HA, HK1, ⟨m1, rfl⟩⟩ := hrel
  cases gk with
  | zero => exact absurd HA.out (by simp [variorumlaw11_ahead.l0])
  | succ k1 =>
   have H := HA.out
   clear HA
   simp only [variorumlaw11_ahead.l0] at H
   have HC3 := a_ H
   clear H
   go_upto_region 2 with (fail)
   repeat (go_quiet (fail); go_upto_region 2 with (fail))
   go_cut [15] (fun v15 wc => ∃ (kq : Nat) (x15_2 : Bool), v15 = .bool x15_2 ∧ Aside0 (variorumlaw11_ahead.j1 kq l0 l1 x5_1 x15_2 = some r) ∧ Aside0 (kq ≤ k1) ∧ Drawn0 w wc)
   case first =>
    have H := HC3.out
    clear HC3
    by_cases c4 : x5_1 < (l0.length : Int)
    ·rw [if_pos c4] at H
     have c4b0 : decide (x5_1 < (l0.length : Int)) = true := decide_eq_true c4
     clear c4
     (first | rw [c4b0] | (simp only [i64_w, i32_w]; rw [c4b0]) | skip)
     have H' := a_ H
     clear H
     go_wp2
     repeat (go_quiet (fail); try go_wp2)
     go_meet
     case rel => exact ⟨_, (decide (x5_1 < (l1.length : Int))), (by first | rfl | (simp; done) | (simp [*]; done)), H', ⟨by have := HK1.out; first | omega | exact Nat.le_refl _⟩, by repeat (first | exact Drawn0.refl _ | apply Drawn0.step)⟩
    ·rw [if_neg c4] at H
     have c4b0 : decide (x5_1 < (l0.length : Int)) = false := decide_eq_false c4
     clear c4
     (first | rw [c4b0] | (simp only [i64_w, i32_w]; rw [c4b0]) | skip)
     have H' := a_ H
     clear H
     go_wp2
     repeat (go_quiet (fail); try go_wp2)
     go_meet
     case rel => exact ⟨_, (false), (by first | rfl | (simp; done) | (simp [*]; done)), H', ⟨by have := HK1.out; first | omega | exact Nat.le_refl _⟩, by repeat (first | exact Drawn0.refl _ | apply Drawn0.step)⟩
   case rest =>
    clear HC3
    try clear c1
    try clear p2
    try clear c4
    try clear c4b0
    try clear p2
    obtain ⟨kq, x15_2, rfl, HA, HJ2, ⟨mc2, rfl⟩⟩ := hcut
    cases kq with
    | zero => exact absurd HA.out (by simp [variorumlaw11_ahead.j1])
    | succ kj2 =>
     have H := HA.out
     clear HA
     simp only [variorumlaw11_ahead.j1] at H
     by_cases c5 : x15_2 = true
     ·subst c5
      have H1 : (if 0 ≤ x5_1 then (if x5_1 < (l0.length : Int) then (if x5_1 < (l1.length : Int) then (if (rd l0 x5_1) = (rd l1 x5_1) then (variorumlaw11_ahead.l0 kj2 l0 l1 (wrap64 (x5_1 + 1))) else (some (decide ((rd l0 x5_1) < (rd l1 x5_1))))) else (none)) else (none)) else (none)) = some r := by rw [if_pos rfl] at H; exact H
      clear H
      have H := H1
      clear H1
      by_cases c6 : 0 ≤ x5_1
      ·rw [if_pos c6] at H
       have c6b0 : decide (0 ≤ x5_1) = true := decide_eq_true c6
       clear c6
       by_cases c7 : x5_1 < (l0.length : Int)
       ·rw [if_pos c7] at H
        have c7b0 : decide (x5_1 < (l0.length : Int)) = true := decide_eq_true c7
        clear c7
        by_cases c8 : x5_1 < (l1.length : Int)
        ·rw [if_pos c8] at H
         have c8b0 : decide (x5_1 < (l1.length : Int)) = true := decide_eq_true c8
         clear c8
         by_cases c9 : (rd l0 x5_1) = (rd l1 x5_1)
         ·rw [if_pos c9] at H
          have c9b0 : ((rd l0 x5_1) == (rd l1 x5_1)) = true := beq_iff_eq.mpr c9
          have c9b1 : ((rd l0 x5_1) != (rd l1 x5_1)) = false := bne_eq_false_iff_eq.mpr c9
          clear c9
          have H' := a_ H
          clear H
          have p361 : 0 ≤ (x5_1 : Int) := od_
          have q361 : x5_1 < (l0.length : Int) := od_
          obtain ⟨ad361, e361, hx361_0⟩ := Kd.at_int HR0.out x5_1 p361 q361
          cases e361
          replace p361 := eq_true p361
          replace q361 := eq_true q361
          have p362 : 0 ≤ (x5_1 : Int) := od_
          have q362 : x5_1 < (l1.length : Int) := od_
          obtain ⟨ad362, e362, hx362_0⟩ := Kd.at_int HR1.out x5_1 p362 q362
          cases e362
          replace p362 := eq_true p362
          replace q362 := eq_true q362
          go_wp2
          repeat (go_quiet (fail); try go_wp2)
          go_roundg kj2
          case measure => have := HK1.out; have := HJ2.out; omega
          case rel => exact ⟨(wrap64 (x5_1 + 1)), (by first | rfl | (simp; done) | (simp [*]; done)), H', ⟨by have := HK1.out; have := HJ2.out; omega⟩, by repeat (first | exact Drawn0.refl _ | apply Drawn0.step)⟩
         ·rw [if_neg c9] at H
          have c9b0 : ((rd l0 x5_1) == (rd l1 x5_1)) = false := beq_eq_false_iff_ne.mpr c9
          have c9b1 : ((rd l0 x5_1) != (rd l1 x5_1)) = true := bne_iff_ne.mpr c9
          obtain rfl := Option.some.inj H
          have p361 : 0 ≤ (x5_1 : Int) := od_
          have q361 : x5_1 < (l0.length : Int) := od_
          obtain ⟨ad361, e361, hx361_0⟩ := Kd.at_int HR0.out x5_1 p361 q361
          cases e361
          replace p361 := eq_true p361
          replace q361 := eq_true q361
          have p362 : 0 ≤ (x5_1 : Int) := od_
          have q362 : x5_1 < (l1.length : Int) := od_
          obtain ⟨ad362, e362, hx362_0⟩ := Kd.at_int HR1.out x5_1 p362 q362
          cases e362
          replace p362 := eq_true p362
          replace q362 := eq_true q362
          have p363 : 0 ≤ (x5_1 : Int) := od_
          have q363 : x5_1 < (l0.length : Int) := od_
          obtain ⟨ad363, e363, hx363_0⟩ := Kd.at_int HR0.out x5_1 p363 q363
          obtain rfl : ad361 = ad363 := (by injection e363)
          replace p363 := eq_true p363
          replace q363 := eq_true q363
          have p364 : 0 ≤ (x5_1 : Int) := od_
          have q364 : x5_1 < (l1.length : Int) := od_
          obtain ⟨ad364, e364, hx364_0⟩ := Kd.at_int HR1.out x5_1 p364 q364
          obtain rfl : ad362 = ad364 := (by injection e364)
          replace p364 := eq_true p364
          replace q364 := eq_true q364
          go_wp2
          repeat (go_quiet (fail); try go_wp2)
          go_ret
          exact ⟨by first | rfl | (simp; done) | (simp [*]; done), by repeat (first | exact Drawn0.refl _ | apply Drawn0.step)⟩
        ·rw [if_neg c8] at H
         exact absurd H (by simp)
       ·rw [if_neg c7] at H
        exact absurd H (by simp)
      ·rw [if_neg c6] at H
       exact absurd H (by simp)
     ·replace c5 := Bool.eq_false_iff.mpr c5
      subst c5
      have H1 : (some false) = some r := by rw [if_neg (show ¬ (false = true) by decide)] at H; exact H
      clear H
      have H := H1
      clear H1
      obtain rfl := Option.some.inj H
      go_wp2
      repeat (go_quiet (fail); try go_wp2)
      go_ret
      exact ⟨by first | rfl | (simp; done) | (simp [*]; done), by repeat (first | exact Drawn0.refl _ | apply Drawn0.step)⟩

/-! ### variorumlaw11_BreakerAll: function 5 -/
mutual
def variorumlaw11_BreakerAll.j0 : Nat → List (S47) → Int → Int → Int → Bool → Option (Bool)
 | 0, _, _, _, _, _ => none
 | k + 1, x0, x1, x2, x7, x33 => if x33 = true then ((variorumlaw11_fixed.f k).bind fun t368 => (some t368)) else ((breaker_Best.f k x0 x1 x2).bind fun bt369 => (variorumlaw11_BreakerAll.l0 k x0 x1 x2 x7 bt369.1 bt369.2.1 bt369.2.2 false 0))
def variorumlaw11_BreakerAll.l0 : Nat → List (S47) → Int → Int → Int → List Int → Int → Bool → Bool → Int → Option (Bool)
 | 0, _, _, _, _, _, _, _, _, _ => none
 | k + 1, x0, x1, x2, x7, x8, x9, x10, x11, x12 => if x12 < 1024 then (if x7 < 10 then (if 0 ≤ (IntKind.u64.wrap (x7)) then (variorumlaw11_BreakerAll.j2 k x0 x1 x2 x7 x8 x9 x10 x11 x12 (decide (x12 ≥ (shl .i64 1 (IntKind.u64.wrap (x7)))))) else (none)) else (variorumlaw11_BreakerAll.j2 k x0 x1 x2 x7 x8 x9 x10 x11 x12 false)) else (some (x10 == x11))
def variorumlaw11_BreakerAll.j2 : Nat → List (S47) → Int → Int → Int → List Int → Int → Bool → Bool → Int → Bool → Option (Bool)
 | 0, _, _, _, _, _, _, _, _, _, _ => none
 | k + 1, x0, x1, x2, x7, x8, x9, x10, x11, x12, x55 => if x55 = true then (some (x10 == x11)) else ((variorumref11_Choice.f k x0 x12).bind fun t374 => ((variorumref10_Total.f k x0 t374 x1 x2).bind fun bt377 => (if bt377.2 = true then (if x10 = true then (if bt377.1 < x9 then (none) else (if bt377.1 = x9 then ((variorumlaw11_ahead.f k t374 x8).bind fun t379 => (if t379 = true then (none) else (variorumlaw11_BreakerAll.l0 k x0 x1 x2 x7 x8 x9 x10 true (wrap64 (x12 + 1))))) else (variorumlaw11_BreakerAll.l0 k x0 x1 x2 x7 x8 x9 x10 true (wrap64 (x12 + 1))))) else (none)) else (variorumlaw11_BreakerAll.l0 k x0 x1 x2 x7 x8 x9 x10 x11 (wrap64 (x12 + 1))))))
end
def variorumlaw11_BreakerAll.f (k : Nat) (l0 : List (S47)) (a1 : Int) (a2 : Int) : Option (Bool) := (variorumref11_Many.f k l0).bind fun t365 => ((variorumlaw11_fixed.f k).bind fun t366 => (if t366 = true then (if t365 > 10 then (variorumlaw11_BreakerAll.j0 k l0 a1 a2 t365 true) else (if (l0.length : Int) > 60 then (variorumlaw11_BreakerAll.j0 k l0 a1 a2 t365 true) else ((variorumref09_May.f k l0).bind fun t367 => (variorumlaw11_BreakerAll.j0 k l0 a1 a2 t365 (!t367))))) else (variorumlaw11_BreakerAll.j0 k l0 a1 a2 t365 true)))
theorem variorumlaw11_BreakerAll.mono_l : ∀ k, (∀ y0 y1 y2 y3 y4, LeO (variorumlaw11_BreakerAll.j0 k y0 y1 y2 y3 y4) (variorumlaw11_BreakerAll.j0 (k + 1) y0 y1 y2 y3 y4)) ∧ (∀ y0 y1 y2 y3 y4 y5 y6 y7 y8, LeO (variorumlaw11_BreakerAll.l0 k y0 y1 y2 y3 y4 y5 y6 y7 y8) (variorumlaw11_BreakerAll.l0 (k + 1) y0 y1 y2 y3 y4 y5 y6 y7 y8)) ∧ (∀ y0 y1 y2 y3 y4 y5 y6 y7 y8 y9, LeO (variorumlaw11_BreakerAll.j2 k y0 y1 y2 y3 y4 y5 y6 y7 y8 y9) (variorumlaw11_BreakerAll.j2 (k + 1) y0 y1 y2 y3 y4 y5 y6 y7 y8 y9))
 | 0 => ⟨fun _ _ _ _ _ r h => by simp [variorumlaw11_BreakerAll.j0] at h, fun _ _ _ _ _ _ _ _ _ r h => by simp [variorumlaw11_BreakerAll.l0] at h, fun _ _ _ _ _ _ _ _ _ _ r h => by simp [variorumlaw11_BreakerAll.j2] at h⟩
 | k + 1 => by
  obtain ⟨ih0, ih1, ih2⟩ := variorumlaw11_BreakerAll.mono_l k
  refine ⟨?_, ?_, ?_⟩
  ·intro y0 y1 y2 y3 y4
   unfold variorumlaw11_BreakerAll.j0
   repeat' first | (with_reducible first | exact ih0 _ _ _ _ _ | exact ih1 _ _ _ _ _ _ _ _ _ | exact ih2 _ _ _ _ _ _ _ _ _ _ | exact breaker_Best.mono _ _ _ _ | exact variorumlaw11_ahead.mono _ _ _ | exact variorumlaw11_fixed.mono _ | exact variorumref09_May.mono _ _ | exact variorumref10_Total.mono _ _ _ _ _ | exact variorumref11_Choice.mono _ _ _ | exact variorumref11_Many.mono _ _ | exact LeO.refl _ | exact LeO.none _ | refine LeO.ite ?_ ?_ | refine LeO.bind ?_ (fun _ => ?_)) | exact LeO.none _ | refine LeO.ite ?_ ?_ | refine LeO.bind ?_ (fun _ => ?_)
  ·intro y0 y1 y2 y3 y4 y5 y6 y7 y8
   unfold variorumlaw11_BreakerAll.l0
   repeat' first | (with_reducible first | exact ih0 _ _ _ _ _ | exact ih1 _ _ _ _ _ _ _ _ _ | exact ih2 _ _ _ _ _ _ _ _ _ _ | exact breaker_Best.mono _ _ _ _ | exact variorumlaw11_ahead.mono _ _ _ | exact variorumlaw11_fixed.mono _ | exact variorumref09_May.mono _ _ | exact variorumref10_Total.mono _ _ _ _ _ | exact variorumref11_Choice.mono _ _ _ | exact variorumref11_Many.mono _ _ | exact LeO.refl _ | exact LeO.none _ | refine LeO.ite ?_ ?_ | refine LeO.bind ?_ (fun _ => ?_)) | exact LeO.none _ | refine LeO.ite ?_ ?_ | refine LeO.bind ?_ (fun _ => ?_)
  ·intro y0 y1 y2 y3 y4 y5 y6 y7 y8 y9
   unfold variorumlaw11_BreakerAll.j2
   repeat' first | (with_reducible first | exact ih0 _ _ _ _ _ | exact ih1 _ _ _ _ _ _ _ _ _ | exact ih2 _ _ _ _ _ _ _ _ _ _ | exact breaker_Best.mono _ _ _ _ | exact variorumlaw11_ahead.mono _ _ _ | exact variorumlaw11_fixed.mono _ | exact variorumref09_May.mono _ _ | exact variorumref10_Total.mono _ _ _ _ _ | exact variorumref11_Choice.mono _ _ _ | exact variorumref11_Many.mono _ _ | exact LeO.refl _ | exact LeO.none _ | refine LeO.ite ?_ ?_ | refine LeO.bind ?_ (fun _ => ?_)) | exact LeO.none _ | refine LeO.ite ?_ ?_ | refine LeO.bind ?_ (fun _ => ?_)
theorem variorumlaw11_BreakerAll.mono : ∀ a0 a1 a2 k, LeO (variorumlaw11_BreakerAll.f k a0 a1 a2) (variorumlaw11_BreakerAll.f (k + 1) a0 a1 a2) := by
 intro a0 a1 a2 k
 obtain ⟨ih0, ih1, ih2⟩ := variorumlaw11_BreakerAll.mono_l k
 unfold variorumlaw11_BreakerAll.f
 repeat' first
   | (with_reducible exact ih0 _ _ _ _ _)
   | (with_reducible exact ih1 _ _ _ _ _ _ _ _ _)
   | (with_reducible exact ih2 _ _ _ _ _ _ _ _ _ _)
   | (with_reducible exact breaker_Best.mono _ _ _ _)
   | (with_reducible exact variorumlaw11_ahead.mono _ _ _)
   | (with_reducible exact variorumlaw11_fixed.mono _)
   | (with_reducible exact variorumref09_May.mono _ _)
   | (with_reducible exact variorumref10_Total.mono _ _ _ _ _)
   | (with_reducible exact variorumref11_Choice.mono _ _ _)
   | (with_reducible exact variorumref11_Many.mono _ _)
   | (with_reducible exact LeO.refl _)
   | (with_reducible exact LeO.none _)
   | (with_reducible refine LeO.ite ?_ ?_)
   | (with_reducible refine LeO.bind ?_ (fun _ => ?_))
   | exact ih0 _ _ _ _ _
   | exact ih1 _ _ _ _ _ _ _ _ _
   | exact ih2 _ _ _ _ _ _ _ _ _ _
   | exact breaker_Best.mono _ _ _ _
   | exact variorumlaw11_ahead.mono _ _ _
   | exact variorumlaw11_fixed.mono _
   | exact variorumref09_May.mono _ _
   | exact variorumref10_Total.mono _ _ _ _ _
   | exact variorumref11_Choice.mono _ _ _
   | exact variorumref11_Many.mono _ _
   | exact LeO.none _
   | refine LeO.ite ?_ ?_
   | refine LeO.bind ?_ (fun _ => ?_)
set_option maxHeartbeats 8000000 in
set_option maxRecDepth 100000 in
theorem variorumlaw11_BreakerAll.calls (k : Nat) (A0 : Option Addr) (c0 : Nat) (l0 : List (S47)) (a1 : Int) (a2 : Int) (r : Bool) (w : World) (hr0 : Kd.C k47 w A0 l0.length l0) (hc0 : l0.length ≤ c0) (h : variorumlaw11_BreakerAll.f k l0 a1 a2 = some r) :
  Calls Try.prog 5 #[.slice A0 l0.length c0, .int .i64 a1, .int .i64 a2] w fun e w' => e = .returned (.bool r) ∧ Below w.heap.size w w' := by
 have HR0 := a_ hr0
 have HC0 := a_ hc0
 clear hr0 hc0
 have HB := a_ (Below.refl w.heap.size w)
 have H : ((variorumref11_Many.f k l0).bind fun t365 => ((variorumlaw11_fixed.f k).bind fun t366 => (if t366 = true then (if t365 > 10 then (variorumlaw11_BreakerAll.j0 k l0 a1 a2 t365 true) else (if (l0.length : Int) > 60 then (variorumlaw11_BreakerAll.j0 k l0 a1 a2 t365 true) else ((variorumref09_May.f k l0).bind fun t367 => (variorumlaw11_BreakerAll.j0 k l0 a1 a2 t365 (!t367))))) else (variorumlaw11_BreakerAll.j0 k l0 a1 a2 t365 true)))) = some r := h
 clear h
 replace H := Option.bind_eq_some_iff.mp H
 obtain ⟨t365, A40, H⟩ := H
 replace H : ((variorumlaw11_fixed.f k).bind fun t366 => (if t366 = true then (if t365 > 10 then (variorumlaw11_BreakerAll.j0 k l0 a1 a2 t365 true) else (if (l0.length : Int) > 60 then (variorumlaw11_BreakerAll.j0 k l0 a1 a2 t365 true) else ((variorumref09_May.f k l0).bind fun t367 => (variorumlaw11_BreakerAll.j0 k l0 a1 a2 t365 (!t367))))) else (variorumlaw11_BreakerAll.j0 k l0 a1 a2 t365 true))) = some r := H
 have A4 := a_ A40
 clear A40
 have HC5 := a_ H
 clear H
 go_enter Try.func5, Try.ntmps5
 go_upto_region 2 with (first | ((with_reducible refine gate_callee (f := 17) rfl ?_); refine gl_ (some 17) Try.func17 (by kernel_rfl) #[.slice A0 l0.length c0] ?_; (with_reducible refine (variorumref11_Many.calls k _ _ l0 t365 _ ?side1 ?side2 A4.out).mono ?_); (case side1 => repeat (first | exact HR0.out | (with_reducible refine Kd.C_alloc ?_ _) | (with_reducible refine Kd.C_drewN ?_ _) | (with_reducible refine Kd.C_drew ?_))); (case side2 => exact HC0.out); rintro e w' ⟨rfl, ⟨nd, rfl⟩⟩; refine ⟨_, rfl, ?_⟩))
 (try simp only [Act.put, List.setIfInBounds_toArray, List.set_cons_zero, List.set_cons_succ])
 go_cut [33] (fun v33 wc => ∃ (kq : Nat) (x33_4 : Bool), v33 = .bool x33_4 ∧ Aside0 (variorumlaw11_BreakerAll.j0 kq l0 a1 a2 t365 x33_4 = some r) ∧ Aside0 (kq ≤ k) ∧ Aside0 (Below w.heap.size w wc))
 case first =>
  have H := HC5.out
  clear HC5
  replace H := Option.bind_eq_some_iff.mp H
  obtain ⟨t366, A60, H⟩ := H
  replace H : (if t366 = true then (if t365 > 10 then (variorumlaw11_BreakerAll.j0 k l0 a1 a2 t365 true) else (if (l0.length : Int) > 60 then (variorumlaw11_BreakerAll.j0 k l0 a1 a2 t365 true) else ((variorumref09_May.f k l0).bind fun t367 => (variorumlaw11_BreakerAll.j0 k l0 a1 a2 t365 (!t367))))) else (variorumlaw11_BreakerAll.j0 k l0 a1 a2 t365 true)) = some r := H
  have A6 := a_ A60
  clear A60
  by_cases c7 : t366 = true
  ·subst c7
   have H1 : (if t365 > 10 then (variorumlaw11_BreakerAll.j0 k l0 a1 a2 t365 true) else (if (l0.length : Int) > 60 then (variorumlaw11_BreakerAll.j0 k l0 a1 a2 t365 true) else ((variorumref09_May.f k l0).bind fun t367 => (variorumlaw11_BreakerAll.j0 k l0 a1 a2 t365 (!t367))))) = some r := by rw [if_pos rfl] at H; exact H
   clear H
   have H := H1
   clear H1
   by_cases c8 : t365 > 10
   ·rw [if_pos c8] at H
    have c8b0 : decide (10 < t365) = true := decide_eq_true c8
    clear c8
    (first | rw [c8b0] | (simp only [i64_w, i32_w]; rw [c8b0]) | skip)
    have H' := a_ H
    clear H
    go_wp2_with (first | ((with_reducible refine gate_callee (f := 8) rfl ?_); refine gl_ (some 18) Try.func8 (by kernel_rfl) #[] ?_; (with_reducible refine (variorumlaw11_fixed.calls k  true _ A6.out).mono ?_); rintro e w9 ⟨rfl, hb⟩; refine ⟨_, rfl, ?_⟩; have n0_ := a_ (bs_ HB.out hb); clear HB; have HB := n0_; clear n0_; (try clear hb); (try clear hb2); (try clear hk); (try clear hi)))
    go_meet
    case rel => exact ⟨_, (true), (by first | rfl | (simp; done) | (simp [*]; done)), H', ⟨by first | omega | exact Nat.le_refl _⟩, ⟨bv_ HB.out⟩⟩
   ·rw [if_neg c8] at H
    have c8b0 : decide (10 < t365) = false := decide_eq_false c8
    clear c8
    (first | rw [c8b0] | (simp only [i64_w, i32_w]; rw [c8b0]) | skip)
    by_cases c10 : (l0.length : Int) > 60
    ·rw [if_pos c10] at H
     have c10b0 : decide (60 < (l0.length : Int)) = true := decide_eq_true c10
     have c10b1 : decide (60 < l0.length) = true := decide_eq_true (by omega)
     clear c10
     have H' := a_ H
     clear H
     go_wp2_with (first | ((with_reducible refine gate_callee (f := 8) rfl ?_); refine gl_ (some 18) Try.func8 (by kernel_rfl) #[] ?_; (with_reducible refine (variorumlaw11_fixed.calls k  true _ A6.out).mono ?_); rintro e w11 ⟨rfl, hb⟩; refine ⟨_, rfl, ?_⟩; have n0_ := a_ (bs_ HB.out hb); clear HB; have HB := n0_; clear n0_; (try clear hb); (try clear hb2); (try clear hk); (try clear hi)))
     go_meet
     case rel => exact ⟨_, (true), (by first | rfl | (simp; done) | (simp [*]; done)), H', ⟨by first | omega | exact Nat.le_refl _⟩, ⟨bv_ HB.out⟩⟩
    ·rw [if_neg c10] at H
     have c10b0 : decide (60 < (l0.length : Int)) = false := decide_eq_false c10
     have c10b1 : decide (60 < l0.length) = false := decide_eq_false (by omega)
     clear c10
     replace H := Option.bind_eq_some_iff.mp H
     obtain ⟨t367, A120, H⟩ := H
     replace H : (variorumlaw11_BreakerAll.j0 k l0 a1 a2 t365 (!t367)) = some r := H
     have A12 := a_ A120
     clear A120
     have H' := a_ H
     clear H
     go_wp2_with (first | ((with_reducible refine gate_callee (f := 8) rfl ?_); refine gl_ (some 18) Try.func8 (by kernel_rfl) #[] ?_; (with_reducible refine (variorumlaw11_fixed.calls k  true _ A6.out).mono ?_); rintro e w13 ⟨rfl, hb⟩; refine ⟨_, rfl, ?_⟩; have n0_ := a_ (bs_ HB.out hb); clear HB; have HB := n0_; clear n0_; (try clear hb); (try clear hb2); (try clear hk); (try clear hi)) | (go_at_call 14; (with_reducible refine (variorumref09_May.calls k _ _ l0 t367 _ ?side1 ?side2 A12.out).mono ?_); (case side1 => exact cw_ HR0.out HB.out); (case side2 => exact HC0.out); rintro e w14 ⟨rfl, hb⟩; have n0_ := a_ (bs_ HB.out hb); clear HB; have HB := n0_; clear n0_; (try clear hb); (try clear hb2); (try clear hk); (try clear hi)))
     go_meet
     case rel => exact ⟨_, (!t367), (by first | rfl | (simp; done) | (simp [*]; done)), H', ⟨by first | omega | exact Nat.le_refl _⟩, ⟨bv_ HB.out⟩⟩
  ·replace c7 := Bool.eq_false_iff.mpr c7
   subst c7
   have H1 : (variorumlaw11_BreakerAll.j0 k l0 a1 a2 t365 true) = some r := by rw [if_neg (show ¬ (false = true) by decide)] at H; exact H
   clear H
   have H := H1
   clear H1
   have H' := a_ H
   clear H
   go_wp2_with (first | ((with_reducible refine gate_callee (f := 8) rfl ?_); refine gl_ (some 18) Try.func8 (by kernel_rfl) #[] ?_; (with_reducible refine (variorumlaw11_fixed.calls k  false _ A6.out).mono ?_); rintro e w15 ⟨rfl, hb⟩; refine ⟨_, rfl, ?_⟩; have n0_ := a_ (bs_ HB.out hb); clear HB; have HB := n0_; clear n0_; (try clear hb); (try clear hb2); (try clear hk); (try clear hi)))
   go_meet
   case rel => exact ⟨_, (true), (by first | rfl | (simp; done) | (simp [*]; done)), H', ⟨by first | omega | exact Nat.le_refl _⟩, ⟨bv_ HB.out⟩⟩
 case rest =>
  clear HC5
  try clear c1
  try clear p2
  try clear c5
  try clear c7
  try clear c8
  try clear c8b0
  try clear c10
  try clear c10b0
  try clear c10b1
  obtain ⟨kq, x33_4, rfl, HA, HJ4, HB⟩ := hcut
  cases kq with
  | zero => exact absurd HA.out (by simp [variorumlaw11_BreakerAll.j0])
  | succ kj4 =>
   have H := HA.out
   clear HA
   simp only [variorumlaw11_BreakerAll.j0] at H
   by_cases c16 : x33_4 = true
   ·subst c16
    have H1 : ((variorumlaw11_fixed.f kj4).bind fun t368 => (some t368)) = some r := by rw [if_pos rfl] at H; exact H
    clear H
    have H := H1
    clear H1
    replace H := Option.bind_eq_some_iff.mp H
    obtain ⟨t368, A170, H⟩ := H
    replace H : (some t368) = some r := H
    have A17 := a_ A170
    clear A170
    obtain rfl := Option.some.inj H
    go_wp2_with (first | ((with_reducible refine gate_callee (f := 8) rfl ?_); refine gl_ (some 34) Try.func8 (by kernel_rfl) #[] ?_; (with_reducible refine (variorumlaw11_fixed.calls kj4  t368 _ A17.out).mono ?_); rintro e w18 ⟨rfl, hb⟩; refine ⟨_, rfl, ?_⟩; have n0_ := a_ (bs_ HB.out hb); clear HB; have HB := n0_; clear n0_; (try clear hb); (try clear hb2); (try clear hk); (try clear hi)))
    go_ret
    exact ⟨by first | rfl | (simp [errW_none, errW_some] <;> rfl) | (simp [*, errW_none, errW_some] <;> rfl), bv_ HB.out⟩
   ·replace c16 := Bool.eq_false_iff.mpr c16
    subst c16
    have H1 : ((breaker_Best.f kj4 l0 a1 a2).bind fun bt369 => (variorumlaw11_BreakerAll.l0 kj4 l0 a1 a2 t365 bt369.1 bt369.2.1 bt369.2.2 false 0)) = some r := by rw [if_neg (show ¬ (false = true) by decide)] at H; exact H
    clear H
    have H := H1
    clear H1
    replace H := Option.bind_eq_some_iff.mp H
    obtain ⟨⟨t369, t370, t371⟩, A190, H⟩ := H
    replace H : (variorumlaw11_BreakerAll.l0 kj4 l0 a1 a2 t365 t369 t370 t371 false 0) = some r := H
    have A19 := a_ A190
    clear A190
    have H' := a_ H
    clear H
    go_wp2_with (first | ((with_reducible refine gate_callee (f := 9) rfl ?_); refine gl_ (some 39) Try.func9 (by kernel_rfl) #[.slice A0 l0.length c0, .int .i64 a1, .int .i64 a2] ?_; (with_reducible refine (breaker_Best.calls kj4 _ _ l0 a1 a2 t369 t370 t371 _ ?side1 ?side2 A19.out).mono ?_); (case side1 => exact cw_ HR0.out HB.out); (case side2 => exact HC0.out); rintro e w20 ⟨v372, rfl, ho0, hb⟩; refine ⟨_, rfl, ?_⟩; have n0_ := a_ (Kd.R_lower ho0 (below_size (bv_ HB.out))); have n1_ := a_ (bs_ HB.out hb); clear HB; have HO373 := n0_; have HB := n1_; clear n0_ n1_; (try clear hb); (try clear hb2); (try clear hk); (try clear hi); (try clear ho0)))
    go_loopg [11, 12] kj4 (fun kq v11 v12 w' => ∃ (x11_2 : Bool) (x12_2 : Int), v11 = .bool x11_2 ∧ v12 = .int .i64 x12_2 ∧ Aside0 (variorumlaw11_BreakerAll.l0 kq l0 a1 a2 t365 t369 t370 t371 x11_2 x12_2 = some r) ∧ Aside0 (kq ≤ kj4) ∧ Aside0 (Kd.R (Kd.int .i64) 3 w' w.heap.size (fun _ => True) v372 t369) ∧ Aside0 (Below w.heap.size w w'))
    case atStart => exact ⟨(false), (0), (by first | rfl | (simp; done) | (simp [*]; done)), (by first | rfl | (simp; done) | (simp [*]; done)), H', ⟨Nat.le_refl _⟩, ⟨by (with_reducible repeat (first | apply Kd.R_alloc | apply Kd.R_drewN | apply Kd.R_drew)); exact HO373.out⟩, ⟨bv_ HB.out⟩⟩
    case round =>
     clear H'
     try clear c1
     try clear p2
     try clear c5
     try clear c7
     try clear c8
     try clear c8b0
     try clear c9
     try clear c10
     try clear c10b0
     try clear c10b1
     try clear c16
     try clear c17
     try clear p2
     obtain ⟨x11_2, x12_2, rfl, rfl, HA, HK2, HO_8, HB⟩ := hrel
     cases gk with
     | zero => exact absurd HA.out (by simp [variorumlaw11_BreakerAll.l0])
     | succ k2 =>
      have H := HA.out
      clear HA
      simp only [variorumlaw11_BreakerAll.l0] at H
      by_cases c21 : x12_2 < 1024
      ·rw [if_pos c21] at H
       have c21b0 : decide (x12_2 < 1024) = true := decide_eq_true c21
       clear c21
       have HC22 := a_ H
       clear H
       go_upto_region 9 with (fail)
       go_cut [55] (fun v55 wc => ∃ (kq : Nat) (x55_21 : Bool), v55 = .bool x55_21 ∧ Aside0 (variorumlaw11_BreakerAll.j2 kq l0 a1 a2 t365 t369 t370 t371 x11_2 x12_2 x55_21 = some r) ∧ Aside0 (kq ≤ k2) ∧ Aside0 (Kd.R (Kd.int .i64) 3 wc w.heap.size (fun _ => True) v372 t369) ∧ Aside0 (Below w.heap.size w wc))
       case first =>
        have H := HC22.out
        clear HC22
        by_cases c23 : t365 < 10
        ·rw [if_pos c23] at H
         have c23b0 : decide (t365 < 10) = true := decide_eq_true c23
         clear c23
         (first | rw [c23b0] | (simp only [i64_w, i32_w]; rw [c23b0]) | skip)
         obtain ⟨ji24, hji24⟩ : ∃ j_ : Int, (IntKind.u64.wrap (t365)) = j_ := ⟨_, rfl⟩
         replace H : (if 0 ≤ (ji24) then (variorumlaw11_BreakerAll.j2 k2 l0 a1 a2 t365 t369 t370 t371 x11_2 x12_2 (decide (x12_2 ≥ (shl .i64 1 (ji24))))) else (none)) = some r := by first | (rw [hji24] at H; exact H) | (simp only [hji24] at H ⊢; exact H)
         by_cases c25 : 0 ≤ (ji24)
         ·rw [if_pos c25] at H
          have c25b0 := eq_true c25
          have c25b1 : decide (0 ≤ (ji24)) = true := decide_eq_true c25
          clear c25
          obtain ⟨ji26, hji26⟩ : ∃ j_ : Int, (shl .i64 1 (ji24)) = j_ := ⟨_, rfl⟩
          replace H : (variorumlaw11_BreakerAll.j2 k2 l0 a1 a2 t365 t369 t370 t371 x11_2 x12_2 (decide (x12_2 ≥ (ji26)))) = some r := by first | (rw [hji26] at H; exact H) | (simp only [hji26] at H ⊢; exact H)
          have hji26_ : (IntKind.i64.wrap (1 * 2 ^ min (ji24).toNat 64)) = ji26 := hji26
          have hji26z : (ji24) ≤ 64 → (IntKind.i64.wrap (1 * 2 ^ (ji24).toNat)) = ji26 := shl_small hji26
          have hji26u : (IntKind.i64.wrap (2 ^ min (ji24).toNat 64)) = ji26 := by have h_ := hji26_; rw [Int.one_mul] at h_; exact h_
          have hji26v : (ji24) ≤ 64 → (IntKind.i64.wrap (2 ^ (ji24).toNat)) = ji26 := fun hle_ => by have h_ := hji26z hle_; rw [Int.one_mul] at h_; exact h_
          have hji26y : (wrap64 (1 * 2 ^ min (ji24).toNat 64)) = ji26 := (i64_w _).symm.trans hji26_
          have hji26x : (ji24) ≤ 64 → (wrap64 (1 * 2 ^ (ji24).toNat)) = ji26 := fun h_ => (i64_w _).symm.trans (hji26z h_)
          have H' := a_ H
          clear H
          go_wp2
          go_meet
          case rel => exact ⟨_, (decide (x12_2 ≥ (ji26))), (by first | rfl | (simp; done) | (simp only [← hji26] <;> (first | rfl | simp)) | (simp [*]; done)), H', ⟨by have := HJ4.out; have := HK2.out; first | omega | exact Nat.le_refl _⟩, ⟨by (with_reducible repeat (first | apply Kd.R_alloc | apply Kd.R_drewN | apply Kd.R_drew)); exact HO_8.out⟩, ⟨bv_ HB.out⟩⟩
         ·rw [if_neg c25] at H
          exact absurd H (by simp)
        ·rw [if_neg c23] at H
         have c23b0 : decide (t365 < 10) = false := decide_eq_false c23
         clear c23
         (first | rw [c23b0] | (simp only [i64_w, i32_w]; rw [c23b0]) | skip)
         have H' := a_ H
         clear H
         go_wp2
         go_meet
         case rel => exact ⟨_, (false), (by first | rfl | (simp; done) | (simp [*]; done)), H', ⟨by have := HJ4.out; have := HK2.out; first | omega | exact Nat.le_refl _⟩, ⟨by (with_reducible repeat (first | apply Kd.R_alloc | apply Kd.R_drewN | apply Kd.R_drew)); exact HO_8.out⟩, ⟨bv_ HB.out⟩⟩
       case rest =>
        clear HC22
        try clear c1
        try clear c2
        try clear p2
        try clear c5
        try clear p6
        try clear c7
        try clear c8
        try clear c8b0
        try clear c9
        try clear c10
        try clear c10b0
        try clear c10b1
        try clear c16
        try clear c17
        try clear c21
        try clear c21b0
        try clear c23
        try clear c23b0
        try clear c25
        try clear c25b0
        try clear c25b1
        try clear p2
        obtain ⟨kq, x55_21, rfl, HA, HJ21, HO_8, HB⟩ := hcut
        cases kq with
        | zero => exact absurd HA.out (by simp [variorumlaw11_BreakerAll.j2])
        | succ kj21 =>
         have H := HA.out
         clear HA
         simp only [variorumlaw11_BreakerAll.j2] at H
         by_cases c27 : x55_21 = true
         ·subst c27
          have H1 : (some (t371 == x11_2)) = some r := by rw [if_pos rfl] at H; exact H
          clear H
          have H := H1
          clear H1
          obtain rfl := Option.some.inj H
          go_wp2
          go_ret
          exact ⟨by first | rfl | (simp [errW_none, errW_some] <;> rfl) | (simp [*, errW_none, errW_some] <;> rfl), bv_ HB.out⟩
         ·replace c27 := Bool.eq_false_iff.mpr c27
          subst c27
          have H1 : ((variorumref11_Choice.f kj21 l0 x12_2).bind fun t374 => ((variorumref10_Total.f kj21 l0 t374 a1 a2).bind fun bt377 => (if bt377.2 = true then (if t371 = true then (if bt377.1 < t370 then (none) else (if bt377.1 = t370 then ((variorumlaw11_ahead.f kj21 t374 t369).bind fun t379 => (if t379 = true then (none) else (variorumlaw11_BreakerAll.l0 kj21 l0 a1 a2 t365 t369 t370 t371 true (wrap64 (x12_2 + 1))))) else (variorumlaw11_BreakerAll.l0 kj21 l0 a1 a2 t365 t369 t370 t371 true (wrap64 (x12_2 + 1))))) else (none)) else (variorumlaw11_BreakerAll.l0 kj21 l0 a1 a2 t365 t369 t370 t371 x11_2 (wrap64 (x12_2 + 1)))))) = some r := by rw [if_neg (show ¬ (false = true) by decide)] at H; exact H
          clear H
          have H := H1
          clear H1
          replace H := Option.bind_eq_some_iff.mp H
          obtain ⟨t374, A280, H⟩ := H
          replace H : ((variorumref10_Total.f kj21 l0 t374 a1 a2).bind fun bt377 => (if bt377.2 = true then (if t371 = true then (if bt377.1 < t370 then (none) else (if bt377.1 = t370 then ((variorumlaw11_ahead.f kj21 t374 t369).bind fun t379 => (if t379 = true then (none) else (variorumlaw11_BreakerAll.l0 kj21 l0 a1 a2 t365 t369 t370 t371 true (wrap64 (x12_2 + 1))))) else (variorumlaw11_BreakerAll.l0 kj21 l0 a1 a2 t365 t369 t370 t371 true (wrap64 (x12_2 + 1))))) else (none)) else (variorumlaw11_BreakerAll.l0 kj21 l0 a1 a2 t365 t369 t370 t371 x11_2 (wrap64 (x12_2 + 1))))) = some r := H
          have A28 := a_ A280
          clear A280
          replace H := Option.bind_eq_some_iff.mp H
          obtain ⟨⟨t377, t378⟩, A290, H⟩ := H
          replace H : (if t378 = true then (if t371 = true then (if t377 < t370 then (none) else (if t377 = t370 then ((variorumlaw11_ahead.f kj21 t374 t369).bind fun t379 => (if t379 = true then (none) else (variorumlaw11_BreakerAll.l0 kj21 l0 a1 a2 t365 t369 t370 t371 true (wrap64 (x12_2 + 1))))) else (variorumlaw11_BreakerAll.l0 kj21 l0 a1 a2 t365 t369 t370 t371 true (wrap64 (x12_2 + 1))))) else (none)) else (variorumlaw11_BreakerAll.l0 kj21 l0 a1 a2 t365 t369 t370 t371 x11_2 (wrap64 (x12_2 + 1)))) = some r := H
          have A29 := a_ A290
          clear A290
          by_cases c30 : t378 = true
          ·subst c30
           have H1 : (if t371 = true then (if t377 < t370 then (none) else (if t377 = t370 then ((variorumlaw11_ahead.f kj21 t374 t369).bind fun t379 => (if t379 = true then (none) else (variorumlaw11_BreakerAll.l0 kj21 l0 a1 a2 t365 t369 t370 t371 true (wrap64 (x12_2 + 1))))) else (variorumlaw11_BreakerAll.l0 kj21 l0 a1 a2 t365 t369 t370 t371 true (wrap64 (x12_2 + 1))))) else (none)) = some r := by rw [if_pos rfl] at H; exact H
           clear H
           have H := H1
           clear H1
           by_cases c31 : t371 = true
           ·subst c31
            have H1 : (if t377 < t370 then (none) else (if t377 = t370 then ((variorumlaw11_ahead.f kj21 t374 t369).bind fun t379 => (if t379 = true then (none) else (variorumlaw11_BreakerAll.l0 kj21 l0 a1 a2 t365 t369 t370 true true (wrap64 (x12_2 + 1))))) else (variorumlaw11_BreakerAll.l0 kj21 l0 a1 a2 t365 t369 t370 true true (wrap64 (x12_2 + 1))))) = some r := by rw [if_pos rfl] at H; exact H
            clear H
            have H := H1
            clear H1
            by_cases c32 : t377 < t370
            ·rw [if_pos c32] at H
             exact absurd H (by simp)
            ·rw [if_neg c32] at H
             have c32b0 : decide (t377 < t370) = false := decide_eq_false c32
             clear c32
             by_cases c33 : t377 = t370
             ·rw [if_pos c33] at H
              have c33b0 : (t377 == t370) = true := beq_iff_eq.mpr c33
              have c33b1 : (t377 != t370) = false := bne_eq_false_iff_eq.mpr c33
              clear c33
              replace H := Option.bind_eq_some_iff.mp H
              obtain ⟨t379, A340, H⟩ := H
              replace H : (if t379 = true then (none) else (variorumlaw11_BreakerAll.l0 kj21 l0 a1 a2 t365 t369 t370 true true (wrap64 (x12_2 + 1)))) = some r := H
              have A34 := a_ A340
              clear A340
              by_cases c35 : t379 = true
              ·subst c35
               have H1 : (none) = some r := by rw [if_pos rfl] at H; exact H
               clear H
               have H := H1
               clear H1
               exact absurd H (by simp)
              ·replace c35 := Bool.eq_false_iff.mpr c35
               subst c35
               have H1 : (variorumlaw11_BreakerAll.l0 kj21 l0 a1 a2 t365 t369 t370 true true (wrap64 (x12_2 + 1))) = some r := by rw [if_neg (show ¬ (false = true) by decide)] at H; exact H
               clear H
               have H := H1
               clear H1
               have H' := a_ H
               clear H
               go_wp2_with (first | ((with_reducible refine gate_callee (f := 16) rfl ?_); refine gl_ (some 58) Try.func16 (by kernel_rfl) #[.slice A0 l0.length c0, .int .i64 x12_2] ?_; (with_reducible refine (variorumref11_Choice.calls kj21 _ _ l0 x12_2 t374 _ ?side1 ?side2 A28.out).mono ?_); (case side1 => exact cw_ HR0.out HB.out); (case side2 => exact HC0.out); rintro e w36 ⟨v375, rfl, ho0, hb⟩; refine ⟨_, rfl, ?_⟩; have n0_ := a_ (Kd.R_elder' (rv_ HO_8.out) (Kd.R_base ho0) hb); have n1_ := a_ (Kd.R_lower (Kd.R_new' ho0 (Kd.R_lt (rv_ HO_8.out))) (below_size (bv_ HB.out))); have n2_ := a_ (bs_ HB.out hb); clear HO_8; clear HB; have HO_8 := n0_; have HO376 := n1_; have HB := n2_; clear n0_ n1_ n2_; (try clear hb); (try clear hb2); (try clear hk); (try clear hi); (try clear ho0); obtain ⟨Ao37, co37, eo37⟩ := Kd.R_slice HO376.out; subst eo37) | ((with_reducible refine gate_callee (f := 15) rfl ?_); refine gl_ (some 64) Try.func15 (by kernel_rfl) #[.slice A0 l0.length c0, .slice Ao37 t374.length co37, .int .i64 a1, .int .i64 a2] ?_; (with_reducible refine (variorumref10_Total.calls kj21 _ _ l0 _ _ t374 a1 a2 t377 true _ ?side1 ?side2 ?side3 ?side4 A29.out).mono ?_); (case side1 => exact cw_ HR0.out HB.out); (case side2 => exact HC0.out); (case side3 => exact cr_ (Kd.R_reads' HO376.out).2.2); (case side4 => exact (Kd.R_reads' HO376.out).2.1); rintro e w38 ⟨rfl, hb⟩; refine ⟨_, rfl, ?_⟩; have n0_ := a_ (Kd.R_below (rv_ HO_8.out) hb); have n1_ := a_ (Kd.R_below (rv_ HO376.out) hb); have n2_ := a_ (bs_ HB.out hb); clear HO_8; clear HO376; clear HB; have HO_8 := n0_; have HO376 := n1_; have HB := n2_; clear n0_ n1_ n2_; (try clear hb); (try clear hb2); (try clear hk); (try clear hi); obtain ⟨Ao39, co39, eo39⟩ := Kd.R_slice HO_8.out; subst eo39) | (go_at_call 18; (with_reducible refine (variorumlaw11_ahead.calls kj21 _ _ t374 _ _ t369 false _ ?side1 ?side2 ?side3 ?side4 A34.out).mono ?_); (case side1 => exact cr_ (Kd.R_reads' HO376.out).2.2); (case side2 => exact (Kd.R_reads' HO376.out).2.1); (case side3 => exact cr_ (Kd.R_reads' HO_8.out).2.2); (case side4 => exact (Kd.R_reads' HO_8.out).2.1); rintro e w' ⟨rfl, ⟨nd, rfl⟩⟩))
               go_roundg kj21
               case measure => have := HJ4.out; have := HK2.out; have := HJ21.out; omega
               case rel => exact ⟨(true), (wrap64 (x12_2 + 1)), (by first | rfl | (simp; done) | (simp [*]; done)), (by first | rfl | (simp; done) | (simp [*]; done)), H', ⟨by have := HJ4.out; have := HK2.out; have := HJ21.out; omega⟩, ⟨by (with_reducible repeat (first | apply Kd.R_alloc | apply Kd.R_drewN | apply Kd.R_drew)); exact Kd.R_mono HO_8.out (fun _ hk => trivial)⟩, ⟨bv_ HB.out⟩⟩
             ·rw [if_neg c33] at H
              have c33b0 : (t377 == t370) = false := beq_eq_false_iff_ne.mpr c33
              have c33b1 : (t377 != t370) = true := bne_iff_ne.mpr c33
              have H' := a_ H
              clear H
              go_wp2_with (first | ((with_reducible refine gate_callee (f := 16) rfl ?_); refine gl_ (some 58) Try.func16 (by kernel_rfl) #[.slice A0 l0.length c0, .int .i64 x12_2] ?_; (with_reducible refine (variorumref11_Choice.calls kj21 _ _ l0 x12_2 t374 _ ?side1 ?side2 A28.out).mono ?_); (case side1 => exact cw_ HR0.out HB.out); (case side2 => exact HC0.out); rintro e w40 ⟨v375, rfl, ho0, hb⟩; refine ⟨_, rfl, ?_⟩; have n0_ := a_ (Kd.R_elder' (rv_ HO_8.out) (Kd.R_base ho0) hb); have n1_ := a_ (Kd.R_lower (Kd.R_new' ho0 (Kd.R_lt (rv_ HO_8.out))) (below_size (bv_ HB.out))); have n2_ := a_ (bs_ HB.out hb); clear HO_8; clear HB; have HO_8 := n0_; have HO376 := n1_; have HB := n2_; clear n0_ n1_ n2_; (try clear hb); (try clear hb2); (try clear hk); (try clear hi); (try clear ho0); obtain ⟨Ao41, co41, eo41⟩ := Kd.R_slice HO376.out; subst eo41) | ((with_reducible refine gate_callee (f := 15) rfl ?_); refine gl_ (some 64) Try.func15 (by kernel_rfl) #[.slice A0 l0.length c0, .slice Ao41 t374.length co41, .int .i64 a1, .int .i64 a2] ?_; (with_reducible refine (variorumref10_Total.calls kj21 _ _ l0 _ _ t374 a1 a2 t377 true _ ?side1 ?side2 ?side3 ?side4 A29.out).mono ?_); (case side1 => exact cw_ HR0.out HB.out); (case side2 => exact HC0.out); (case side3 => exact cr_ (Kd.R_reads' HO376.out).2.2); (case side4 => exact (Kd.R_reads' HO376.out).2.1); rintro e w42 ⟨rfl, hb⟩; refine ⟨_, rfl, ?_⟩; have n0_ := a_ (Kd.R_below (rv_ HO_8.out) hb); have n1_ := a_ (Kd.R_below (rv_ HO376.out) hb); have n2_ := a_ (bs_ HB.out hb); clear HO_8; clear HO376; clear HB; have HO_8 := n0_; have HO376 := n1_; have HB := n2_; clear n0_ n1_ n2_; (try clear hb); (try clear hb2); (try clear hk); (try clear hi)))
              go_roundg kj21
              case measure => have := HJ4.out; have := HK2.out; have := HJ21.out; omega
              case rel => exact ⟨(true), (wrap64 (x12_2 + 1)), (by first | rfl | (simp; done) | (simp [*]; done)), (by first | rfl | (simp; done) | (simp [*]; done)), H', ⟨by have := HJ4.out; have := HK2.out; have := HJ21.out; omega⟩, ⟨by (with_reducible repeat (first | apply Kd.R_alloc | apply Kd.R_drewN | apply Kd.R_drew)); exact Kd.R_mono HO_8.out (fun _ hk => trivial)⟩, ⟨bv_ HB.out⟩⟩
           ·replace c31 := Bool.eq_false_iff.mpr c31
            subst c31
            have H1 : (none) = some r := by rw [if_neg (show ¬ (false = true) by decide)] at H; exact H
            clear H
            have H := H1
            clear H1
            exact absurd H (by simp)
          ·replace c30 := Bool.eq_false_iff.mpr c30
           subst c30
           have H1 : (variorumlaw11_BreakerAll.l0 kj21 l0 a1 a2 t365 t369 t370 t371 x11_2 (wrap64 (x12_2 + 1))) = some r := by rw [if_neg (show ¬ (false = true) by decide)] at H; exact H
           clear H
           have H := H1
           clear H1
           have H' := a_ H
           clear H
           go_wp2_with (first | ((with_reducible refine gate_callee (f := 16) rfl ?_); refine gl_ (some 58) Try.func16 (by kernel_rfl) #[.slice A0 l0.length c0, .int .i64 x12_2] ?_; (with_reducible refine (variorumref11_Choice.calls kj21 _ _ l0 x12_2 t374 _ ?side1 ?side2 A28.out).mono ?_); (case side1 => exact cw_ HR0.out HB.out); (case side2 => exact HC0.out); rintro e w43 ⟨v375, rfl, ho0, hb⟩; refine ⟨_, rfl, ?_⟩; have n0_ := a_ (Kd.R_elder' (rv_ HO_8.out) (Kd.R_base ho0) hb); have n1_ := a_ (Kd.R_lower (Kd.R_new' ho0 (Kd.R_lt (rv_ HO_8.out))) (below_size (bv_ HB.out))); have n2_ := a_ (bs_ HB.out hb); clear HO_8; clear HB; have HO_8 := n0_; have HO376 := n1_; have HB := n2_; clear n0_ n1_ n2_; (try clear hb); (try clear hb2); (try clear hk); (try clear hi); (try clear ho0); obtain ⟨Ao44, co44, eo44⟩ := Kd.R_slice HO376.out; subst eo44) | ((with_reducible refine gate_callee (f := 15) rfl ?_); refine gl_ (some 64) Try.func15 (by kernel_rfl) #[.slice A0 l0.length c0, .slice Ao44 t374.length co44, .int .i64 a1, .int .i64 a2] ?_; (with_reducible refine (variorumref10_Total.calls kj21 _ _ l0 _ _ t374 a1 a2 t377 false _ ?side1 ?side2 ?side3 ?side4 A29.out).mono ?_); (case side1 => exact cw_ HR0.out HB.out); (case side2 => exact HC0.out); (case side3 => exact cr_ (Kd.R_reads' HO376.out).2.2); (case side4 => exact (Kd.R_reads' HO376.out).2.1); rintro e w45 ⟨rfl, hb⟩; refine ⟨_, rfl, ?_⟩; have n0_ := a_ (Kd.R_below (rv_ HO_8.out) hb); have n1_ := a_ (Kd.R_below (rv_ HO376.out) hb); have n2_ := a_ (bs_ HB.out hb); clear HO_8; clear HO376; clear HB; have HO_8 := n0_; have HO376 := n1_; have HB := n2_; clear n0_ n1_ n2_; (try clear hb); (try clear hb2); (try clear hk); (try clear hi)))
           go_roundg kj21
           case measure => have := HJ4.out; have := HK2.out; have := HJ21.out; omega
           case rel => exact ⟨(x11_2), (wrap64 (x12_2 + 1)), (by first | rfl | (simp; done) | (simp [*]; done)), (by first | rfl | (simp; done) | (simp [*]; done)), H', ⟨by have := HJ4.out; have := HK2.out; have := HJ21.out; omega⟩, ⟨by (with_reducible repeat (first | apply Kd.R_alloc | apply Kd.R_drewN | apply Kd.R_drew)); exact Kd.R_mono HO_8.out (fun _ hk => trivial)⟩, ⟨bv_ HB.out⟩⟩
      ·rw [if_neg c21] at H
       have c21b0 : decide (x12_2 < 1024) = false := decide_eq_false c21
       clear c21
       obtain rfl := Option.some.inj H
       go_wp2
       go_ret
       exact ⟨by first | rfl | (simp [errW_none, errW_some] <;> rfl) | (simp [*, errW_none, errW_some] <;> rfl), bv_ HB.out⟩

/-- The one statement about numbers and lists that is left of the law. -/
def variorumlaw11_BreakerAll.Pure : Prop := ∀ (x0 : List (S47)) (x1 : Int) (x2 : Int), (x0.length * 72 ≤ 140737488351232 ∧ ∀ y0 ∈ x0, ((Lit.int .i64 y0.f0).wf = true ∧ (((Lit.int .i64 y0.f1.f0).wf = true ∧ ((Lit.int .i64 y0.f1.f1).wf = true ∧ ((Lit.int .i64 y0.f1.f2).wf = true ∧ ((Lit.int .i64 y0.f1.f3).wf = true)))) ∧ ((Lit.int .i64 y0.f2).wf = true ∧ (True ∧ ((Lit.int .i64 y0.f4).wf = true ∧ ((Lit.int .i64 y0.f5).wf = true))))))) → (Lit.int .i64 x1).wf = true → (Lit.int .i64 x2).wf = true → ∃ k, variorumlaw11_BreakerAll.f k x0 x1 x2 = some true

end Go.Proofs.Ytnkdopihaohimaa.PBr

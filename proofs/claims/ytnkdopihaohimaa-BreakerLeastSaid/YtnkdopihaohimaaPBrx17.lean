/- Written by a program of this session: functions of the given program as plain Lean functions, the walks that show it, and the row of each law, for every input that its statement speaks of. -/
import Derived.Test.YtnkdopihaohimaaPBrx0
import Derived.Test.YtnkdopihaohimaaPBrx12
import Derived.Test.YtnkdopihaohimaaPBrx16
namespace Go.Proofs.Ytnkdopihaohimaa.PBr
open Go.RowKit Go.Proofs.YtnkdopihaohimaaW.PrintWords Go.Proofs.YtnkdopihaohimaaW.PrintLast Go.Proofs.YtnkdopihaohimaaW.PrintMore
attribute [local go_sem] max2_int min2_int max_two min_two max_three min_three max_four min_four   -- for this text's walks alone
set_option linter.unusedVariables false
set_option linter.unusedSimpArgs false

/-! ### variorumref10_Apart: function 26 -/
def variorumref10_Apart.f (a0 : Int) (a1 : Int) : Option (Int) := if a0 > (wrap64 (a1 + 1)) then (some 10000) else (if (wrap64 (a0 + 1)) < a1 then (some 10000) else (some 0))
set_option maxHeartbeats 8000000 in
set_option maxRecDepth 100000 in
theorem variorumref10_Apart.calls (a0 : Int) (a1 : Int) (r : Int) (w : World) (h : variorumref10_Apart.f a0 a1 = some r) :
  Calls Try.prog 26 #[.int .i64 a0, .int .i64 a1] w fun e w' => e = .returned (.int .i64 r) ∧ Drawn0 w w' := by
 have H : (if a0 > (wrap64 (a1 + 1)) then (some 10000) else (if (wrap64 (a0 + 1)) < a1 then (some 10000) else (some 0))) = some r := h
 clear h
 by_cases c3 : a0 > (wrap64 (a1 + 1))
 ·rw [if_pos c3] at H
  have c3b0 : decide ((wrap64 (a1 + 1)) < a0) = true := decide_eq_true c3
  clear c3
  obtain rfl := Option.some.inj H
  go_enter Try.func26, Try.ntmps26
  go_wp2
  go_ret
  exact ⟨by first | rfl | (simp; done) | (simp [*]; done), by repeat (first | exact Drawn0.refl _ | apply Drawn0.step)⟩
 ·rw [if_neg c3] at H
  have c3b0 : decide ((wrap64 (a1 + 1)) < a0) = false := decide_eq_false c3
  clear c3
  by_cases c4 : (wrap64 (a0 + 1)) < a1
  ·rw [if_pos c4] at H
   have c4b0 : decide ((wrap64 (a0 + 1)) < a1) = true := decide_eq_true c4
   clear c4
   obtain rfl := Option.some.inj H
   go_enter Try.func26, Try.ntmps26
   go_wp2
   go_ret
   exact ⟨by first | rfl | (simp; done) | (simp [*]; done), by repeat (first | exact Drawn0.refl _ | apply Drawn0.step)⟩
  ·rw [if_neg c4] at H
   have c4b0 : decide ((wrap64 (a0 + 1)) < a1) = false := decide_eq_false c4
   clear c4
   obtain rfl := Option.some.inj H
   go_enter Try.func26, Try.ntmps26
   go_wp2
   go_ret
   exact ⟨by first | rfl | (simp; done) | (simp [*]; done), by repeat (first | exact Drawn0.refl _ | apply Drawn0.step)⟩

/-! ### variorumref10_Total: function 15 -/
mutual
def variorumref10_Total.j0 : Nat → List (S47) → List Int → Int → Int → Int → Bool → Option (Int × Bool)
 | 0, _, _, _, _, _, _ => none
 | k + 1, x0, x1, x2, x3, x10, x32 => if x32 = true then (some (0, false)) else (variorumref10_Total.l0 k x0 x1 x2 x3 x10 0 (-1) 2 0)
def variorumref10_Total.l0 : Nat → List (S47) → List Int → Int → Int → Int → Int → Int → Int → Int → Option (Int × Bool)
 | 0, _, _, _, _, _, _, _, _, _ => none
 | k + 1, x0, x1, x2, x3, x10, x11, x12, x13, x14 => if x14 < x10 then (if 0 ≤ x14 then (if x14 < (x1.length : Int) then ((variorumref10_Cost.f k x0 x12 (rd x1 x14) x2 x3).bind fun bt329 => (if bt329.2.2 = true then ((variorumref10_Apart.f bt329.2.1 x13).bind fun t332 => (variorumref10_Total.l0 k x0 x1 x2 x3 x10 (wrap64 (x11 + (wrap64 (bt329.1 + t332)))) (rd x1 x14) bt329.2.1 (wrap64 (x14 + 1)))) else (some (0, false)))) else (none)) else (none)) else (some (x11, true))
end
def variorumref10_Total.f (k : Nat) (l0 : List (S47)) (l1 : List Int) (a2 : Int) (a3 : Int) : Option (Int × Bool) := if (l1.length : Int) = 0 then (variorumref10_Total.j0 k l0 l1 a2 a3 (l1.length : Int) true) else (if 0 ≤ (wrap64 ((l1.length : Int) - 1)) then (if (wrap64 ((l1.length : Int) - 1)) < (l1.length : Int) then (variorumref10_Total.j0 k l0 l1 a2 a3 (l1.length : Int) ((rd l1 (wrap64 ((l1.length : Int) - 1))) != (wrap64 ((l0.length : Int) - 1)))) else (none)) else (none))
theorem variorumref10_Total.mono_l : ∀ k, (∀ y0 y1 y2 y3 y4 y5, LeO (variorumref10_Total.j0 k y0 y1 y2 y3 y4 y5) (variorumref10_Total.j0 (k + 1) y0 y1 y2 y3 y4 y5)) ∧ (∀ y0 y1 y2 y3 y4 y5 y6 y7 y8, LeO (variorumref10_Total.l0 k y0 y1 y2 y3 y4 y5 y6 y7 y8) (variorumref10_Total.l0 (k + 1) y0 y1 y2 y3 y4 y5 y6 y7 y8))
 | 0 => ⟨fun _ _ _ _ _ _ r h => by simp [variorumref10_Total.j0] at h, fun _ _ _ _ _ _ _ _ _ r h => by simp [variorumref10_Total.l0] at h⟩
 | k + 1 => by
  obtain ⟨ih0, ih1⟩ := variorumref10_Total.mono_l k
  refine ⟨?_, ?_⟩
  ·intro y0 y1 y2 y3 y4 y5
   unfold variorumref10_Total.j0
   repeat' first | (with_reducible first | exact ih0 _ _ _ _ _ _ | exact ih1 _ _ _ _ _ _ _ _ _ | exact variorumref10_Cost.mono _ _ _ _ _ _ | exact LeO.refl _ | exact LeO.none _ | refine LeO.ite ?_ ?_ | refine LeO.bind ?_ (fun _ => ?_)) | exact LeO.none _ | refine LeO.ite ?_ ?_ | refine LeO.bind ?_ (fun _ => ?_)
  ·intro y0 y1 y2 y3 y4 y5 y6 y7 y8
   unfold variorumref10_Total.l0
   repeat' first | (with_reducible first | exact ih0 _ _ _ _ _ _ | exact ih1 _ _ _ _ _ _ _ _ _ | exact variorumref10_Cost.mono _ _ _ _ _ _ | exact LeO.refl _ | exact LeO.none _ | refine LeO.ite ?_ ?_ | refine LeO.bind ?_ (fun _ => ?_)) | exact LeO.none _ | refine LeO.ite ?_ ?_ | refine LeO.bind ?_ (fun _ => ?_)
theorem variorumref10_Total.mono : ∀ a0 a1 a2 a3 k, LeO (variorumref10_Total.f k a0 a1 a2 a3) (variorumref10_Total.f (k + 1) a0 a1 a2 a3) := by
 intro a0 a1 a2 a3 k
 obtain ⟨ih0, ih1⟩ := variorumref10_Total.mono_l k
 unfold variorumref10_Total.f
 repeat' first
   | (with_reducible exact ih0 _ _ _ _ _ _)
   | (with_reducible exact ih1 _ _ _ _ _ _ _ _ _)
   | (with_reducible exact variorumref10_Cost.mono _ _ _ _ _ _)
   | (with_reducible exact LeO.refl _)
   | (with_reducible exact LeO.none _)
   | (with_reducible refine LeO.ite ?_ ?_)
   | (with_reducible refine LeO.bind ?_ (fun _ => ?_))
   | exact ih0 _ _ _ _ _ _
   | exact ih1 _ _ _ _ _ _ _ _ _
   | exact variorumref10_Cost.mono _ _ _ _ _ _
   | exact LeO.none _
   | refine LeO.ite ?_ ?_
   | refine LeO.bind ?_ (fun _ => ?_)
set_option maxHeartbeats 8000000 in
set_option maxRecDepth 100000 in
theorem variorumref10_Total.calls (k : Nat) (A0 : Option Addr) (c0 : Nat) (l0 : List (S47)) (A1 : Option Addr) (c1 : Nat) (l1 : List Int) (a2 : Int) (a3 : Int) (r1 : Int) (r2 : Bool) (w : World) (hr0 : Kd.C k47 w A0 l0.length l0) (hc0 : l0.length ≤ c0) (hr1 : Kd.C (Kd.int .i64) w A1 l1.length l1) (hc1 : l1.length ≤ c1) (h : variorumref10_Total.f k l0 l1 a2 a3 = some (r1, r2)) :
  Calls Try.prog 15 #[.slice A0 l0.length c0, .slice A1 l1.length c1, .int .i64 a2, .int .i64 a3] w fun e w' => e = .returned (.tuple #[.int .i64 r1, .bool r2]) ∧ Below w.heap.size w w' := by
 have HR0 := a_ hr0
 have HC0 := a_ hc0
 clear hr0 hc0
 have HR1 := a_ hr1
 have HC1 := a_ hc1
 clear hr1 hc1
 have HB := a_ (Below.refl w.heap.size w)
 have H : (if (l1.length : Int) = 0 then (variorumref10_Total.j0 k l0 l1 a2 a3 (l1.length : Int) true) else (if 0 ≤ (wrap64 ((l1.length : Int) - 1)) then (if (wrap64 ((l1.length : Int) - 1)) < (l1.length : Int) then (variorumref10_Total.j0 k l0 l1 a2 a3 (l1.length : Int) ((rd l1 (wrap64 ((l1.length : Int) - 1))) != (wrap64 ((l0.length : Int) - 1)))) else (none)) else (none))) = some (r1, r2) := h
 clear h
 have HC5 := a_ H
 clear H
 go_enter Try.func15, Try.ntmps15
 go_upto_region 2 with (fail)
 go_cut [32] (fun v32 wc => ∃ (kq : Nat) (x32_4 : Bool), v32 = .bool x32_4 ∧ Aside0 (variorumref10_Total.j0 kq l0 l1 a2 a3 (l1.length : Int) x32_4 = some (r1, r2)) ∧ Aside0 (kq ≤ k) ∧ Aside0 (Below w.heap.size w wc))
 case first =>
  have H := HC5.out
  clear HC5
  by_cases c6 : (l1.length : Int) = 0
  ·rw [if_pos c6] at H
   have c6b0 : ((l1.length : Int) == 0) = true := beq_iff_eq.mpr c6
   have c6b1 : ((l1.length : Int) != 0) = false := bne_eq_false_iff_eq.mpr c6
   clear c6
   (first | rw [c6b0] | (simp only [i64_w, i32_w]; rw [c6b0]) | skip)
   have H' := a_ H
   clear H
   go_wp2
   go_meet
   case rel => exact ⟨_, (true), (by first | rfl | (simp; done) | (simp [*]; done)), H', ⟨by first | omega | exact Nat.le_refl _⟩, ⟨bv_ HB.out⟩⟩
  ·rw [if_neg c6] at H
   have c6b0 : ((l1.length : Int) == 0) = false := beq_eq_false_iff_ne.mpr c6
   have c6b1 : ((l1.length : Int) != 0) = true := bne_iff_ne.mpr c6
   have c6b2 : ¬ (l1 = []) := fun h_ => c6 (by rw [h_]; rfl)
   (first | rw [c6b0] | (simp only [i64_w, i32_w]; rw [c6b0]) | skip)
   obtain ⟨ji7, hji7⟩ : ∃ j_ : Int, (wrap64 ((l1.length : Int) - 1)) = j_ := ⟨_, rfl⟩
   replace H : (if 0 ≤ (ji7) then (if (ji7) < (l1.length : Int) then (variorumref10_Total.j0 k l0 l1 a2 a3 (l1.length : Int) ((rd l1 (ji7)) != (wrap64 ((l0.length : Int) - 1)))) else (none)) else (none)) = some (r1, r2) := by first | (rw [hji7] at H; exact H) | (simp only [hji7] at H ⊢; exact H)
   have hji7w : (IntKind.i64.wrap ((l1.length : Int) - 1)) = ji7 := (i64_w _).trans hji7
   by_cases c8 : 0 ≤ (ji7)
   ·rw [if_pos c8] at H
    have c8b0 : decide (0 ≤ (ji7)) = true := decide_eq_true c8
    clear c8
    by_cases c9 : (ji7) < (l1.length : Int)
    ·rw [if_pos c9] at H
     have c9b0 : decide ((ji7) < (l1.length : Int)) = true := decide_eq_true c9
     clear c9
     have H' := a_ H
     clear H
     have p327 : 0 ≤ ((ji7) : Int) := od_
     have q327 : (ji7) < (l1.length : Int) := od_
     obtain ⟨ad327, e327, hx327_0⟩ := Kd.at_int HR1.out (ji7) p327 q327
     cases e327
     try replace hx327_0 := up_ HB.out hx327_0
     replace p327 := eq_true p327
     replace q327 := eq_true q327
     go_wp2
     go_meet
     case rel => exact ⟨_, (((rd l1 (ji7)) != (wrap64 ((l0.length : Int) - 1)))), (by first | rfl | (simp; done) | (simp only [← hji7] <;> (first | rfl | simp)) | (simp [*]; done)), H', ⟨by first | omega | exact Nat.le_refl _⟩, ⟨bv_ HB.out⟩⟩
    ·rw [if_neg c9] at H
     exact absurd H (by simp)
   ·rw [if_neg c8] at H
    exact absurd H (by simp)
 case rest =>
  clear HC5
  try clear c1
  try clear p2
  try clear p3
  try clear q3
  try clear hx3
  try clear c6
  try clear c6b0
  try clear c6b1
  try clear c6b2
  try clear p6
  try clear c8
  try clear c8b0
  try clear c9
  try clear c9b0
  try clear hx327_0
  try clear p327
  try clear q327
  obtain ⟨kq, x32_4, rfl, HA, HJ4, HB⟩ := hcut
  cases kq with
  | zero => exact absurd HA.out (by simp [variorumref10_Total.j0])
  | succ kj4 =>
   have H := HA.out
   clear HA
   simp only [variorumref10_Total.j0] at H
   by_cases c10 : x32_4 = true
   ·subst c10
    have H1 : (some (0, false)) = some (r1, r2) := by rw [if_pos rfl] at H; exact H
    clear H
    have H := H1
    clear H1
    simp only [Option.some.injEq, Prod.mk.injEq] at H
    obtain ⟨rfl, rfl⟩ := H
    go_wp2
    go_ret2
    exact ⟨by first | rfl | (simp [errW_none, errW_some] <;> rfl) | (simp [*, errW_none, errW_some] <;> rfl), bv_ HB.out⟩
   ·replace c10 := Bool.eq_false_iff.mpr c10
    subst c10
    have H1 : (variorumref10_Total.l0 kj4 l0 l1 a2 a3 (l1.length : Int) 0 (-1) 2 0) = some (r1, r2) := by rw [if_neg (show ¬ (false = true) by decide)] at H; exact H
    clear H
    have H := H1
    clear H1
    have H' := a_ H
    clear H
    go_wp2
    go_loopg [11, 12, 13, 14] kj4 (fun kq v11 v12 v13 v14 w' => ∃ (x11_2 : Int) (x12_2 : Int) (x13_2 : Int) (x14_2 : Int), v11 = .int .i64 x11_2 ∧ v12 = .int .i64 x12_2 ∧ v13 = .int .i64 x13_2 ∧ v14 = .int .i64 x14_2 ∧ Aside0 (variorumref10_Total.l0 kq l0 l1 a2 a3 (l1.length : Int) x11_2 x12_2 x13_2 x14_2 = some (r1, r2)) ∧ Aside0 (kq ≤ kj4) ∧ Aside0 (Below w.heap.size w w'))
    case atStart => exact ⟨(0), ((-1)), (2), (0), (by first | rfl | (simp; done) | (simp [*]; done)), (by first | rfl | (simp; done) | (simp [*]; done)), (by first | rfl | (simp; done) | (simp [*]; done)), (by first | rfl | (simp; done) | (simp [*]; done)), H', ⟨Nat.le_refl _⟩, ⟨bv_ HB.out⟩⟩
    case round =>
     clear H'
     try clear c1
     try clear p2
     try clear p3
     try clear q3
     try clear hx3
     try clear c6
     try clear c6b0
     try clear c6b1
     try clear c6b2
     try clear p6
     try clear c8
     try clear c8b0
     try clear c9
     try clear c9b0
     try clear c10
     try clear hx327_0
     try clear p2
     try clear p3
     try clear p327
     try clear p6
     try clear q3
     try clear q327
     obtain ⟨x11_2, x12_2, x13_2, x14_2, rfl, rfl, rfl, rfl, HA, HK2, HB⟩ := hrel
     cases gk with
     | zero => exact absurd HA.out (by simp [variorumref10_Total.l0])
     | succ k2 =>
      have H := HA.out
      clear HA
      simp only [variorumref10_Total.l0] at H
      by_cases c11 : x14_2 < (l1.length : Int)
      ·rw [if_pos c11] at H
       have c11b0 : decide (x14_2 < (l1.length : Int)) = true := decide_eq_true c11
       clear c11
       by_cases c12 : 0 ≤ x14_2
       ·rw [if_pos c12] at H
        have c12b0 : decide (0 ≤ x14_2) = true := decide_eq_true c12
        clear c12
        by_cases c13 : x14_2 < (l1.length : Int)
        ·rw [if_pos c13] at H
         have c13b0 : decide (x14_2 < (l1.length : Int)) = true := decide_eq_true c13
         clear c13
         replace H := Option.bind_eq_some_iff.mp H
         obtain ⟨⟨t329, t330, t331⟩, A140, H⟩ := H
         replace H : (if t331 = true then ((variorumref10_Apart.f t330 x13_2).bind fun t332 => (variorumref10_Total.l0 k2 l0 l1 a2 a3 (l1.length : Int) (wrap64 (x11_2 + (wrap64 (t329 + t332)))) (rd l1 x14_2) t330 (wrap64 (x14_2 + 1)))) else (some (0, false))) = some (r1, r2) := H
         have A14 := a_ A140
         clear A140
         by_cases c15 : t331 = true
         ·subst c15
          have H1 : ((variorumref10_Apart.f t330 x13_2).bind fun t332 => (variorumref10_Total.l0 k2 l0 l1 a2 a3 (l1.length : Int) (wrap64 (x11_2 + (wrap64 (t329 + t332)))) (rd l1 x14_2) t330 (wrap64 (x14_2 + 1)))) = some (r1, r2) := by rw [if_pos rfl] at H; exact H
          clear H
          have H := H1
          clear H1
          replace H := Option.bind_eq_some_iff.mp H
          obtain ⟨t332, A160, H⟩ := H
          replace H : (variorumref10_Total.l0 k2 l0 l1 a2 a3 (l1.length : Int) (wrap64 (x11_2 + (wrap64 (t329 + t332)))) (rd l1 x14_2) t330 (wrap64 (x14_2 + 1))) = some (r1, r2) := H
          have A16 := a_ A160
          clear A160
          have H' := a_ H
          clear H
          have p328 : 0 ≤ (x14_2 : Int) := od_
          have q328 : x14_2 < (l1.length : Int) := od_
          obtain ⟨ad328, e328, hx328_0⟩ := Kd.at_int HR1.out x14_2 p328 q328
          cases e328
          try replace hx328_0 := up_ HB.out hx328_0
          replace p328 := eq_true p328
          replace q328 := eq_true q328
          go_wp2_with (first | ((with_reducible refine gate_callee (f := 20) rfl ?_); refine gl_ (some 47) Try.func20 (by kernel_rfl) #[.slice A0 l0.length c0, .int .i64 x12_2, .int .i64 (rd l1 x14_2), .int .i64 a2, .int .i64 a3] ?_; (with_reducible refine (variorumref10_Cost.calls k2 _ _ l0 x12_2 (rd l1 x14_2) a2 a3 t329 t330 true _ ?side1 ?side2 A14.out).mono ?_); (case side1 => exact cw_ HR0.out HB.out); (case side2 => exact HC0.out); rintro e w17 ⟨rfl, hb⟩; refine ⟨_, rfl, ?_⟩; have n0_ := a_ (bs_ HB.out hb); clear HB; have HB := n0_; clear n0_; (try clear hb); (try clear hb2); (try clear hk); (try clear hi)) | ((with_reducible refine gate_callee (f := 26) rfl ?_); refine gl_ (some 57) Try.func26 (by kernel_rfl) #[.int .i64 t330, .int .i64 x13_2] ?_; (with_reducible refine (variorumref10_Apart.calls t330 x13_2 t332 _ A16.out).mono ?_); rintro e w' ⟨rfl, ⟨nd, rfl⟩⟩; refine ⟨_, rfl, ?_⟩; have p333 : 0 ≤ (x14_2 : Int) := od_; have q333 : x14_2 < (l1.length : Int) := od_; obtain ⟨ad333, e333, hx333_0⟩ := Kd.at_int HR1.out x14_2 p333 q333; obtain rfl : ad328 = ad333 := (by injection e333); replace hx333_0 := up_ HB.out hx333_0; replace p333 := eq_true p333; replace q333 := eq_true q333))
          go_roundg k2
          case measure => have := HJ4.out; have := HK2.out; omega
          case rel => exact ⟨(wrap64 (x11_2 + (wrap64 (t329 + t332)))), (rd l1 x14_2), (t330), (wrap64 (x14_2 + 1)), (by first | rfl | (simp; done) | (simp [*]; done)), (by first | rfl | (simp; done) | (simp [*]; done)), (by first | rfl | (simp; done) | (simp [*]; done)), (by first | rfl | (simp; done) | (simp [*]; done)), H', ⟨by have := HJ4.out; have := HK2.out; omega⟩, ⟨bv_ HB.out⟩⟩
         ·replace c15 := Bool.eq_false_iff.mpr c15
          subst c15
          have H1 : (some (0, false)) = some (r1, r2) := by rw [if_neg (show ¬ (false = true) by decide)] at H; exact H
          clear H
          have H := H1
          clear H1
          simp only [Option.some.injEq, Prod.mk.injEq] at H
          obtain ⟨rfl, rfl⟩ := H
          have p328 : 0 ≤ (x14_2 : Int) := od_
          have q328 : x14_2 < (l1.length : Int) := od_
          obtain ⟨ad328, e328, hx328_0⟩ := Kd.at_int HR1.out x14_2 p328 q328
          cases e328
          try replace hx328_0 := up_ HB.out hx328_0
          replace p328 := eq_true p328
          replace q328 := eq_true q328
          go_wp2_with (first | ((with_reducible refine gate_callee (f := 20) rfl ?_); refine gl_ (some 47) Try.func20 (by kernel_rfl) #[.slice A0 l0.length c0, .int .i64 x12_2, .int .i64 (rd l1 x14_2), .int .i64 a2, .int .i64 a3] ?_; (with_reducible refine (variorumref10_Cost.calls k2 _ _ l0 x12_2 (rd l1 x14_2) a2 a3 t329 t330 false _ ?side1 ?side2 A14.out).mono ?_); (case side1 => exact cw_ HR0.out HB.out); (case side2 => exact HC0.out); rintro e w18 ⟨rfl, hb⟩; refine ⟨_, rfl, ?_⟩; have n0_ := a_ (bs_ HB.out hb); clear HB; have HB := n0_; clear n0_; (try clear hb); (try clear hb2); (try clear hk); (try clear hi)))
          go_ret2
          exact ⟨by first | rfl | (simp [errW_none, errW_some] <;> rfl) | (simp [*, errW_none, errW_some] <;> rfl), bv_ HB.out⟩
        ·rw [if_neg c13] at H
         exact absurd H (by simp)
       ·rw [if_neg c12] at H
        exact absurd H (by simp)
      ·rw [if_neg c11] at H
       have c11b0 : decide (x14_2 < (l1.length : Int)) = false := decide_eq_false c11
       clear c11
       simp only [Option.some.injEq, Prod.mk.injEq] at H
       obtain ⟨rfl, rfl⟩ := H
       go_wp2
       go_ret2
       exact ⟨by first | rfl | (simp [errW_none, errW_some] <;> rfl) | (simp [*, errW_none, errW_some] <;> rfl), bv_ HB.out⟩

/-! ### variorumref11_Choice: function 16 -/
def variorumref11_Choice.l0 : Nat → List (S47) → Int → List Int → Int → Option (List Int)
 | 0, _, _, _, _ => none
 | k + 1, x0, x1, x5, x6 => if x6 < (x0.length : Int) then ((variorumref10_Legal.f k x0 x6).bind fun t337 => (if t337 = true then (if (Int.tmod x1 2) = 1 then (if x5.length < 17592186044416 then (variorumref11_Choice.l0 k x0 (wrap64 (Int.tdiv x1 2)) (x5 ++ [x6]) (wrap64 (x6 + 1))) else (none)) else (if x6 = (wrap64 ((x0.length : Int) - 1)) then (if x5.length < 17592186044416 then (variorumref11_Choice.l0 k x0 (wrap64 (Int.tdiv x1 2)) (x5 ++ [x6]) (wrap64 (x6 + 1))) else (none)) else (variorumref11_Choice.l0 k x0 (wrap64 (Int.tdiv x1 2)) x5 (wrap64 (x6 + 1))))) else (variorumref11_Choice.l0 k x0 x1 x5 (wrap64 (x6 + 1))))) else (some x5)
def variorumref11_Choice.f (k : Nat) (l0 : List (S47)) (a1 : Int) : Option (List Int) := variorumref11_Choice.l0 k l0 a1 (([] : List Int)) 0
theorem variorumref11_Choice.mono_l : ∀ k, (∀ y0 y1 y2 y3, LeO (variorumref11_Choice.l0 k y0 y1 y2 y3) (variorumref11_Choice.l0 (k + 1) y0 y1 y2 y3))
 | 0 => fun _ _ _ _ r h => by simp [variorumref11_Choice.l0] at h
 | k + 1 => by
  have ih0 := variorumref11_Choice.mono_l k
  ·intro y0 y1 y2 y3
   unfold variorumref11_Choice.l0
   repeat' first | (with_reducible first | exact ih0 _ _ _ _ | exact variorumref10_Legal.mono _ _ _ | exact LeO.refl _ | exact LeO.none _ | refine LeO.ite ?_ ?_ | refine LeO.bind ?_ (fun _ => ?_)) | exact LeO.none _ | refine LeO.ite ?_ ?_ | refine LeO.bind ?_ (fun _ => ?_)
theorem variorumref11_Choice.mono : ∀ a0 a1 k, LeO (variorumref11_Choice.f k a0 a1) (variorumref11_Choice.f (k + 1) a0 a1) := by
 intro a0 a1 k
 have ih0 := variorumref11_Choice.mono_l k
 unfold variorumref11_Choice.f
 repeat' first
   | (with_reducible exact ih0 _ _ _ _)
   | (with_reducible exact variorumref10_Legal.mono _ _ _)
   | (with_reducible exact LeO.refl _)
   | (with_reducible exact LeO.none _)
   | (with_reducible refine LeO.ite ?_ ?_)
   | (with_reducible refine LeO.bind ?_ (fun _ => ?_))
   | exact ih0 _ _ _ _
   | exact variorumref10_Legal.mono _ _ _
   | exact LeO.none _
   | refine LeO.ite ?_ ?_
   | refine LeO.bind ?_ (fun _ => ?_)
set_option maxHeartbeats 8000000 in
set_option maxRecDepth 100000 in
theorem variorumref11_Choice.calls (k : Nat) (A0 : Option Addr) (c0 : Nat) (l0 : List (S47)) (a1 : Int) (r : List Int) (w : World) (hr0 : Kd.C k47 w A0 l0.length l0) (hc0 : l0.length ≤ c0) (h : variorumref11_Choice.f k l0 a1 = some r) :
  Calls Try.prog 16 #[.slice A0 l0.length c0, .int .i64 a1] w fun e w' => ∃ v0_ : Value, e = .returned (v0_) ∧ Kd.R (Kd.int .i64) 3 w' w.heap.size (fun _ => True) v0_ r ∧ Below w.heap.size w w' := by
 have HR0 := a_ hr0
 have HC0 := a_ hc0
 clear hr0 hc0
 have HB := a_ (Below.refl w.heap.size w)
 have H : (variorumref11_Choice.l0 k l0 a1 (([] : List Int)) 0) = some r := h
 clear h
 obtain ⟨y334, hy334⟩ : ∃ y_ : List Int, y_ = (([] : List Int)) := ⟨_, rfl⟩
 replace H : (variorumref11_Choice.l0 k l0 a1 y334 0) = some r := by first | (rw [hy334]; with_reducible exact H) | (have H2_ := (Option.bind_some _ _).symm.trans H; rw [hy334]; with_reducible exact H2_) | (have H2_ := (Option.bind_some _ _).symm.trans H; with_reducible exact H2_) | with_reducible exact H | (rw [hy334]; exact H) | exact H
 have Ny334 := a_ hy334
 clear hy334
 have H' := a_ H
 clear H
 go_enter Try.func16, Try.ntmps16
 go_wp2_with (first | ((with_reducible refine gate_dst (N := 7) rfl ?_); (try (refine gate_guard (by rfl) ?_; dsimp only)); refine Kd.R_lit (Kd.int .i64) _ 3 ?hg (N := 7) ?hd (xs := ([] : List Int)) (inner := []) (ok := fun _ => True) (okp := fun _ => True) ?hr ?hp (fun _ hk => hk) trivial (Below.refl _ _) (Nat.le_refl _) (by simp) ?_; (case hd => rfl); (case hg => rfl); (case hr => first | (go_simp; done) | (go_simp; rfl)); (case hp => exact (Reps.none _ _)); intro v335 w3 ho4 hb hg_ hnew_; clear hg_ hnew_; (first | rw [← Ny334.out] at ho4 | (simp only [Int.reduceToNat] at ho4; rw [← Ny334.out] at ho4)); have n0_ := a_ (Kd.R_lower ho4 (below_size (bv_ HB.out))); have n1_ := a_ (bs_ HB.out hb); clear HB; have HO336 := n0_; have HB := n1_; clear n0_ n1_; clear hb ho4))
 go_loopg [1, 5, 6] k (fun kq v1 v5 v6 w' => ∃ (x1_1 : Int) (x5_1 : List Int) (x6_1 : Int), v1 = .int .i64 x1_1 ∧ v6 = .int .i64 x6_1 ∧ Aside0 (variorumref11_Choice.l0 kq l0 x1_1 x5_1 x6_1 = some r) ∧ Aside0 (kq ≤ k) ∧ Aside0 (Kd.R (Kd.int .i64) 3 w' w.heap.size (fun _ => True) v5 x5_1) ∧ Aside0 (Below w.heap.size w w'))
 case atStart => exact ⟨(a1), (y334), (0), (by first | rfl | (simp; done) | (simp [*]; done)), (by first | rfl | (simp; done) | (simp [*]; done)), H', ⟨Nat.le_refl _⟩, ⟨by (with_reducible repeat (first | apply Kd.R_alloc | apply Kd.R_drewN | apply Kd.R_drew)); exact HO336.out⟩, ⟨bv_ HB.out⟩⟩
 case round =>
  clear H'
  try clear c1
  try clear p2
  obtain ⟨x1_1, x5_1, x6_1, rfl, rfl, HA, HK1, HO_5, HB⟩ := hrel
  cases gk with
  | zero => exact absurd HA.out (by simp [variorumref11_Choice.l0])
  | succ k1 =>
   have H := HA.out
   clear HA
   simp only [variorumref11_Choice.l0] at H
   by_cases c5 : x6_1 < (l0.length : Int)
   ·rw [if_pos c5] at H
    have c5b0 : decide (x6_1 < (l0.length : Int)) = true := decide_eq_true c5
    clear c5
    replace H := Option.bind_eq_some_iff.mp H
    obtain ⟨t337, A60, H⟩ := H
    replace H : (if t337 = true then (if (Int.tmod x1_1 2) = 1 then (if x5_1.length < 17592186044416 then (variorumref11_Choice.l0 k1 l0 (wrap64 (Int.tdiv x1_1 2)) (x5_1 ++ [x6_1]) (wrap64 (x6_1 + 1))) else (none)) else (if x6_1 = (wrap64 ((l0.length : Int) - 1)) then (if x5_1.length < 17592186044416 then (variorumref11_Choice.l0 k1 l0 (wrap64 (Int.tdiv x1_1 2)) (x5_1 ++ [x6_1]) (wrap64 (x6_1 + 1))) else (none)) else (variorumref11_Choice.l0 k1 l0 (wrap64 (Int.tdiv x1_1 2)) x5_1 (wrap64 (x6_1 + 1))))) else (variorumref11_Choice.l0 k1 l0 x1_1 x5_1 (wrap64 (x6_1 + 1)))) = some r := H
    have A6 := a_ A60
    clear A60
    by_cases c7 : t337 = true
    ·subst c7
     have H1 : (if (Int.tmod x1_1 2) = 1 then (if x5_1.length < 17592186044416 then (variorumref11_Choice.l0 k1 l0 (wrap64 (Int.tdiv x1_1 2)) (x5_1 ++ [x6_1]) (wrap64 (x6_1 + 1))) else (none)) else (if x6_1 = (wrap64 ((l0.length : Int) - 1)) then (if x5_1.length < 17592186044416 then (variorumref11_Choice.l0 k1 l0 (wrap64 (Int.tdiv x1_1 2)) (x5_1 ++ [x6_1]) (wrap64 (x6_1 + 1))) else (none)) else (variorumref11_Choice.l0 k1 l0 (wrap64 (Int.tdiv x1_1 2)) x5_1 (wrap64 (x6_1 + 1))))) = some r := by rw [if_pos rfl] at H; exact H
     clear H
     have H := H1
     clear H1
     by_cases c8 : (Int.tmod x1_1 2) = 1
     ·rw [if_pos c8] at H
      have c8b0 : ((Int.tmod x1_1 2) == 1) = true := beq_iff_eq.mpr c8
      have c8b1 : ((Int.tmod x1_1 2) != 1) = false := bne_eq_false_iff_eq.mpr c8
      clear c8
      by_cases c9 : x5_1.length < 17592186044416
      ·rw [if_pos c9] at H
       have LMc9 := a_ c9
       clear c9
       obtain ⟨y338, hy338⟩ : ∃ y_ : List Int, y_ = (x5_1 ++ [x6_1]) := ⟨_, rfl⟩
       replace H : (variorumref11_Choice.l0 k1 l0 (wrap64 (Int.tdiv x1_1 2)) y338 (wrap64 (x6_1 + 1))) = some r := by first | (rw [hy338]; with_reducible exact H) | (have H2_ := (Option.bind_some _ _).symm.trans H; rw [hy338]; with_reducible exact H2_) | (have H2_ := (Option.bind_some _ _).symm.trans H; with_reducible exact H2_) | with_reducible exact H | (rw [hy338]; exact H) | exact H
       have Ny338 := a_ hy338
       clear hy338
       have H' := a_ H
       clear H
       go_wp2_with (first | ((with_reducible refine gate_callee (f := 21) rfl ?_); refine gl_ (some 16) Try.func21 (by kernel_rfl) #[.slice A0 l0.length c0, .int .i64 x6_1] ?_; (with_reducible refine (variorumref10_Legal.calls k1 _ _ l0 x6_1 true _ ?side1 ?side2 A6.out).mono ?_); (case side1 => exact cw_ HR0.out HB.out); (case side2 => exact HC0.out); rintro e w' ⟨rfl, ⟨nd, rfl⟩⟩; refine ⟨_, rfl, ?_⟩) | ((with_reducible refine gate_builtin (b := .append) (xs := #[.tmp 28, .tmp 30]) rfl ?_); (try (refine gate_guard (by rfl) ?_; dsimp only)); at_builtin; refine Kd.R_append (Kd.int .i64) (w0 := w) w.heap.size rfl (.tmp 28) (.tmp 30) 24 3 (.int .i64 0) 8 rfl Try.underlying24 info3 rfl (by decide) (by omega) u5 x5_1 x6_1 [.int .i64 x6_1] (fun _ => True) (fun _ => False) rfl rfl ?aP (fun _ hk => hk.elim) ?aF ?aO ?aB ?aS ?aL ?_; (case aP => exact rfl); (case aB => exact (bv_ HB.out)); (case aF => exact (fun _ _ => trivial)); (case aO => exact (rv_ HO_5.out)); (case aS => exact (below_size (bv_ HB.out))); (case aL => have := LMc9.out; omega); intro v339 w10 ho hb hg hat; rw [← Ny338.out] at ho; have n0_ := a_ (hb); have n1_ := a_ (ho); clear HB; clear HO_5; have HB := n0_; have HO340 := n1_; clear n0_ n1_; clear ho hb hg hat))
       go_roundg k1
       case measure => have := HK1.out; omega
       case rel => exact ⟨(wrap64 (Int.tdiv x1_1 2)), (y338), (wrap64 (x6_1 + 1)), (by first | rfl | (simp; done) | (simp [*]; done)), (by first | rfl | (simp; done) | (simp [*]; done)), H', ⟨by have := HK1.out; omega⟩, ⟨by (with_reducible repeat (first | apply Kd.R_alloc | apply Kd.R_drewN | apply Kd.R_drew)); exact HO340.out⟩, ⟨bv_ HB.out⟩⟩
      ·rw [if_neg c9] at H
       exact absurd H (by simp)
     ·rw [if_neg c8] at H
      have c8b0 : ((Int.tmod x1_1 2) == 1) = false := beq_eq_false_iff_ne.mpr c8
      have c8b1 : ((Int.tmod x1_1 2) != 1) = true := bne_iff_ne.mpr c8
      by_cases c11 : x6_1 = (wrap64 ((l0.length : Int) - 1))
      ·rw [if_pos c11] at H
       have c11b0 : (x6_1 == (wrap64 ((l0.length : Int) - 1))) = true := beq_iff_eq.mpr c11
       have c11b1 : (x6_1 != (wrap64 ((l0.length : Int) - 1))) = false := bne_eq_false_iff_eq.mpr c11
       clear c11
       by_cases c12 : x5_1.length < 17592186044416
       ·rw [if_pos c12] at H
        have LMc12 := a_ c12
        clear c12
        obtain ⟨y341, hy341⟩ : ∃ y_ : List Int, y_ = (x5_1 ++ [x6_1]) := ⟨_, rfl⟩
        replace H : (variorumref11_Choice.l0 k1 l0 (wrap64 (Int.tdiv x1_1 2)) y341 (wrap64 (x6_1 + 1))) = some r := by first | (rw [hy341]; with_reducible exact H) | (have H2_ := (Option.bind_some _ _).symm.trans H; rw [hy341]; with_reducible exact H2_) | (have H2_ := (Option.bind_some _ _).symm.trans H; with_reducible exact H2_) | with_reducible exact H | (rw [hy341]; exact H) | exact H
        have Ny341 := a_ hy341
        clear hy341
        have H' := a_ H
        clear H
        go_wp2_with (first | ((with_reducible refine gate_callee (f := 21) rfl ?_); refine gl_ (some 16) Try.func21 (by kernel_rfl) #[.slice A0 l0.length c0, .int .i64 x6_1] ?_; (with_reducible refine (variorumref10_Legal.calls k1 _ _ l0 x6_1 true _ ?side1 ?side2 A6.out).mono ?_); (case side1 => exact cw_ HR0.out HB.out); (case side2 => exact HC0.out); rintro e w' ⟨rfl, ⟨nd, rfl⟩⟩; refine ⟨_, rfl, ?_⟩) | ((with_reducible refine gate_builtin (b := .append) (xs := #[.tmp 28, .tmp 30]) rfl ?_); (try (refine gate_guard (by rfl) ?_; dsimp only)); at_builtin; refine Kd.R_append (Kd.int .i64) (w0 := w) w.heap.size rfl (.tmp 28) (.tmp 30) 24 3 (.int .i64 0) 8 rfl Try.underlying24 info3 rfl (by decide) (by omega) u5 x5_1 x6_1 [.int .i64 x6_1] (fun _ => True) (fun _ => False) rfl rfl ?aP (fun _ hk => hk.elim) ?aF ?aO ?aB ?aS ?aL ?_; (case aP => exact rfl); (case aB => exact (bv_ HB.out)); (case aF => exact (fun _ _ => trivial)); (case aO => exact (rv_ HO_5.out)); (case aS => exact (below_size (bv_ HB.out))); (case aL => have := LMc12.out; omega); intro v342 w13 ho hb hg hat; rw [← Ny341.out] at ho; have n0_ := a_ (hb); have n1_ := a_ (ho); clear HB; clear HO_5; have HB := n0_; have HO343 := n1_; clear n0_ n1_; clear ho hb hg hat))
        go_roundg k1
        case measure => have := HK1.out; omega
        case rel => exact ⟨(wrap64 (Int.tdiv x1_1 2)), (y341), (wrap64 (x6_1 + 1)), (by first | rfl | (simp; done) | (simp [*]; done)), (by first | rfl | (simp; done) | (simp [*]; done)), H', ⟨by have := HK1.out; omega⟩, ⟨by (with_reducible repeat (first | apply Kd.R_alloc | apply Kd.R_drewN | apply Kd.R_drew)); exact HO343.out⟩, ⟨bv_ HB.out⟩⟩
       ·rw [if_neg c12] at H
        exact absurd H (by simp)
      ·rw [if_neg c11] at H
       have c11b0 : (x6_1 == (wrap64 ((l0.length : Int) - 1))) = false := beq_eq_false_iff_ne.mpr c11
       have c11b1 : (x6_1 != (wrap64 ((l0.length : Int) - 1))) = true := bne_iff_ne.mpr c11
       have H' := a_ H
       clear H
       go_wp2_with (first | ((with_reducible refine gate_callee (f := 21) rfl ?_); refine gl_ (some 16) Try.func21 (by kernel_rfl) #[.slice A0 l0.length c0, .int .i64 x6_1] ?_; (with_reducible refine (variorumref10_Legal.calls k1 _ _ l0 x6_1 true _ ?side1 ?side2 A6.out).mono ?_); (case side1 => exact cw_ HR0.out HB.out); (case side2 => exact HC0.out); rintro e w' ⟨rfl, ⟨nd, rfl⟩⟩; refine ⟨_, rfl, ?_⟩))
       go_roundg k1
       case measure => have := HK1.out; omega
       case rel => exact ⟨(wrap64 (Int.tdiv x1_1 2)), (x5_1), (wrap64 (x6_1 + 1)), (by first | rfl | (simp; done) | (simp [*]; done)), (by first | rfl | (simp; done) | (simp [*]; done)), H', ⟨by have := HK1.out; omega⟩, ⟨by (with_reducible repeat (first | apply Kd.R_alloc | apply Kd.R_drewN | apply Kd.R_drew)); exact HO_5.out⟩, ⟨bv_ HB.out⟩⟩
    ·replace c7 := Bool.eq_false_iff.mpr c7
     subst c7
     have H1 : (variorumref11_Choice.l0 k1 l0 x1_1 x5_1 (wrap64 (x6_1 + 1))) = some r := by rw [if_neg (show ¬ (false = true) by decide)] at H; exact H
     clear H
     have H := H1
     clear H1
     have H' := a_ H
     clear H
     go_wp2_with (first | ((with_reducible refine gate_callee (f := 21) rfl ?_); refine gl_ (some 16) Try.func21 (by kernel_rfl) #[.slice A0 l0.length c0, .int .i64 x6_1] ?_; (with_reducible refine (variorumref10_Legal.calls k1 _ _ l0 x6_1 false _ ?side1 ?side2 A6.out).mono ?_); (case side1 => exact cw_ HR0.out HB.out); (case side2 => exact HC0.out); rintro e w' ⟨rfl, ⟨nd, rfl⟩⟩; refine ⟨_, rfl, ?_⟩))
     go_roundg k1
     case measure => have := HK1.out; omega
     case rel => exact ⟨(x1_1), (x5_1), (wrap64 (x6_1 + 1)), (by first | rfl | (simp; done) | (simp [*]; done)), (by first | rfl | (simp; done) | (simp [*]; done)), H', ⟨by have := HK1.out; omega⟩, ⟨by (with_reducible repeat (first | apply Kd.R_alloc | apply Kd.R_drewN | apply Kd.R_drew)); exact HO_5.out⟩, ⟨bv_ HB.out⟩⟩
   ·rw [if_neg c5] at H
    have c5b0 : decide (x6_1 < (l0.length : Int)) = false := decide_eq_false c5
    clear c5
    obtain rfl := Option.some.inj H
    go_wp2
    go_ret
    exact ⟨_, by first | rfl | (simp [errW_none, errW_some] <;> rfl) | (simp [*, errW_none, errW_some] <;> rfl), by (with_reducible repeat (first | apply Kd.R_alloc | apply Kd.R_drewN | apply Kd.R_drew)); exact HO_5.out, bv_ HB.out⟩

end Go.Proofs.Ytnkdopihaohimaa.PBr

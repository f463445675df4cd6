/- Written by a program of this session: functions of the given program as plain Lean functions, the walks that show it, and the row of each law, for every input that its statement speaks of. -/
import Derived.Test.YtnkdopihaohimaaPBrx0
import Derived.Test.YtnkdopihaohimaaPBrx8
import Derived.Test.YtnkdopihaohimaaPBrx9
import Derived.Test.YtnkdopihaohimaaPBrx12
import Derived.Test.YtnkdopihaohimaaPBrx16
namespace Go.Proofs.Ytnkdopihaohimaa.PBr
open Go.RowKit Go.Proofs.YtnkdopihaohimaaW.PrintWords Go.Proofs.YtnkdopihaohimaaW.PrintLast Go.Proofs.YtnkdopihaohimaaW.PrintMore
attribute [local go_sem] max2_int min2_int max_two min_two max_three min_three max_four min_four   -- for this text's walks alone
set_option linter.unusedVariables false
set_option linter.unusedSimpArgs false

/-! ### variorumlaw11_BreakerRises: function 7 -/
mutual
def variorumlaw11_BreakerRises.j0 : Nat → List (S47) → Int → Int → List Int → Bool → Option (Bool)
 | 0, _, _, _, _, _ => none
 | k + 1, x0, x1, x2, x7, x33 => if x33 = true then ((variorumlaw11_fixed.f k).bind fun t386 => (some t386)) else (variorumlaw11_BreakerRises.l0 k x0 x1 x2 x7 (-1) 0)
def variorumlaw11_BreakerRises.l0 : Nat → List (S47) → Int → Int → List Int → Int → Int → Option (Bool)
 | 0, _, _, _, _, _, _ => none
 | k + 1, x0, x1, x2, x7, x10, x11 => if x11 < (x7.length : Int) then (if 0 ≤ x11 then ((variorumref10_Cost.f k x0 x10 (rd x7 x11) x1 x2).bind fun bt388 => (if (rd x7 x11) ≤ x10 then (none) else ((variorumref10_Legal.f k x0 (rd x7 x11)).bind fun t393 => (if t393 = true then (if bt388.2.2 = true then (variorumlaw11_BreakerRises.l0 k x0 x1 x2 x7 (rd x7 x11) (wrap64 (x11 + 1))) else (none)) else (none))))) else (none)) else (if (x7.length : Int) > 0 then (some (x10 == (wrap64 ((x0.length : Int) - 1)))) else (none))
end
def variorumlaw11_BreakerRises.f (k : Nat) (l0 : List (S47)) (a1 : Int) (a2 : Int) : Option (Bool) := (breaker_Best.f k l0 a1 a2).bind fun bt380 => ((variorumlaw11_fixed.f k).bind fun t385 => (if t385 = true then (if bt380.2.2 = true then (variorumlaw11_BreakerRises.j0 k l0 a1 a2 bt380.1 (decide ((l0.length : Int) > 200))) else (variorumlaw11_BreakerRises.j0 k l0 a1 a2 bt380.1 true)) else (variorumlaw11_BreakerRises.j0 k l0 a1 a2 bt380.1 true)))
theorem variorumlaw11_BreakerRises.mono_l : ∀ k, (∀ y0 y1 y2 y3 y4, LeO (variorumlaw11_BreakerRises.j0 k y0 y1 y2 y3 y4) (variorumlaw11_BreakerRises.j0 (k + 1) y0 y1 y2 y3 y4)) ∧ (∀ y0 y1 y2 y3 y4 y5, LeO (variorumlaw11_BreakerRises.l0 k y0 y1 y2 y3 y4 y5) (variorumlaw11_BreakerRises.l0 (k + 1) y0 y1 y2 y3 y4 y5))
 | 0 => ⟨fun _ _ _ _ _ r h => by simp [variorumlaw11_BreakerRises.j0] at h, fun _ _ _ _ _ _ r h => by simp [variorumlaw11_BreakerRises.l0] at h⟩
 | k + 1 => by
  obtain ⟨ih0, ih1⟩ := variorumlaw11_BreakerRises.mono_l k
  refine ⟨?_, ?_⟩
  ·intro y0 y1 y2 y3 y4
   unfold variorumlaw11_BreakerRises.j0
   repeat' first | (with_reducible first | exact ih0 _ _ _ _ _ | exact ih1 _ _ _ _ _ _ | exact breaker_Best.mono _ _ _ _ | exact variorumlaw11_fixed.mono _ | exact variorumref10_Cost.mono _ _ _ _ _ _ | exact variorumref10_Legal.mono _ _ _ | exact LeO.refl _ | exact LeO.none _ | refine LeO.ite ?_ ?_ | refine LeO.bind ?_ (fun _ => ?_)) | exact LeO.none _ | refine LeO.ite ?_ ?_ | refine LeO.bind ?_ (fun _ => ?_)
  ·intro y0 y1 y2 y3 y4 y5
   unfold variorumlaw11_BreakerRises.l0
   repeat' first | (with_reducible first | exact ih0 _ _ _ _ _ | exact ih1 _ _ _ _ _ _ | exact breaker_Best.mono _ _ _ _ | exact variorumlaw11_fixed.mono _ | exact variorumref10_Cost.mono _ _ _ _ _ _ | exact variorumref10_Legal.mono _ _ _ | exact LeO.refl _ | exact LeO.none _ | refine LeO.ite ?_ ?_ | refine LeO.bind ?_ (fun _ => ?_)) | exact LeO.none _ | refine LeO.ite ?_ ?_ | refine LeO.bind ?_ (fun _ => ?_)
theorem variorumlaw11_BreakerRises.mono : ∀ a0 a1 a2 k, LeO (variorumlaw11_BreakerRises.f k a0 a1 a2) (variorumlaw11_BreakerRises.f (k + 1) a0 a1 a2) := by
 intro a0 a1 a2 k
 obtain ⟨ih0, ih1⟩ := variorumlaw11_BreakerRises.mono_l k
 unfold variorumlaw11_BreakerRises.f
 repeat' first
   | (with_reducible exact ih0 _ _ _ _ _)
   | (with_reducible exact ih1 _ _ _ _ _ _)
   | (with_reducible exact breaker_Best.mono _ _ _ _)
   | (with_reducible exact variorumlaw11_fixed.mono _)
   | (with_reducible exact variorumref10_Cost.mono _ _ _ _ _ _)
   | (with_reducible exact variorumref10_Legal.mono _ _ _)
   | (with_reducible exact LeO.refl _)
   | (with_reducible exact LeO.none _)
   | (with_reducible refine LeO.ite ?_ ?_)
   | (with_reducible refine LeO.bind ?_ (fun _ => ?_))
   | exact ih0 _ _ _ _ _
   | exact ih1 _ _ _ _ _ _
   | exact breaker_Best.mono _ _ _ _
   | exact variorumlaw11_fixed.mono _
   | exact variorumref10_Cost.mono _ _ _ _ _ _
   | exact variorumref10_Legal.mono _ _ _
   | exact LeO.none _
   | refine LeO.ite ?_ ?_
   | refine LeO.bind ?_ (fun _ => ?_)
set_option maxHeartbeats 8000000 in
set_option maxRecDepth 100000 in
theorem variorumlaw11_BreakerRises.calls (k : Nat) (A0 : Option Addr) (c0 : Nat) (l0 : List (S47)) (a1 : Int) (a2 : Int) (r : Bool) (w : World) (hr0 : Kd.C k47 w A0 l0.length l0) (hc0 : l0.length ≤ c0) (h : variorumlaw11_BreakerRises.f k l0 a1 a2 = some r) :
  Calls Try.prog 7 #[.slice A0 l0.length c0, .int .i64 a1, .int .i64 a2] w fun e w' => e = .returned (.bool r) ∧ Below w.heap.size w w' := by
 have HR0 := a_ hr0
 have HC0 := a_ hc0
 clear hr0 hc0
 have HB := a_ (Below.refl w.heap.size w)
 have H : ((breaker_Best.f k l0 a1 a2).bind fun bt380 => ((variorumlaw11_fixed.f k).bind fun t385 => (if t385 = true then (if bt380.2.2 = true then (variorumlaw11_BreakerRises.j0 k l0 a1 a2 bt380.1 (decide ((l0.length : Int) > 200))) else (variorumlaw11_BreakerRises.j0 k l0 a1 a2 bt380.1 true)) else (variorumlaw11_BreakerRises.j0 k l0 a1 a2 bt380.1 true)))) = some r := h
 clear h
 replace H := Option.bind_eq_some_iff.mp H
 obtain ⟨⟨t380, t381, t382⟩, A40, H⟩ := H
 replace H : ((variorumlaw11_fixed.f k).bind fun t385 => (if t385 = true then (if t382 = true then (variorumlaw11_BreakerRises.j0 k l0 a1 a2 t380 (decide ((l0.length : Int) > 200))) else (variorumlaw11_BreakerRises.j0 k l0 a1 a2 t380 true)) else (variorumlaw11_BreakerRises.j0 k l0 a1 a2 t380 true))) = some r := H
 have A4 := a_ A40
 clear A40
 have HC5 := a_ H
 clear H
 go_enter Try.func7, Try.ntmps7
 go_upto_region 2 with (first | ((with_reducible refine gate_callee (f := 9) rfl ?_); refine gl_ (some 19) Try.func9 (by kernel_rfl) #[.slice A0 l0.length c0, .int .i64 a1, .int .i64 a2] ?_; (with_reducible refine (breaker_Best.calls k _ _ l0 a1 a2 t380 t381 t382 _ ?side1 ?side2 A4.out).mono ?_); (case side1 => repeat (first | exact HR0.out | (with_reducible refine Kd.C_alloc ?_ _) | (with_reducible refine Kd.C_drewN ?_ _) | (with_reducible refine Kd.C_drew ?_))); (case side2 => exact HC0.out); rintro e w6 ⟨v383, rfl, ho0, hb⟩; refine ⟨_, rfl, ?_⟩; have n0_ := a_ (Kd.R_lower ho0 (below_size (bv_ HB.out))); have n1_ := a_ (bs_ HB.out hb); clear HB; have HO384 := n0_; have HB := n1_; clear n0_ n1_; (try clear hb); (try clear hb2); (try clear hk); (try clear hi); (try clear ho0)))
 (try simp only [Act.put, List.setIfInBounds_toArray, List.set_cons_zero, List.set_cons_succ])
 go_cut [33] (fun v33 wc => ∃ (kq : Nat) (x33_4 : Bool), v33 = .bool x33_4 ∧ Aside0 (variorumlaw11_BreakerRises.j0 kq l0 a1 a2 t380 x33_4 = some r) ∧ Aside0 (kq ≤ k) ∧ Aside0 (Kd.R (Kd.int .i64) 3 wc w.heap.size (fun _ => True) v383 t380) ∧ Aside0 (Below w.heap.size w wc))
 case first =>
  have H := HC5.out
  clear HC5
  replace H := Option.bind_eq_some_iff.mp H
  obtain ⟨t385, A70, H⟩ := H
  replace H : (if t385 = true then (if t382 = true then (variorumlaw11_BreakerRises.j0 k l0 a1 a2 t380 (decide ((l0.length : Int) > 200))) else (variorumlaw11_BreakerRises.j0 k l0 a1 a2 t380 true)) else (variorumlaw11_BreakerRises.j0 k l0 a1 a2 t380 true)) = some r := H
  have A7 := a_ A70
  clear A70
  by_cases c8 : t385 = true
  ·subst c8
   have H1 : (if t382 = true then (variorumlaw11_BreakerRises.j0 k l0 a1 a2 t380 (decide ((l0.length : Int) > 200))) else (variorumlaw11_BreakerRises.j0 k l0 a1 a2 t380 true)) = some r := by rw [if_pos rfl] at H; exact H
   clear H
   have H := H1
   clear H1
   by_cases c9 : t382 = true
   ·subst c9
    have H1 : (variorumlaw11_BreakerRises.j0 k l0 a1 a2 t380 (decide ((l0.length : Int) > 200))) = some r := by rw [if_pos rfl] at H; exact H
    clear H
    have H := H1
    clear H1
    have H' := a_ H
    clear H
    go_wp2_with (first | ((with_reducible refine gate_callee (f := 8) rfl ?_); refine gl_ (some 23) Try.func8 (by kernel_rfl) #[] ?_; (with_reducible refine (variorumlaw11_fixed.calls k  true _ A7.out).mono ?_); rintro e w10 ⟨rfl, hb⟩; refine ⟨_, rfl, ?_⟩; have n0_ := a_ (Kd.R_below (rv_ HO384.out) hb); have n1_ := a_ (bs_ HB.out hb); clear HO384; clear HB; have HO384 := n0_; have HB := n1_; clear n0_ n1_; (try clear hb); (try clear hb2); (try clear hk); (try clear hi)))
    go_meet
    case rel => exact ⟨_, (decide ((l0.length : Int) > 200)), (by first | rfl | (simp; done) | (simp [*]; done)), H', ⟨by first | omega | exact Nat.le_refl _⟩, ⟨by (with_reducible repeat (first | apply Kd.R_alloc | apply Kd.R_drewN | apply Kd.R_drew)); exact HO384.out⟩, ⟨bv_ HB.out⟩⟩
   ·replace c9 := Bool.eq_false_iff.mpr c9
    subst c9
    have H1 : (variorumlaw11_BreakerRises.j0 k l0 a1 a2 t380 true) = some r := by rw [if_neg (show ¬ (false = true) by decide)] at H; exact H
    clear H
    have H := H1
    clear H1
    have H' := a_ H
    clear H
    go_wp2_with (first | ((with_reducible refine gate_callee (f := 8) rfl ?_); refine gl_ (some 23) Try.func8 (by kernel_rfl) #[] ?_; (with_reducible refine (variorumlaw11_fixed.calls k  true _ A7.out).mono ?_); rintro e w11 ⟨rfl, hb⟩; refine ⟨_, rfl, ?_⟩; have n0_ := a_ (Kd.R_below (rv_ HO384.out) hb); have n1_ := a_ (bs_ HB.out hb); clear HO384; clear HB; have HO384 := n0_; have HB := n1_; clear n0_ n1_; (try clear hb); (try clear hb2); (try clear hk); (try clear hi)))
    go_meet
    case rel => exact ⟨_, (true), (by first | rfl | (simp; done) | (simp [*]; done)), H', ⟨by first | omega | exact Nat.le_refl _⟩, ⟨by (with_reducible repeat (first | apply Kd.R_alloc | apply Kd.R_drewN | apply Kd.R_drew)); exact HO384.out⟩, ⟨bv_ HB.out⟩⟩
  ·replace c8 := Bool.eq_false_iff.mpr c8
   subst c8
   have H1 : (variorumlaw11_BreakerRises.j0 k l0 a1 a2 t380 true) = some r := by rw [if_neg (show ¬ (false = true) by decide)] at H; exact H
   clear H
   have H := H1
   clear H1
   have H' := a_ H
   clear H
   go_wp2_with (first | ((with_reducible refine gate_callee (f := 8) rfl ?_); refine gl_ (some 23) Try.func8 (by kernel_rfl) #[] ?_; (with_reducible refine (variorumlaw11_fixed.calls k  false _ A7.out).mono ?_); rintro e w12 ⟨rfl, hb⟩; refine ⟨_, rfl, ?_⟩; have n0_ := a_ (Kd.R_below (rv_ HO384.out) hb); have n1_ := a_ (bs_ HB.out hb); clear HO384; clear HB; have HO384 := n0_; have HB := n1_; clear n0_ n1_; (try clear hb); (try clear hb2); (try clear hk); (try clear hi)))
   go_meet
   case rel => exact ⟨_, (true), (by first | rfl | (simp; done) | (simp [*]; done)), H', ⟨by first | omega | exact Nat.le_refl _⟩, ⟨by (with_reducible repeat (first | apply Kd.R_alloc | apply Kd.R_drewN | apply Kd.R_drew)); exact HO384.out⟩, ⟨bv_ HB.out⟩⟩
 case rest =>
  clear HC5
  try clear p2
  try clear c7
  try clear c8
  try clear c9
  obtain ⟨kq, x33_4, rfl, HA, HJ4, HO_7, HB⟩ := hcut
  cases kq with
  | zero => exact absurd HA.out (by simp [variorumlaw11_BreakerRises.j0])
  | succ kj4 =>
   have H := HA.out
   clear HA
   simp only [variorumlaw11_BreakerRises.j0] at H
   by_cases c13 : x33_4 = true
   ·subst c13
    have H1 : ((variorumlaw11_fixed.f kj4).bind fun t386 => (some t386)) = some r := by rw [if_pos rfl] at H; exact H
    clear H
    have H := H1
    clear H1
    replace H := Option.bind_eq_some_iff.mp H
    obtain ⟨t386, A140, H⟩ := H
    replace H : (some t386) = some r := H
    have A14 := a_ A140
    clear A140
    obtain rfl := Option.some.inj H
    go_wp2_with (first | ((with_reducible refine gate_callee (f := 8) rfl ?_); refine gl_ (some 34) Try.func8 (by kernel_rfl) #[] ?_; (with_reducible refine (variorumlaw11_fixed.calls kj4  t386 _ A14.out).mono ?_); rintro e w15 ⟨rfl, hb⟩; refine ⟨_, rfl, ?_⟩; have n0_ := a_ (Kd.R_below (rv_ HO_7.out) hb); have n1_ := a_ (bs_ HB.out hb); clear HO_7; clear HB; have HO_7 := n0_; have HB := n1_; clear n0_ n1_; (try clear hb); (try clear hb2); (try clear hk); (try clear hi)))
    go_ret
    exact ⟨by first | rfl | (simp [errW_none, errW_some] <;> rfl) | (simp [*, errW_none, errW_some] <;> rfl), bv_ HB.out⟩
   ·replace c13 := Bool.eq_false_iff.mpr c13
    subst c13
    have H1 : (variorumlaw11_BreakerRises.l0 kj4 l0 a1 a2 t380 (-1) 0) = some r := by rw [if_neg (show ¬ (false = true) by decide)] at H; exact H
    clear H
    have H := H1
    clear H1
    have H' := a_ H
    clear H
    go_wp2
    go_loopg [10, 11] kj4 (fun kq v10 v11 w' => ∃ (x10_2 : Int) (x11_2 : Int), v10 = .int .i64 x10_2 ∧ v11 = .int .i64 x11_2 ∧ Aside0 (variorumlaw11_BreakerRises.l0 kq l0 a1 a2 t380 x10_2 x11_2 = some r) ∧ Aside0 (kq ≤ kj4) ∧ Aside0 (Kd.R (Kd.int .i64) 3 w' w.heap.size (fun _ => True) v383 t380) ∧ Aside0 (Below w.heap.size w w'))
    case atStart => exact ⟨((-1)), (0), (by first | rfl | (simp; done) | (simp [*]; done)), (by first | rfl | (simp; done) | (simp [*]; done)), H', ⟨Nat.le_refl _⟩, ⟨by (with_reducible repeat (first | apply Kd.R_alloc | apply Kd.R_drewN | apply Kd.R_drew)); exact HO_7.out⟩, ⟨bv_ HB.out⟩⟩
    case round =>
     clear H'
     try clear c1
     try clear p2
     try clear c7
     try clear c8
     try clear c9
     try clear c13
     try clear p2
     obtain ⟨x10_2, x11_2, rfl, rfl, HA, HK2, HO_7, HB⟩ := hrel
     cases gk with
     | zero => exact absurd HA.out (by simp [variorumlaw11_BreakerRises.l0])
     | succ k2 =>
      have H := HA.out
      clear HA
      simp only [variorumlaw11_BreakerRises.l0] at H
      by_cases c16 : x11_2 < (t380.length : Int)
      ·rw [if_pos c16] at H
       have c16b0 : decide (x11_2 < (t380.length : Int)) = true := decide_eq_true c16
       clear c16
       by_cases c17 : 0 ≤ x11_2
       ·rw [if_pos c17] at H
        have c17b0 : decide (0 ≤ x11_2) = true := decide_eq_true c17
        clear c17
        replace H := Option.bind_eq_some_iff.mp H
        obtain ⟨⟨t388, t389, t390⟩, A180, H⟩ := H
        replace H : (if (rd t380 x11_2) ≤ x10_2 then (none) else ((variorumref10_Legal.f k2 l0 (rd t380 x11_2)).bind fun t393 => (if t393 = true then (if t390 = true then (variorumlaw11_BreakerRises.l0 k2 l0 a1 a2 t380 (rd t380 x11_2) (wrap64 (x11_2 + 1))) else (none)) else (none)))) = some r := H
        have A18 := a_ A180
        clear A180
        by_cases c19 : (rd t380 x11_2) ≤ x10_2
        ·rw [if_pos c19] at H
         exact absurd H (by simp)
        ·rw [if_neg c19] at H
         have c19b0 : decide ((rd t380 x11_2) ≤ x10_2) = false := decide_eq_false c19
         clear c19
         replace H := Option.bind_eq_some_iff.mp H
         obtain ⟨t393, A200, H⟩ := H
         replace H : (if t393 = true then (if t390 = true then (variorumlaw11_BreakerRises.l0 k2 l0 a1 a2 t380 (rd t380 x11_2) (wrap64 (x11_2 + 1))) else (none)) else (none)) = some r := H
         have A20 := a_ A200
         clear A200
         by_cases c21 : t393 = true
         ·subst c21
          have H1 : (if t390 = true then (variorumlaw11_BreakerRises.l0 k2 l0 a1 a2 t380 (rd t380 x11_2) (wrap64 (x11_2 + 1))) else (none)) = some r := by rw [if_pos rfl] at H; exact H
          clear H
          have H := H1
          clear H1
          by_cases c22 : t390 = true
          ·subst c22
           have H1 : (variorumlaw11_BreakerRises.l0 k2 l0 a1 a2 t380 (rd t380 x11_2) (wrap64 (x11_2 + 1))) = some r := by rw [if_pos rfl] at H; exact H
           clear H
           have H := H1
           clear H1
           have H' := a_ H
           clear H
           obtain ⟨Ao23, co23, eo23⟩ := Kd.R_slice HO_7.out
           subst eo23
           have p387 : 0 ≤ (x11_2 : Int) := od_
           have q387 : x11_2 < (t380.length : Int) := od_
           obtain ⟨ad387, e387, hx387_0⟩ := Kd.at_int (Kd.R_reads' HO_7.out).2.2 x11_2 p387 q387
           cases e387
           replace p387 := eq_true p387
           replace q387 := eq_true q387
           go_wp2_with (first | ((with_reducible refine gate_callee (f := 20) rfl ?_); refine gl_ (some 50) Try.func20 (by kernel_rfl) #[.slice A0 l0.length c0, .int .i64 x10_2, .int .i64 (rd t380 x11_2), .int .i64 a1, .int .i64 a2] ?_; (with_reducible refine (variorumref10_Cost.calls k2 _ _ l0 x10_2 (rd t380 x11_2) a1 a2 t388 t389 true _ ?side1 ?side2 A18.out).mono ?_); (case side1 => exact cw_ HR0.out HB.out); (case side2 => exact HC0.out); rintro e w24 ⟨rfl, hb⟩; refine ⟨_, rfl, ?_⟩; have n0_ := a_ (Kd.R_below (rv_ HO_7.out) hb); have n1_ := a_ (bs_ HB.out hb); clear HO_7; clear HB; have HO_7 := n0_; have HB := n1_; clear n0_ n1_; (try clear hb); (try clear hb2); (try clear hk); (try clear hi); have p391 : 0 ≤ (x11_2 : Int) := od_; have q391 : x11_2 < (t380.length : Int) := od_; obtain ⟨ad391, e391, hx391_0⟩ := Kd.at_int (Kd.R_reads' HO_7.out).2.2 x11_2 p391 q391; obtain rfl : ad387 = ad391 := (by injection e391); replace p391 := eq_true p391; replace q391 := eq_true q391; have p392 : 0 ≤ (x11_2 : Int) := od_; have q392 : x11_2 < (t380.length : Int) := od_; obtain ⟨ad392, e392, hx392_0⟩ := Kd.at_int (Kd.R_reads' HO_7.out).2.2 x11_2 p392 q392; obtain rfl : ad387 = ad392 := (by injection e392); replace p392 := eq_true p392; replace q392 := eq_true q392) | (go_at_call 21; (with_reducible refine (variorumref10_Legal.calls k2 _ _ l0 (rd t380 x11_2) true _ ?side1 ?side2 A20.out).mono ?_); (case side1 => exact cw_ HR0.out HB.out); (case side2 => exact HC0.out); rintro e w' ⟨rfl, ⟨nd, rfl⟩⟩; have p394 : 0 ≤ (x11_2 : Int) := od_; have q394 : x11_2 < (t380.length : Int) := od_; obtain ⟨ad394, e394, hx394_0⟩ := Kd.at_int (Kd.R_reads' HO_7.out).2.2 x11_2 p394 q394; obtain rfl : ad387 = ad394 := (by injection e394); replace p394 := eq_true p394; replace q394 := eq_true q394))
           go_roundg k2
           case measure => have := HJ4.out; have := HK2.out; omega
           case rel => exact ⟨(rd t380 x11_2), (wrap64 (x11_2 + 1)), (by first | rfl | (simp; done) | (simp [*]; done)), (by first | rfl | (simp; done) | (simp [*]; done)), H', ⟨by have := HJ4.out; have := HK2.out; omega⟩, ⟨by (with_reducible repeat (first | apply Kd.R_alloc | apply Kd.R_drewN | apply Kd.R_drew)); exact HO_7.out⟩, ⟨bv_ HB.out⟩⟩
          ·replace c22 := Bool.eq_false_iff.mpr c22
           subst c22
           have H1 : (none) = some r := by rw [if_neg (show ¬ (false = true) by decide)] at H; exact H
           clear H
           have H := H1
           clear H1
           exact absurd H (by simp)
         ·replace c21 := Bool.eq_false_iff.mpr c21
          subst c21
          have H1 : (none) = some r := by rw [if_neg (show ¬ (false = true) by decide)] at H; exact H
          clear H
          have H := H1
          clear H1
          exact absurd H (by simp)
       ·rw [if_neg c17] at H
        exact absurd H (by simp)
      ·rw [if_neg c16] at H
       have c16b0 : decide (x11_2 < (t380.length : Int)) = false := decide_eq_false c16
       clear c16
       by_cases c25 : (t380.length : Int) > 0
       ·rw [if_pos c25] at H
        have c25b0 : decide (0 < (t380.length : Int)) = true := decide_eq_true c25
        have c25b1 : decide (0 < t380.length) = true := decide_eq_true (by omega)
        clear c25
        obtain rfl := Option.some.inj H
        obtain ⟨Ao26, co26, eo26⟩ := Kd.R_slice HO_7.out
        subst eo26
        go_wp2
        go_ret
        exact ⟨by first | rfl | (simp [errW_none, errW_some] <;> rfl) | (simp [*, errW_none, errW_some] <;> rfl), bv_ HB.out⟩
       ·rw [if_neg c25] at H
        exact absurd H (by simp)

/-- The one statement about numbers and lists that is left of the law. -/
def variorumlaw11_BreakerRises.Pure : Prop := ∀ (x0 : List (S47)) (x1 : Int) (x2 : Int), (x0.length * 72 ≤ 140737488351232 ∧ ∀ y0 ∈ x0, ((Lit.int .i64 y0.f0).wf = true ∧ (((Lit.int .i64 y0.f1.f0).wf = true ∧ ((Lit.int .i64 y0.f1.f1).wf = true ∧ ((Lit.int .i64 y0.f1.f2).wf = true ∧ ((Lit.int .i64 y0.f1.f3).wf = true)))) ∧ ((Lit.int .i64 y0.f2).wf = true ∧ (True ∧ ((Lit.int .i64 y0.f4).wf = true ∧ ((Lit.int .i64 y0.f5).wf = true))))))) → (Lit.int .i64 x1).wf = true → (Lit.int .i64 x2).wf = true → ∃ k, variorumlaw11_BreakerRises.f k x0 x1 x2 = some true

end Go.Proofs.Ytnkdopihaohimaa.PBr

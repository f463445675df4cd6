/- Written by a program of this session: functions of the given program as plain Lean functions, the walks that show it, and the row of each law, for every input that its statement speaks of. -/
import Derived.Test.YtagpdpcodcmgkaaPTox0
import Derived.Test.YtagpdpcodcmgkaaPTox7
namespace Go.Proofs.Ytagpdpcodcmgkaa.PTo
open Go.RowKit Go.Proofs.YtagpdpcodcmgkaaW.PrintWords Go.Proofs.YtagpdpcodcmgkaaW.PrintLast
set_option linter.unusedVariables false
set_option linter.unusedSimpArgs false

/-! ### variorumref10_Start: function 26 -/
def variorumref10_Start.l0 : Nat → List (S47) → Int → Int → Option (Int)
 | 0, _, _, _ => none
 | k + 1, x0, x1, x5 => if x5 < (x0.length : Int) then (if x5 > x1 then (if 0 ≤ x5 then (if ((rd_T47 x0 x5).f0) = 0 then (some x5) else ((variorumref10_Forced.f ((rd_T47 x0 x5).f0) ((rd_T47 x0 x5).f1.f0) ((rd_T47 x0 x5).f1.f1) ((rd_T47 x0 x5).f1.f2) ((rd_T47 x0 x5).f1.f3) ((rd_T47 x0 x5).f2) ((rd_T47 x0 x5).f3) ((rd_T47 x0 x5).f4) ((rd_T47 x0 x5).f5)).bind fun t260 => (if t260 = true then (some x5) else (variorumref10_Start.l0 k x0 x1 (wrap64 (x5 + 1)))))) else (none)) else (variorumref10_Start.l0 k x0 x1 (wrap64 (x5 + 1)))) else (some (x0.length : Int))
def variorumref10_Start.f (k : Nat) (l0 : List (S47)) (a1 : Int) : Option (Int) := variorumref10_Start.l0 k l0 a1 0
theorem variorumref10_Start.mono_l : ∀ k, (∀ y0 y1 y2, LeO (variorumref10_Start.l0 k y0 y1 y2) (variorumref10_Start.l0 (k + 1) y0 y1 y2))
 | 0 => fun _ _ _ r h => by simp [variorumref10_Start.l0] at h
 | k + 1 => by
  have ih0 := variorumref10_Start.mono_l k
  ·intro y0 y1 y2
   unfold variorumref10_Start.l0
   repeat' first
   | (with_reducible exact ih0 _ _ _)
   | (with_reducible exact LeO.refl _)
   | (with_reducible exact LeO.none _)
   | (with_reducible refine LeO.ite ?_ ?_)
   | (with_reducible refine LeO.bind ?_ (fun _ => ?_))
   | exact ih0 _ _ _
   | exact LeO.none _
   | refine LeO.ite ?_ ?_
   | refine LeO.bind ?_ (fun _ => ?_)
theorem variorumref10_Start.mono : ∀ a0 a1 k, LeO (variorumref10_Start.f k a0 a1) (variorumref10_Start.f (k + 1) a0 a1) := by
 intro a0 a1 k
 have ih0 := variorumref10_Start.mono_l k
 unfold variorumref10_Start.f
 repeat' first
   | (with_reducible exact ih0 _ _ _)
   | (with_reducible exact LeO.refl _)
   | (with_reducible exact LeO.none _)
   | (with_reducible refine LeO.ite ?_ ?_)
   | (with_reducible refine LeO.bind ?_ (fun _ => ?_))
   | exact ih0 _ _ _
   | exact LeO.none _
   | refine LeO.ite ?_ ?_
   | refine LeO.bind ?_ (fun _ => ?_)
set_option maxHeartbeats 8000000 in
set_option maxRecDepth 100000 in
theorem variorumref10_Start.calls (k : Nat) (A0 : Option Addr) (c0 : Nat) (l0 : List (S47)) (a1 : Int) (r : Int) (w : World) (hr0 : Kd.C k47 w A0 l0.length l0) (hc0 : l0.length ≤ c0) (h : variorumref10_Start.f k l0 a1 = some r) :
  Calls Try.prog 26 #[.slice A0 l0.length c0, .int .i64 a1] w fun e w' => e = .returned (.int .i64 r) ∧ Below w.heap.size w w' := by
 have hu47 := Try.underlying47
 have HR0 := Aside0.mk hr0
 have HC0 := Aside0.mk hc0
 clear hr0 hc0
 have HB := Aside0.mk (Below.refl w.heap.size w)
 have H : (variorumref10_Start.l0 k l0 a1 0) = some r := h
 clear h
 have H' := Aside0.mk H
 clear H
 go_enter Try.func26, Try.ntmps26
 go_wp2
 go_loopg [5] k (fun kq v5 w' => ∃ (x5_1 : Int), v5 = .int .i64 x5_1 ∧ Aside0 (variorumref10_Start.l0 kq l0 a1 x5_1 = some r) ∧ Aside0 (kq ≤ k) ∧ Aside0 (Below w.heap.size w w'))
 case atStart => exact ⟨(0), (by first | rfl | (simp; done) | (simp [*]; done)), H', ⟨Nat.le_refl _⟩, ⟨by repeat (first | (with_reducible first | exact HB.out | apply below_alloc | apply pw_below_drewN | apply below_drew1) | exact HB.out)⟩⟩
 case round =>
  clear H'
  try clear c2
  try clear p2
  obtain ⟨x5_1, rfl, HA, HK1, HB⟩ := hrel
  cases gk with
  | zero => exact absurd HA.out (by simp [variorumref10_Start.l0])
  | succ k1 =>
   have H := HA.out
   clear HA
   simp only [variorumref10_Start.l0] at H
   by_cases c3 : x5_1 < (l0.length : Int)
   ·rw [if_pos c3] at H
    have c3b0 : decide (x5_1 < (l0.length : Int)) = true := decide_eq_true c3
    clear c3
    by_cases c4 : x5_1 > a1
    ·rw [if_pos c4] at H
     have c4b0 : decide (a1 < x5_1) = true := decide_eq_true c4
     clear c4
     by_cases c5 : 0 ≤ x5_1
     ·rw [if_pos c5] at H
      have c5b0 : decide (0 ≤ x5_1) = true := decide_eq_true c5
      clear c5
      by_cases c6 : ((rd_T47 l0 x5_1).f0) = 0
      ·rw [if_pos c6] at H
       have c6b0 : (((rd_T47 l0 x5_1).f0) == 0) = true := beq_iff_eq.mpr c6
       have c6b1 : (((rd_T47 l0 x5_1).f0) != 0) = false := bne_eq_false_iff_eq.mpr c6
       clear c6
       obtain rfl := Option.some.inj H
       have p258 : 0 ≤ (x5_1 : Int) := of_decide_eq_true (by first | (with_reducible assumption) | assumption)
       have q258 : x5_1 < (l0.length : Int) := of_decide_eq_true (by first | (with_reducible assumption) | assumption)
       obtain ⟨ad258, e258, hx258_0, hx258_1, hx258_2, hx258_3, hx258_4, hx258_5, hx258_6, hx258_7, hx258_8⟩ := at_T47 HR0.out x5_1 p258 q258
       cases e258
       replace hx258_0 := (HB.out.cell (World.block_lt_of_cell? w _ hx258_0)).trans hx258_0
       replace hx258_1 := (HB.out.cell (World.block_lt_of_cell? w _ hx258_1)).trans hx258_1
       replace hx258_2 := (HB.out.cell (World.block_lt_of_cell? w _ hx258_2)).trans hx258_2
       replace hx258_3 := (HB.out.cell (World.block_lt_of_cell? w _ hx258_3)).trans hx258_3
       replace hx258_4 := (HB.out.cell (World.block_lt_of_cell? w _ hx258_4)).trans hx258_4
       replace hx258_5 := (HB.out.cell (World.block_lt_of_cell? w _ hx258_5)).trans hx258_5
       replace hx258_6 := (HB.out.cell (World.block_lt_of_cell? w _ hx258_6)).trans hx258_6
       replace hx258_7 := (HB.out.cell (World.block_lt_of_cell? w _ hx258_7)).trans hx258_7
       replace hx258_8 := (HB.out.cell (World.block_lt_of_cell? w _ hx258_8)).trans hx258_8
       replace p258 := eq_true p258
       replace q258 := eq_true q258
       go_wp2
       go_ret
       exact ⟨by first | rfl | (simp [errW_none, errW_some] <;> rfl) | (simp [*, errW_none, errW_some] <;> rfl), by repeat (first | (with_reducible first | exact HB.out | apply below_alloc | apply pw_below_drewN | apply below_drew1) | exact HB.out)⟩
      ·rw [if_neg c6] at H
       have c6b0 : (((rd_T47 l0 x5_1).f0) == 0) = false := beq_eq_false_iff_ne.mpr c6
       have c6b1 : (((rd_T47 l0 x5_1).f0) != 0) = true := bne_iff_ne.mpr c6
       replace H := Option.bind_eq_some_iff.mp H
       obtain ⟨t260, A70, H⟩ := H
       replace H : (if t260 = true then (some x5_1) else (variorumref10_Start.l0 k1 l0 a1 (wrap64 (x5_1 + 1)))) = some r := H
       have A7 := Aside0.mk A70
       clear A70
       by_cases c8 : t260 = true
       ·subst c8
        have H1 : (some x5_1) = some r := by rw [if_pos rfl] at H; exact H
        clear H
        have H := H1
        clear H1
        obtain rfl := Option.some.inj H
        have p258 : 0 ≤ (x5_1 : Int) := of_decide_eq_true (by first | (with_reducible assumption) | assumption)
        have q258 : x5_1 < (l0.length : Int) := of_decide_eq_true (by first | (with_reducible assumption) | assumption)
        obtain ⟨ad258, e258, hx258_0, hx258_1, hx258_2, hx258_3, hx258_4, hx258_5, hx258_6, hx258_7, hx258_8⟩ := at_T47 HR0.out x5_1 p258 q258
        cases e258
        replace hx258_0 := (HB.out.cell (World.block_lt_of_cell? w _ hx258_0)).trans hx258_0
        replace hx258_1 := (HB.out.cell (World.block_lt_of_cell? w _ hx258_1)).trans hx258_1
        replace hx258_2 := (HB.out.cell (World.block_lt_of_cell? w _ hx258_2)).trans hx258_2
        replace hx258_3 := (HB.out.cell (World.block_lt_of_cell? w _ hx258_3)).trans hx258_3
        replace hx258_4 := (HB.out.cell (World.block_lt_of_cell? w _ hx258_4)).trans hx258_4
        replace hx258_5 := (HB.out.cell (World.block_lt_of_cell? w _ hx258_5)).trans hx258_5
        replace hx258_6 := (HB.out.cell (World.block_lt_of_cell? w _ hx258_6)).trans hx258_6
        replace hx258_7 := (HB.out.cell (World.block_lt_of_cell? w _ hx258_7)).trans hx258_7
        replace hx258_8 := (HB.out.cell (World.block_lt_of_cell? w _ hx258_8)).trans hx258_8
        replace p258 := eq_true p258
        replace q258 := eq_true q258
        have p259 : 0 ≤ (x5_1 : Int) := of_decide_eq_true (by first | (with_reducible assumption) | assumption)
        have q259 : x5_1 < (l0.length : Int) := of_decide_eq_true (by first | (with_reducible assumption) | assumption)
        obtain ⟨ad259, e259, hx259_0, hx259_1, hx259_2, hx259_3, hx259_4, hx259_5, hx259_6, hx259_7, hx259_8⟩ := at_T47 HR0.out x5_1 p259 q259
        obtain rfl : ad258 = ad259 := (by injection e259)
        replace hx259_0 := (HB.out.cell (World.block_lt_of_cell? w _ hx259_0)).trans hx259_0
        replace hx259_1 := (HB.out.cell (World.block_lt_of_cell? w _ hx259_1)).trans hx259_1
        replace hx259_2 := (HB.out.cell (World.block_lt_of_cell? w _ hx259_2)).trans hx259_2
        replace hx259_3 := (HB.out.cell (World.block_lt_of_cell? w _ hx259_3)).trans hx259_3
        replace hx259_4 := (HB.out.cell (World.block_lt_of_cell? w _ hx259_4)).trans hx259_4
        replace hx259_5 := (HB.out.cell (World.block_lt_of_cell? w _ hx259_5)).trans hx259_5
        replace hx259_6 := (HB.out.cell (World.block_lt_of_cell? w _ hx259_6)).trans hx259_6
        replace hx259_7 := (HB.out.cell (World.block_lt_of_cell? w _ hx259_7)).trans hx259_7
        replace hx259_8 := (HB.out.cell (World.block_lt_of_cell? w _ hx259_8)).trans hx259_8
        replace p259 := eq_true p259
        replace q259 := eq_true q259
        go_wp2_with (first | (go_at_call 27; (with_reducible refine (variorumref10_Forced.calls ((rd_T47 l0 x5_1).f0) ((rd_T47 l0 x5_1).f1.f0) ((rd_T47 l0 x5_1).f1.f1) ((rd_T47 l0 x5_1).f1.f2) ((rd_T47 l0 x5_1).f1.f3) ((rd_T47 l0 x5_1).f2) ((rd_T47 l0 x5_1).f3) ((rd_T47 l0 x5_1).f4) ((rd_T47 l0 x5_1).f5) true _ A7.out).mono ?_); rintro e w9 ⟨rfl, hb⟩; have n0_ := Aside0.mk (below_step (by repeat (first | (with_reducible first | exact HB.out | apply below_alloc | apply pw_below_drewN | apply below_drew1) | exact HB.out)) hb); clear HB; have HB := n0_; clear n0_; (try clear hb); (try clear hb2); (try clear hk); (try clear hi)))
        go_ret
        exact ⟨by first | rfl | (simp [errW_none, errW_some] <;> rfl) | (simp [*, errW_none, errW_some] <;> rfl), by repeat (first | (with_reducible first | exact HB.out | apply below_alloc | apply pw_below_drewN | apply below_drew1) | exact HB.out)⟩
       ·replace c8 := Bool.eq_false_iff.mpr c8
        subst c8
        have H1 : (variorumref10_Start.l0 k1 l0 a1 (wrap64 (x5_1 + 1))) = some r := by rw [if_neg (show ¬ (false = true) by decide)] at H; exact H
        clear H
        have H := H1
        clear H1
        have H' := Aside0.mk H
        clear H
        have p258 : 0 ≤ (x5_1 : Int) := of_decide_eq_true (by first | (with_reducible assumption) | assumption)
        have q258 : x5_1 < (l0.length : Int) := of_decide_eq_true (by first | (with_reducible assumption) | assumption)
        obtain ⟨ad258, e258, hx258_0, hx258_1, hx258_2, hx258_3, hx258_4, hx258_5, hx258_6, hx258_7, hx258_8⟩ := at_T47 HR0.out x5_1 p258 q258
        cases e258
        replace hx258_0 := (HB.out.cell (World.block_lt_of_cell? w _ hx258_0)).trans hx258_0
        replace hx258_1 := (HB.out.cell (World.block_lt_of_cell? w _ hx258_1)).trans hx258_1
        replace hx258_2 := (HB.out.cell (World.block_lt_of_cell? w _ hx258_2)).trans hx258_2
        replace hx258_3 := (HB.out.cell (World.block_lt_of_cell? w _ hx258_3)).trans hx258_3
        replace hx258_4 := (HB.out.cell (World.block_lt_of_cell? w _ hx258_4)).trans hx258_4
        replace hx258_5 := (HB.out.cell (World.block_lt_of_cell? w _ hx258_5)).trans hx258_5
        replace hx258_6 := (HB.out.cell (World.block_lt_of_cell? w _ hx258_6)).trans hx258_6
        replace hx258_7 := (HB.out.cell (World.block_lt_of_cell? w _ hx258_7)).trans hx258_7
        replace hx258_8 := (HB.out.cell (World.block_lt_of_cell? w _ hx258_8)).trans hx258_8
        replace p258 := eq_true p258
        replace q258 := eq_true q258
        have p259 : 0 ≤ (x5_1 : Int) := of_decide_eq_true (by first | (with_reducible assumption) | assumption)
        have q259 : x5_1 < (l0.length : Int) := of_decide_eq_true (by first | (with_reducible assumption) | assumption)
        obtain ⟨ad259, e259, hx259_0, hx259_1, hx259_2, hx259_3, hx259_4, hx259_5, hx259_6, hx259_7, hx259_8⟩ := at_T47 HR0.out x5_1 p259 q259
        obtain rfl : ad258 = ad259 := (by injection e259)
        replace hx259_0 := (HB.out.cell (World.block_lt_of_cell? w _ hx259_0)).trans hx259_0
        replace hx259_1 := (HB.out.cell (World.block_lt_of_cell? w _ hx259_1)).trans hx259_1
        replace hx259_2 := (HB.out.cell (World.block_lt_of_cell? w _ hx259_2)).trans hx259_2
        replace hx259_3 := (HB.out.cell (World.block_lt_of_cell? w _ hx259_3)).trans hx259_3
        replace hx259_4 := (HB.out.cell (World.block_lt_of_cell? w _ hx259_4)).trans hx259_4
        replace hx259_5 := (HB.out.cell (World.block_lt_of_cell? w _ hx259_5)).trans hx259_5
        replace hx259_6 := (HB.out.cell (World.block_lt_of_cell? w _ hx259_6)).trans hx259_6
        replace hx259_7 := (HB.out.cell (World.block_lt_of_cell? w _ hx259_7)).trans hx259_7
        replace hx259_8 := (HB.out.cell (World.block_lt_of_cell? w _ hx259_8)).trans hx259_8
        replace p259 := eq_true p259
        replace q259 := eq_true q259
        go_wp2_with (first | (go_at_call 27; (with_reducible refine (variorumref10_Forced.calls ((rd_T47 l0 x5_1).f0) ((rd_T47 l0 x5_1).f1.f0) ((rd_T47 l0 x5_1).f1.f1) ((rd_T47 l0 x5_1).f1.f2) ((rd_T47 l0 x5_1).f1.f3) ((rd_T47 l0 x5_1).f2) ((rd_T47 l0 x5_1).f3) ((rd_T47 l0 x5_1).f4) ((rd_T47 l0 x5_1).f5) false _ A7.out).mono ?_); rintro e w10 ⟨rfl, hb⟩; have n0_ := Aside0.mk (below_step (by repeat (first | (with_reducible first | exact HB.out | apply below_alloc | apply pw_below_drewN | apply below_drew1) | exact HB.out)) hb); clear HB; have HB := n0_; clear n0_; (try clear hb); (try clear hb2); (try clear hk); (try clear hi)))
        go_roundg k1
        case measure => have := HK1.out; omega
        case rel => exact ⟨(wrap64 (x5_1 + 1)), (by first | rfl | (simp; done) | (simp [*]; done)), H', ⟨by have := HK1.out; omega⟩, ⟨by repeat (first | (with_reducible first | exact HB.out | apply below_alloc | apply pw_below_drewN | apply below_drew1) | exact HB.out)⟩⟩
     ·rw [if_neg c5] at H
      exact absurd H (by simp)
    ·rw [if_neg c4] at H
     have c4b0 : decide (a1 < x5_1) = false := decide_eq_false c4
     clear c4
     have H' := Aside0.mk H
     clear H
     go_wp2
     go_roundg k1
     case measure => have := HK1.out; omega
     case rel => exact ⟨(wrap64 (x5_1 + 1)), (by first | rfl | (simp; done) | (simp [*]; done)), H', ⟨by have := HK1.out; omega⟩, ⟨by repeat (first | (with_reducible first | exact HB.out | apply below_alloc | apply pw_below_drewN | apply below_drew1) | exact HB.out)⟩⟩
   ·rw [if_neg c3] at H
    have c3b0 : decide (x5_1 < (l0.length : Int)) = false := decide_eq_false c3
    clear c3
    obtain rfl := Option.some.inj H
    go_wp2
    go_ret
    exact ⟨by first | rfl | (simp [errW_none, errW_some] <;> rfl) | (simp [*, errW_none, errW_some] <;> rfl), by repeat (first | (with_reducible first | exact HB.out | apply below_alloc | apply pw_below_drewN | apply below_drew1) | exact HB.out)⟩

/-! ### variorumref02_Most: function 43 -/
def variorumref02_Most.f  : Option (Int) := some 1073741823
set_option maxHeartbeats 8000000 in
set_option maxRecDepth 100000 in
theorem variorumref02_Most.calls  (r : Int) (w : World) (h : variorumref02_Most.f  = some r) :
  Calls Try.prog 43 #[] w fun e w' => e = .returned (.int .i64 r) ∧ Drawn0 w w' := by
 have H : (some 1073741823) = some r := h
 clear h
 obtain rfl := Option.some.inj H
 go_enter Try.func43, Try.ntmps43
 go_wp2
 go_ret
 exact ⟨by first | rfl | (simp; done) | (simp [*]; done), by repeat (first | exact Drawn0.refl _ | apply Drawn0.step)⟩

/-! ### variorumref02_Fits: function 42 -/
def variorumref02_Fits.f (a0 : Int) : Option (Bool) := (variorumref02_Most.f).bind fun t261 => (if a0 ≥ (wrap64 (-t261)) then ((variorumref02_Most.f).bind fun t262 => (some (decide (a0 ≤ t262)))) else (some false))
set_option maxHeartbeats 8000000 in
set_option maxRecDepth 100000 in
theorem variorumref02_Fits.calls (a0 : Int) (r : Bool) (w : World) (h : variorumref02_Fits.f a0 = some r) :
  Calls Try.prog 42 #[.int .i64 a0] w fun e w' => e = .returned (.bool r) ∧ Drawn0 w w' := by
 have H : ((variorumref02_Most.f).bind fun t261 => (if a0 ≥ (wrap64 (-t261)) then ((variorumref02_Most.f).bind fun t262 => (some (decide (a0 ≤ t262)))) else (some false))) = some r := h
 clear h
 replace H := Option.bind_eq_some_iff.mp H
 obtain ⟨t261, A20, H⟩ := H
 replace H : (if a0 ≥ (wrap64 (-t261)) then ((variorumref02_Most.f).bind fun t262 => (some (decide (a0 ≤ t262)))) else (some false)) = some r := H
 have A2 := Aside0.mk A20
 clear A20
 by_cases c3 : a0 ≥ (wrap64 (-t261))
 ·rw [if_pos c3] at H
  have c3b0 : decide ((wrap64 (-t261)) ≤ a0) = true := decide_eq_true c3
  clear c3
  replace H := Option.bind_eq_some_iff.mp H
  obtain ⟨t262, A40, H⟩ := H
  replace H : (some (decide (a0 ≤ t262))) = some r := H
  have A4 := Aside0.mk A40
  clear A40
  obtain rfl := Option.some.inj H
  go_enter Try.func42, Try.ntmps42
  go_wp2_with (first | ((with_reducible refine gate_callee (f := 43) rfl ?_); refine goesL_ (some 4) rfl rfl Try.func43 (by kernel_rfl) rfl #[] rfl (by (try simp only [List.map_toArray, List.map_cons, List.map_nil]); first | done | rfl | (simp only [List.length_drop, List.length_take]; rfl) | (simp only [*]; first | done | rfl)) ?_; (with_reducible refine (variorumref02_Most.calls  t261 _ A2.out).mono ?_); rintro e w' ⟨rfl, ⟨nd, rfl⟩⟩; refine ⟨_, rfl, ?_⟩) | (go_at_call 43; (with_reducible refine (variorumref02_Most.calls  t262 _ A4.out).mono ?_); rintro e w' ⟨rfl, ⟨nd, rfl⟩⟩))
  go_ret
  exact ⟨by first | rfl | (simp; done) | (simp [*]; done), by repeat (first | exact Drawn0.refl _ | apply Drawn0.step)⟩
 ·rw [if_neg c3] at H
  have c3b0 : decide ((wrap64 (-t261)) ≤ a0) = false := decide_eq_false c3
  clear c3
  obtain rfl := Option.some.inj H
  go_enter Try.func42, Try.ntmps42
  go_wp2_with (first | ((with_reducible refine gate_callee (f := 43) rfl ?_); refine goesL_ (some 4) rfl rfl Try.func43 (by kernel_rfl) rfl #[] rfl (by (try simp only [List.map_toArray, List.map_cons, List.map_nil]); first | done | rfl | (simp only [List.length_drop, List.length_take]; rfl) | (simp only [*]; first | done | rfl)) ?_; (with_reducible refine (variorumref02_Most.calls  t261 _ A2.out).mono ?_); rintro e w' ⟨rfl, ⟨nd, rfl⟩⟩; refine ⟨_, rfl, ?_⟩))
  go_ret
  exact ⟨by first | rfl | (simp; done) | (simp [*]; done), by repeat (first | exact Drawn0.refl _ | apply Drawn0.step)⟩

/-! ### variorumref03_May: function 40 -/
mutual
def variorumref03_May.l0 : Nat → List (S45) → Int → Int → Int → Int → Option (Bool)
 | 0, _, _, _, _, _ => none
 | k + 1, x0, x3, x4, x5, x6 => if x6 < (x0.length : Int) then (if 0 ≤ x6 then ((variorumref02_Fits.f ((rd_T45 x0 x6).f0)).bind fun t268 => (if t268 = true then (if ((rd_T45 x0 x6).f1) < 0 then (variorumref03_May.j1 k x0 x3 x4 x5 x6 true ((rd_T45 x0 x6).f0) ((rd_T45 x0 x6).f1) ((rd_T45 x0 x6).f2) ((rd_T45 x0 x6).f3)) else ((variorumref02_Fits.f ((rd_T45 x0 x6).f1)).bind fun t269 => (if t269 = true then (if ((rd_T45 x0 x6).f2) < 0 then (variorumref03_May.j1 k x0 x3 x4 x5 x6 true ((rd_T45 x0 x6).f0) ((rd_T45 x0 x6).f1) ((rd_T45 x0 x6).f2) ((rd_T45 x0 x6).f3)) else ((variorumref02_Fits.f ((rd_T45 x0 x6).f2)).bind fun t270 => (if t270 = true then (if ((rd_T45 x0 x6).f3) < 0 then (variorumref03_May.j1 k x0 x3 x4 x5 x6 true ((rd_T45 x0 x6).f0) ((rd_T45 x0 x6).f1) ((rd_T45 x0 x6).f2) ((rd_T45 x0 x6).f3)) else (variorumref03_May.j1 k x0 x3 x4 x5 x6 (decide (((rd_T45 x0 x6).f3) > 3)) ((rd_T45 x0 x6).f0) ((rd_T45 x0 x6).f1) ((rd_T45 x0 x6).f2) ((rd_T45 x0 x6).f3))) else (variorumref03_May.j1 k x0 x3 x4 x5 x6 true ((rd_T45 x0 x6).f0) ((rd_T45 x0 x6).f1) ((rd_T45 x0 x6).f2) ((rd_T45 x0 x6).f3))))) else (variorumref03_May.j1 k x0 x3 x4 x5 x6 true ((rd_T45 x0 x6).f0) ((rd_T45 x0 x6).f1) ((rd_T45 x0 x6).f2) ((rd_T45 x0 x6).f3))))) else (variorumref03_May.j1 k x0 x3 x4 x5 x6 true ((rd_T45 x0 x6).f0) ((rd_T45 x0 x6).f1) ((rd_T45 x0 x6).f2) ((rd_T45 x0 x6).f3)))) else (none)) else ((variorumref02_Fits.f x3).bind fun t263 => (if t263 = true then ((variorumref02_Fits.f x4).bind fun t264 => (if t264 = true then ((variorumref02_Fits.f x5).bind fun t265 => (some t265)) else (some false))) else (some false)))
def variorumref03_May.j1 : Nat → List (S45) → Int → Int → Int → Int → Bool → Int → Int → Int → Int → Option (Bool)
 | 0, _, _, _, _, _, _, _, _, _, _ => none
 | k + 1, x0, x3, x4, x5, x6, x56, x268000, x268001, x268002, x268003 => if x56 = true then (some false) else (if x268000 < 0 then (variorumref03_May.l0 k x0 (wrap64 (x3 - x268000)) (wrap64 (x4 + x268001)) (wrap64 (x5 + x268002)) (wrap64 (x6 + 1))) else (variorumref03_May.l0 k x0 (wrap64 (x3 + x268000)) (wrap64 (x4 + x268001)) (wrap64 (x5 + x268002)) (wrap64 (x6 + 1))))
end
def variorumref03_May.f (k : Nat) (l0 : List (S45)) : Option (Bool) := if (l0.length : Int) > 2000 then (some false) else (variorumref03_May.l0 k l0 0 0 0 0)
theorem variorumref03_May.mono_l : ∀ k, (∀ y0 y1 y2 y3 y4, LeO (variorumref03_May.l0 k y0 y1 y2 y3 y4) (variorumref03_May.l0 (k + 1) y0 y1 y2 y3 y4)) ∧ (∀ y0 y1 y2 y3 y4 y5 y6 y7 y8 y9, LeO (variorumref03_May.j1 k y0 y1 y2 y3 y4 y5 y6 y7 y8 y9) (variorumref03_May.j1 (k + 1) y0 y1 y2 y3 y4 y5 y6 y7 y8 y9))
 | 0 => ⟨fun _ _ _ _ _ r h => by simp [variorumref03_May.l0] at h, fun _ _ _ _ _ _ _ _ _ _ r h => by simp [variorumref03_May.j1] at h⟩
 | k + 1 => by
  obtain ⟨ih0, ih1⟩ := variorumref03_May.mono_l k
  refine ⟨?_, ?_⟩
  ·intro y0 y1 y2 y3 y4
   unfold variorumref03_May.l0
   repeat' first
   | (with_reducible exact ih0 _ _ _ _ _)
   | (with_reducible exact ih1 _ _ _ _ _ _ _ _ _ _)
   | (with_reducible exact LeO.refl _)
   | (with_reducible exact LeO.none _)
   | (with_reducible refine LeO.ite ?_ ?_)
   | (with_reducible refine LeO.bind ?_ (fun _ => ?_))
   | exact ih0 _ _ _ _ _
   | exact ih1 _ _ _ _ _ _ _ _ _ _
   | exact LeO.none _
   | refine LeO.ite ?_ ?_
   | refine LeO.bind ?_ (fun _ => ?_)
  ·intro y0 y1 y2 y3 y4 y5 y6 y7 y8 y9
   unfold variorumref03_May.j1
   repeat' first
   | (with_reducible exact ih0 _ _ _ _ _)
   | (with_reducible exact ih1 _ _ _ _ _ _ _ _ _ _)
   | (with_reducible exact LeO.refl _)
   | (with_reducible exact LeO.none _)
   | (with_reducible refine LeO.ite ?_ ?_)
   | (with_reducible refine LeO.bind ?_ (fun _ => ?_))
   | exact ih0 _ _ _ _ _
   | exact ih1 _ _ _ _ _ _ _ _ _ _
   | exact LeO.none _
   | refine LeO.ite ?_ ?_
   | refine LeO.bind ?_ (fun _ => ?_)
theorem variorumref03_May.mono : ∀ a0 k, LeO (variorumref03_May.f k a0) (variorumref03_May.f (k + 1) a0) := by
 intro a0 k
 obtain ⟨ih0, ih1⟩ := variorumref03_May.mono_l k
 unfold variorumref03_May.f
 repeat' first
   | (with_reducible exact ih0 _ _ _ _ _)
   | (with_reducible exact ih1 _ _ _ _ _ _ _ _ _ _)
   | (with_reducible exact LeO.refl _)
   | (with_reducible exact LeO.none _)
   | (with_reducible refine LeO.ite ?_ ?_)
   | (with_reducible refine LeO.bind ?_ (fun _ => ?_))
   | exact ih0 _ _ _ _ _
   | exact ih1 _ _ _ _ _ _ _ _ _ _
   | exact LeO.none _
   | refine LeO.ite ?_ ?_
   | refine LeO.bind ?_ (fun _ => ?_)
set_option maxHeartbeats 8000000 in
set_option maxRecDepth 100000 in
theorem variorumref03_May.calls (k : Nat) (A0 : Option Addr) (c0 : Nat) (l0 : List (S45)) (r : Bool) (w : World) (hr0 : Kd.C k45 w A0 l0.length l0) (hc0 : l0.length ≤ c0) (h : variorumref03_May.f k l0 = some r) :
  Calls Try.prog 40 #[.slice A0 l0.length c0] w fun e w' => e = .returned (.bool r) ∧ Below w.heap.size w w' := by
 have hu45 := Try.underlying45
 have HR0 := Aside0.mk hr0
 have HC0 := Aside0.mk hc0
 clear hr0 hc0
 have HB := Aside0.mk (Below.refl w.heap.size w)
 have H : (if (l0.length : Int) > 2000 then (some false) else (variorumref03_May.l0 k l0 0 0 0 0)) = some r := h
 clear h
 by_cases c2 : (l0.length : Int) > 2000
 ·rw [if_pos c2] at H
  have c2b0 : decide (2000 < (l0.length : Int)) = true := decide_eq_true c2
  have c2b1 : decide (2000 < l0.length) = true := decide_eq_true (by omega)
  clear c2
  obtain rfl := Option.some.inj H
  go_enter Try.func40, Try.ntmps40
  go_wp2
  go_ret
  exact ⟨by first | rfl | (simp [errW_none, errW_some] <;> rfl) | (simp [*, errW_none, errW_some] <;> rfl), by repeat (first | (with_reducible first | exact HB.out | apply below_alloc | apply pw_below_drewN | apply below_drew1) | exact HB.out)⟩
 ·rw [if_neg c2] at H
  have c2b0 : decide (2000 < (l0.length : Int)) = false := decide_eq_false c2
  have c2b1 : decide (2000 < l0.length) = false := decide_eq_false (by omega)
  clear c2
  have H' := Aside0.mk H
  clear H
  go_enter Try.func40, Try.ntmps40
  go_wp2
  go_loopg [3, 4, 5, 6] k (fun kq v3 v4 v5 v6 w' => ∃ (x3_1 : Int) (x4_1 : Int) (x5_1 : Int) (x6_1 : Int), v3 = .int .i64 x3_1 ∧ v4 = .int .i64 x4_1 ∧ v5 = .int .i64 x5_1 ∧ v6 = .int .i64 x6_1 ∧ Aside0 (variorumref03_May.l0 kq l0 x3_1 x4_1 x5_1 x6_1 = some r) ∧ Aside0 (kq ≤ k) ∧ Aside0 (Below w.heap.size w w'))
  case atStart => exact ⟨(0), (0), (0), (0), (by first | rfl | (simp; done) | (simp [*]; done)), (by first | rfl | (simp; done) | (simp [*]; done)), (by first | rfl | (simp; done) | (simp [*]; done)), (by first | rfl | (simp; done) | (simp [*]; done)), H', ⟨Nat.le_refl _⟩, ⟨by repeat (first | (with_reducible first | exact HB.out | apply below_alloc | apply pw_below_drewN | apply below_drew1) | exact HB.out)⟩⟩
  case round =>
   clear H'
   try clear c2
   try clear c2b0
   try clear c2b1
   try clear p2
   obtain ⟨x3_1, x4_1, x5_1, x6_1, rfl, rfl, rfl, rfl, HA, HK1, HB⟩ := hrel
   cases gk with
   | zero => exact absurd HA.out (by simp [variorumref03_May.l0])
   | succ k1 =>
    have H := HA.out
    clear HA
    simp only [variorumref03_May.l0] at H
    by_cases c3 : x6_1 < (l0.length : Int)
    ·rw [if_pos c3] at H
     have c3b0 : decide (x6_1 < (l0.length : Int)) = true := decide_eq_true c3
     clear c3
     by_cases c4 : 0 ≤ x6_1
     ·rw [if_pos c4] at H
      have c4b0 : decide (0 ≤ x6_1) = true := decide_eq_true c4
      clear c4
      have HC5 := Aside0.mk H
      clear H
      have p266 : 0 ≤ (x6_1 : Int) := of_decide_eq_true (by first | (with_reducible assumption) | assumption)
      have q266 : x6_1 < (l0.length : Int) := of_decide_eq_true (by first | (with_reducible assumption) | assumption)
      obtain ⟨ad266, e266, hx266_0, hx266_1, hx266_2, hx266_3⟩ := at_T45 HR0.out x6_1 p266 q266
      cases e266
      replace hx266_0 := (HB.out.cell (World.block_lt_of_cell? w _ hx266_0)).trans hx266_0
      replace hx266_1 := (HB.out.cell (World.block_lt_of_cell? w _ hx266_1)).trans hx266_1
      replace hx266_2 := (HB.out.cell (World.block_lt_of_cell? w _ hx266_2)).trans hx266_2
      replace hx266_3 := (HB.out.cell (World.block_lt_of_cell? w _ hx266_3)).trans hx266_3
      replace p266 := eq_true p266
      replace q266 := eq_true q266
      go_upto_region 8 with (first | ((with_reducible refine gate_dst (N := 7) rfl ?_); refine box_event ?hg (N := 7) ?hd (cs := #[.int .i64 0, .int .i64 0, .int .i64 0, .int .i64 0]) (t := 45) ?hr ?_; (case hd => rfl); (case hg => rfl); (case hr => first | (go_simp; done) | (go_simp; rfl)); intro gb267 hg w6 hbox hb; have n0_ := Aside0.mk (below_step (by repeat (first | (with_reducible first | exact HB.out | apply below_alloc | apply pw_below_drewN | apply below_drew1) | exact HB.out)) hb); have n1_ := Aside0.mk (hbox); have n2_ := Aside0.mk ((by rw [hg]; exact (below_size (by repeat (first | (with_reducible first | exact HB.out | apply below_alloc | apply pw_below_drewN | apply below_drew1) | exact HB.out))) : w.heap.size ≤ gb267)); have n3_ := Aside0.mk ((by rw [hg]; exact (below_size (by repeat (first | (with_reducible first | exact HB.out | apply below_alloc | apply pw_below_drewN | apply below_drew1) | exact HB.out))) : w.heap.size ≤ gb267)); clear HB; have HB := n0_; have BK267 := n1_; have GW267 := n2_; have GE267 := n3_; clear n0_ n1_ n2_ n3_; clear hb hbox hg; have hcz7_0 : w6.cell? ⟨gb267, 0, none⟩ = some (.int .i64 0) := (blk_cell BK267.out 0).trans rfl; have hcz7_1 : w6.cell? ⟨gb267, 1, none⟩ = some (.int .i64 0) := (blk_cell BK267.out 1).trans rfl; have hcz7_2 : w6.cell? ⟨gb267, 2, none⟩ = some (.int .i64 0) := (blk_cell BK267.out 2).trans rfl; have hcz7_3 : w6.cell? ⟨gb267, 3, none⟩ = some (.int .i64 0) := (blk_cell BK267.out 3).trans rfl; have hfz7_0 := blk_frozen BK267.out 0; have hfz7_1 := blk_frozen BK267.out 1; have hfz7_2 := blk_frozen BK267.out 2; have hfz7_3 := blk_frozen BK267.out 3))
      (try simp only [Act.put, List.setIfInBounds_toArray, List.set_cons_zero, List.set_cons_succ])
      go_cut [56] (fun v56 wc => ∃ (kq : Nat) (x56_4 : Bool), v56 = .bool x56_4 ∧ Aside0 (variorumref03_May.j1 kq l0 x3_1 x4_1 x5_1 x6_1 x56_4 ((rd_T45 l0 x6_1).f0) ((rd_T45 l0 x6_1).f1) ((rd_T45 l0 x6_1).f2) ((rd_T45 l0 x6_1).f3) = some r) ∧ Aside0 (kq ≤ k1) ∧ Aside0 (wc.heap[gb267]? = some (.cells #[.int .i64 ((rd_T45 l0 x6_1).f0), .int .i64 ((rd_T45 l0 x6_1).f1), .int .i64 ((rd_T45 l0 x6_1).f2), .int .i64 ((rd_T45 l0 x6_1).f3)] 45 (0, 0))) ∧ Aside0 (Below w.heap.size w wc))
      case first =>
       have H := HC5.out
       clear HC5
       replace H := Option.bind_eq_some_iff.mp H
       obtain ⟨t268, A80, H⟩ := H
       replace H : (if t268 = true then (if ((rd_T45 l0 x6_1).f1) < 0 then (variorumref03_May.j1 k1 l0 x3_1 x4_1 x5_1 x6_1 true ((rd_T45 l0 x6_1).f0) ((rd_T45 l0 x6_1).f1) ((rd_T45 l0 x6_1).f2) ((rd_T45 l0 x6_1).f3)) else ((variorumref02_Fits.f ((rd_T45 l0 x6_1).f1)).bind fun t269 => (if t269 = true then (if ((rd_T45 l0 x6_1).f2) < 0 then (variorumref03_May.j1 k1 l0 x3_1 x4_1 x5_1 x6_1 true ((rd_T45 l0 x6_1).f0) ((rd_T45 l0 x6_1).f1) ((rd_T45 l0 x6_1).f2) ((rd_T45 l0 x6_1).f3)) else ((variorumref02_Fits.f ((rd_T45 l0 x6_1).f2)).bind fun t270 => (if t270 = true then (if ((rd_T45 l0 x6_1).f3) < 0 then (variorumref03_May.j1 k1 l0 x3_1 x4_1 x5_1 x6_1 true ((rd_T45 l0 x6_1).f0) ((rd_T45 l0 x6_1).f1) ((rd_T45 l0 x6_1).f2) ((rd_T45 l0 x6_1).f3)) else (variorumref03_May.j1 k1 l0 x3_1 x4_1 x5_1 x6_1 (decide (((rd_T45 l0 x6_1).f3) > 3)) ((rd_T45 l0 x6_1).f0) ((rd_T45 l0 x6_1).f1) ((rd_T45 l0 x6_1).f2) ((rd_T45 l0 x6_1).f3))) else (variorumref03_May.j1 k1 l0 x3_1 x4_1 x5_1 x6_1 true ((rd_T45 l0 x6_1).f0) ((rd_T45 l0 x6_1).f1) ((rd_T45 l0 x6_1).f2) ((rd_T45 l0 x6_1).f3))))) else (variorumref03_May.j1 k1 l0 x3_1 x4_1 x5_1 x6_1 true ((rd_T45 l0 x6_1).f0) ((rd_T45 l0 x6_1).f1) ((rd_T45 l0 x6_1).f2) ((rd_T45 l0 x6_1).f3))))) else (variorumref03_May.j1 k1 l0 x3_1 x4_1 x5_1 x6_1 true ((rd_T45 l0 x6_1).f0) ((rd_T45 l0 x6_1).f1) ((rd_T45 l0 x6_1).f2) ((rd_T45 l0 x6_1).f3))) = some r := H
       have A8 := Aside0.mk A80
       clear A80
       by_cases c9 : t268 = true
       ·subst c9
        have H1 : (if ((rd_T45 l0 x6_1).f1) < 0 then (variorumref03_May.j1 k1 l0 x3_1 x4_1 x5_1 x6_1 true ((rd_T45 l0 x6_1).f0) ((rd_T45 l0 x6_1).f1) ((rd_T45 l0 x6_1).f2) ((rd_T45 l0 x6_1).f3)) else ((variorumref02_Fits.f ((rd_T45 l0 x6_1).f1)).bind fun t269 => (if t269 = true then (if ((rd_T45 l0 x6_1).f2) < 0 then (variorumref03_May.j1 k1 l0 x3_1 x4_1 x5_1 x6_1 true ((rd_T45 l0 x6_1).f0) ((rd_T45 l0 x6_1).f1) ((rd_T45 l0 x6_1).f2) ((rd_T45 l0 x6_1).f3)) else ((variorumref02_Fits.f ((rd_T45 l0 x6_1).f2)).bind fun t270 => (if t270 = true then (if ((rd_T45 l0 x6_1).f3) < 0 then (variorumref03_May.j1 k1 l0 x3_1 x4_1 x5_1 x6_1 true ((rd_T45 l0 x6_1).f0) ((rd_T45 l0 x6_1).f1) ((rd_T45 l0 x6_1).f2) ((rd_T45 l0 x6_1).f3)) else (variorumref03_May.j1 k1 l0 x3_1 x4_1 x5_1 x6_1 (decide (((rd_T45 l0 x6_1).f3) > 3)) ((rd_T45 l0 x6_1).f0) ((rd_T45 l0 x6_1).f1) ((rd_T45 l0 x6_1).f2) ((rd_T45 l0 x6_1).f3))) else (variorumref03_May.j1 k1 l0 x3_1 x4_1 x5_1 x6_1 true ((rd_T45 l0 x6_1).f0) ((rd_T45 l0 x6_1).f1) ((rd_T45 l0 x6_1).f2) ((rd_T45 l0 x6_1).f3))))) else (variorumref03_May.j1 k1 l0 x3_1 x4_1 x5_1 x6_1 true ((rd_T45 l0 x6_1).f0) ((rd_T45 l0 x6_1).f1) ((rd_T45 l0 x6_1).f2) ((rd_T45 l0 x6_1).f3))))) = some r := by rw [if_pos rfl] at H; exact H
        clear H
        have H := H1
        clear H1
        by_cases c10 : ((rd_T45 l0 x6_1).f1) < 0
        ·rw [if_pos c10] at H
         have c10b0 : decide (((rd_T45 l0 x6_1).f1) < 0) = true := decide_eq_true c10
         clear c10
         (first | rw [c10b0] | (simp only [i64_w, i32_w]; rw [c10b0]) | skip)
         have H' := Aside0.mk H
         clear H
         have hcz11_0 : w6.cell? ⟨gb267, 0, none⟩ = some (.int .i64 0) := (blk_cell BK267.out 0).trans rfl
         have hcz11_1 : w6.cell? ⟨gb267, 1, none⟩ = some (.int .i64 0) := (blk_cell BK267.out 1).trans rfl
         have hcz11_2 : w6.cell? ⟨gb267, 2, none⟩ = some (.int .i64 0) := (blk_cell BK267.out 2).trans rfl
         have hcz11_3 : w6.cell? ⟨gb267, 3, none⟩ = some (.int .i64 0) := (blk_cell BK267.out 3).trans rfl
         have hfz11_0 := blk_frozen BK267.out 0
         have hfz11_1 := blk_frozen BK267.out 1
         have hfz11_2 := blk_frozen BK267.out 2
         have hfz11_3 := blk_frozen BK267.out 3
         go_wp2_with (first | ((with_reducible refine gate_callee (f := 42) rfl ?_); refine goesL_ (some 23) rfl rfl Try.func42 (by kernel_rfl) rfl #[.int .i64 ((rd_T45 l0 x6_1).f0)] rfl (by (try simp only [List.map_toArray, List.map_cons, List.map_nil]); first | done | rfl | (simp only [List.length_drop, List.length_take]; rfl) | (simp only [*]; first | done | rfl)) ?_; (with_reducible refine (variorumref02_Fits.calls ((rd_T45 l0 x6_1).f0) true _ A8.out).mono ?_); rintro e w' ⟨rfl, ⟨nd, rfl⟩⟩; refine ⟨_, rfl, ?_⟩))
         go_meet
         case rel => exact ⟨_, (true), (by first | rfl | (simp; done) | (simp [*]; done)), H', ⟨by have := HK1.out; first | omega | exact Nat.le_refl _⟩, ⟨by (with_reducible repeat (first | refine blk_drewN ?_ _ | refine blk_drew ?_ | refine blk_alloc ?_ _)); refine blk_put (cs := #[.int .i64 ((rd_T45 l0 x6_1).f0), .int .i64 ((rd_T45 l0 x6_1).f1), .int .i64 ((rd_T45 l0 x6_1).f2), .int .i64 0]) ?_ 3 _ rfl; (with_reducible repeat (first | refine blk_drewN ?_ _ | refine blk_drew ?_ | refine blk_alloc ?_ _)); refine blk_put (cs := #[.int .i64 ((rd_T45 l0 x6_1).f0), .int .i64 ((rd_T45 l0 x6_1).f1), .int .i64 0, .int .i64 0]) ?_ 2 _ rfl; (with_reducible repeat (first | refine blk_drewN ?_ _ | refine blk_drew ?_ | refine blk_alloc ?_ _)); refine blk_put (cs := #[.int .i64 ((rd_T45 l0 x6_1).f0), .int .i64 0, .int .i64 0, .int .i64 0]) ?_ 1 _ rfl; (with_reducible repeat (first | refine blk_drewN ?_ _ | refine blk_drew ?_ | refine blk_alloc ?_ _)); refine blk_put (cs := #[.int .i64 0, .int .i64 0, .int .i64 0, .int .i64 0]) ?_ 0 _ rfl; (with_reducible repeat (first | refine blk_drewN ?_ _ | refine blk_drew ?_ | refine blk_alloc ?_ _)); exact BK267.out⟩, ⟨by repeat (first | (with_reducible first | exact HB.out | apply below_alloc | apply pw_below_drewN | apply below_drew1 | refine below_set ?_ GE267.out) | exact HB.out)⟩⟩
        ·rw [if_neg c10] at H
         have c10b0 : decide (((rd_T45 l0 x6_1).f1) < 0) = false := decide_eq_false c10
         clear c10
         (first | rw [c10b0] | (simp only [i64_w, i32_w]; rw [c10b0]) | skip)
         replace H := Option.bind_eq_some_iff.mp H
         obtain ⟨t269, A120, H⟩ := H
         replace H : (if t269 = true then (if ((rd_T45 l0 x6_1).f2) < 0 then (variorumref03_May.j1 k1 l0 x3_1 x4_1 x5_1 x6_1 true ((rd_T45 l0 x6_1).f0) ((rd_T45 l0 x6_1).f1) ((rd_T45 l0 x6_1).f2) ((rd_T45 l0 x6_1).f3)) else ((variorumref02_Fits.f ((rd_T45 l0 x6_1).f2)).bind fun t270 => (if t270 = true then (if ((rd_T45 l0 x6_1).f3) < 0 then (variorumref03_May.j1 k1 l0 x3_1 x4_1 x5_1 x6_1 true ((rd_T45 l0 x6_1).f0) ((rd_T45 l0 x6_1).f1) ((rd_T45 l0 x6_1).f2) ((rd_T45 l0 x6_1).f3)) else (variorumref03_May.j1 k1 l0 x3_1 x4_1 x5_1 x6_1 (decide (((rd_T45 l0 x6_1).f3) > 3)) ((rd_T45 l0 x6_1).f0) ((rd_T45 l0 x6_1).f1) ((rd_T45 l0 x6_1).f2) ((rd_T45 l0 x6_1).f3))) else (variorumref03_May.j1 k1 l0 x3_1 x4_1 x5_1 x6_1 true ((rd_T45 l0 x6_1).f0) ((rd_T45 l0 x6_1).f1) ((rd_T45 l0 x6_1).f2) ((rd_T45 l0 x6_1).f3))))) else (variorumref03_May.j1 k1 l0 x3_1 x4_1 x5_1 x6_1 true ((rd_T45 l0 x6_1).f0) ((rd_T45 l0 x6_1).f1) ((rd_T45 l0 x6_1).f2) ((rd_T45 l0 x6_1).f3))) = some r := H
         have A12 := Aside0.mk A120
         clear A120
         by_cases c13 : t269 = true
         ·subst c13
          have H1 : (if ((rd_T45 l0 x6_1).f2) < 0 then (variorumref03_May.j1 k1 l0 x3_1 x4_1 x5_1 x6_1 true ((rd_T45 l0 x6_1).f0) ((rd_T45 l0 x6_1).f1) ((rd_T45 l0 x6_1).f2) ((rd_T45 l0 x6_1).f3)) else ((variorumref02_Fits.f ((rd_T45 l0 x6_1).f2)).bind fun t270 => (if t270 = true then (if ((rd_T45 l0 x6_1).f3) < 0 then (variorumref03_May.j1 k1 l0 x3_1 x4_1 x5_1 x6_1 true ((rd_T45 l0 x6_1).f0) ((rd_T45 l0 x6_1).f1) ((rd_T45 l0 x6_1).f2) ((rd_T45 l0 x6_1).f3)) else (variorumref03_May.j1 k1 l0 x3_1 x4_1 x5_1 x6_1 (decide (((rd_T45 l0 x6_1).f3) > 3)) ((rd_T45 l0 x6_1).f0) ((rd_T45 l0 x6_1).f1) ((rd_T45 l0 x6_1).f2) ((rd_T45 l0 x6_1).f3))) else (variorumref03_May.j1 k1 l0 x3_1 x4_1 x5_1 x6_1 true ((rd_T45 l0 x6_1).f0) ((rd_T45 l0 x6_1).f1) ((rd_T45 l0 x6_1).f2) ((rd_T45 l0 x6_1).f3))))) = some r := by rw [if_pos rfl] at H; exact H
          clear H
          have H := H1
          clear H1
          by_cases c14 : ((rd_T45 l0 x6_1).f2) < 0
          ·rw [if_pos c14] at H
           have c14b0 : decide (((rd_T45 l0 x6_1).f2) < 0) = true := decide_eq_true c14
           clear c14
           have H' := Aside0.mk H
           clear H
           have hcz15_0 : w6.cell? ⟨gb267, 0, none⟩ = some (.int .i64 0) := (blk_cell BK267.out 0).trans rfl
           have hcz15_1 : w6.cell? ⟨gb267, 1, none⟩ = some (.int .i64 0) := (blk_cell BK267.out 1).trans rfl
           have hcz15_2 : w6.cell? ⟨gb267, 2, none⟩ = some (.int .i64 0) := (blk_cell BK267.out 2).trans rfl
           have hcz15_3 : w6.cell? ⟨gb267, 3, none⟩ = some (.int .i64 0) := (blk_cell BK267.out 3).trans rfl
           have hfz15_0 := blk_frozen BK267.out 0
           have hfz15_1 := blk_frozen BK267.out 1
           have hfz15_2 := blk_frozen BK267.out 2
           have hfz15_3 := blk_frozen BK267.out 3
           go_wp2_with (first | ((with_reducible refine gate_callee (f := 42) rfl ?_); refine goesL_ (some 23) rfl rfl Try.func42 (by kernel_rfl) rfl #[.int .i64 ((rd_T45 l0 x6_1).f0)] rfl (by (try simp only [List.map_toArray, List.map_cons, List.map_nil]); first | done | rfl | (simp only [List.length_drop, List.length_take]; rfl) | (simp only [*]; first | done | rfl)) ?_; (with_reducible refine (variorumref02_Fits.calls ((rd_T45 l0 x6_1).f0) true _ A8.out).mono ?_); rintro e w' ⟨rfl, ⟨nd, rfl⟩⟩; refine ⟨_, rfl, ?_⟩) | (go_at_call 42; (with_reducible refine (variorumref02_Fits.calls ((rd_T45 l0 x6_1).f1) true _ A12.out).mono ?_); rintro e w' ⟨rfl, ⟨nd, rfl⟩⟩))
           go_meet
           case rel => exact ⟨_, (true), (by first | rfl | (simp; done) | (simp [*]; done)), H', ⟨by have := HK1.out; first | omega | exact Nat.le_refl _⟩, ⟨by (with_reducible repeat (first | refine blk_drewN ?_ _ | refine blk_drew ?_ | refine blk_alloc ?_ _)); refine blk_put (cs := #[.int .i64 ((rd_T45 l0 x6_1).f0), .int .i64 ((rd_T45 l0 x6_1).f1), .int .i64 ((rd_T45 l0 x6_1).f2), .int .i64 0]) ?_ 3 _ rfl; (with_reducible repeat (first | refine blk_drewN ?_ _ | refine blk_drew ?_ | refine blk_alloc ?_ _)); refine blk_put (cs := #[.int .i64 ((rd_T45 l0 x6_1).f0), .int .i64 ((rd_T45 l0 x6_1).f1), .int .i64 0, .int .i64 0]) ?_ 2 _ rfl; (with_reducible repeat (first | refine blk_drewN ?_ _ | refine blk_drew ?_ | refine blk_alloc ?_ _)); refine blk_put (cs := #[.int .i64 ((rd_T45 l0 x6_1).f0), .int .i64 0, .int .i64 0, .int .i64 0]) ?_ 1 _ rfl; (with_reducible repeat (first | refine blk_drewN ?_ _ | refine blk_drew ?_ | refine blk_alloc ?_ _)); refine blk_put (cs := #[.int .i64 0, .int .i64 0, .int .i64 0, .int .i64 0]) ?_ 0 _ rfl; (with_reducible repeat (first | refine blk_drewN ?_ _ | refine blk_drew ?_ | refine blk_alloc ?_ _)); exact BK267.out⟩, ⟨by repeat (first | (with_reducible first | exact HB.out | apply below_alloc | apply pw_below_drewN | apply below_drew1 | refine below_set ?_ GE267.out) | exact HB.out)⟩⟩
          ·rw [if_neg c14] at H
           have c14b0 : decide (((rd_T45 l0 x6_1).f2) < 0) = false := decide_eq_false c14
           clear c14
           replace H := Option.bind_eq_some_iff.mp H
           obtain ⟨t270, A160, H⟩ := H
           replace H : (if t270 = true then (if ((rd_T45 l0 x6_1).f3) < 0 then (variorumref03_May.j1 k1 l0 x3_1 x4_1 x5_1 x6_1 true ((rd_T45 l0 x6_1).f0) ((rd_T45 l0 x6_1).f1) ((rd_T45 l0 x6_1).f2) ((rd_T45 l0 x6_1).f3)) else (variorumref03_May.j1 k1 l0 x3_1 x4_1 x5_1 x6_1 (decide (((rd_T45 l0 x6_1).f3) > 3)) ((rd_T45 l0 x6_1).f0) ((rd_T45 l0 x6_1).f1) ((rd_T45 l0 x6_1).f2) ((rd_T45 l0 x6_1).f3))) else (variorumref03_May.j1 k1 l0 x3_1 x4_1 x5_1 x6_1 true ((rd_T45 l0 x6_1).f0) ((rd_T45 l0 x6_1).f1) ((rd_T45 l0 x6_1).f2) ((rd_T45 l0 x6_1).f3))) = some r := H
           have A16 := Aside0.mk A160
           clear A160
           by_cases c17 : t270 = true
           ·subst c17
            have H1 : (if ((rd_T45 l0 x6_1).f3) < 0 then (variorumref03_May.j1 k1 l0 x3_1 x4_1 x5_1 x6_1 true ((rd_T45 l0 x6_1).f0) ((rd_T45 l0 x6_1).f1) ((rd_T45 l0 x6_1).f2) ((rd_T45 l0 x6_1).f3)) else (variorumref03_May.j1 k1 l0 x3_1 x4_1 x5_1 x6_1 (decide (((rd_T45 l0 x6_1).f3) > 3)) ((rd_T45 l0 x6_1).f0) ((rd_T45 l0 x6_1).f1) ((rd_T45 l0 x6_1).f2) ((rd_T45 l0 x6_1).f3))) = some r := by rw [if_pos rfl] at H; exact H
            clear H
            have H := H1
            clear H1
            by_cases c18 : ((rd_T45 l0 x6_1).f3) < 0
            ·rw [if_pos c18] at H
             have c18b0 : decide (((rd_T45 l0 x6_1).f3) < 0) = true := decide_eq_true c18
             clear c18
             have H' := Aside0.mk H
             clear H
             have hcz19_0 : w6.cell? ⟨gb267, 0, none⟩ = some (.int .i64 0) := (blk_cell BK267.out 0).trans rfl
             have hcz19_1 : w6.cell? ⟨gb267, 1, none⟩ = some (.int .i64 0) := (blk_cell BK267.out 1).trans rfl
             have hcz19_2 : w6.cell? ⟨gb267, 2, none⟩ = some (.int .i64 0) := (blk_cell BK267.out 2).trans rfl
             have hcz19_3 : w6.cell? ⟨gb267, 3, none⟩ = some (.int .i64 0) := (blk_cell BK267.out 3).trans rfl
             have hfz19_0 := blk_frozen BK267.out 0
             have hfz19_1 := blk_frozen BK267.out 1
             have hfz19_2 := blk_frozen BK267.out 2
             have hfz19_3 := blk_frozen BK267.out 3
             go_wp2_with (first | ((with_reducible refine gate_callee (f := 42) rfl ?_); refine goesL_ (some 23) rfl rfl Try.func42 (by kernel_rfl) rfl #[.int .i64 ((rd_T45 l0 x6_1).f0)] rfl (by (try simp only [List.map_toArray, List.map_cons, List.map_nil]); first | done | rfl | (simp only [List.length_drop, List.length_take]; rfl) | (simp only [*]; first | done | rfl)) ?_; (with_reducible refine (variorumref02_Fits.calls ((rd_T45 l0 x6_1).f0) true _ A8.out).mono ?_); rintro e w' ⟨rfl, ⟨nd, rfl⟩⟩; refine ⟨_, rfl, ?_⟩) | (go_at_call 42; (with_reducible refine (variorumref02_Fits.calls ((rd_T45 l0 x6_1).f1) true _ A12.out).mono ?_); rintro e w' ⟨rfl, ⟨nd, rfl⟩⟩) | (go_at_call 42; (with_reducible refine (variorumref02_Fits.calls ((rd_T45 l0 x6_1).f2) true _ A16.out).mono ?_); rintro e w' ⟨rfl, ⟨nd, rfl⟩⟩))
             go_meet
             case rel => exact ⟨_, (true), (by first | rfl | (simp; done) | (simp [*]; done)), H', ⟨by have := HK1.out; first | omega | exact Nat.le_refl _⟩, ⟨by (with_reducible repeat (first | refine blk_drewN ?_ _ | refine blk_drew ?_ | refine blk_alloc ?_ _)); refine blk_put (cs := #[.int .i64 ((rd_T45 l0 x6_1).f0), .int .i64 ((rd_T45 l0 x6_1).f1), .int .i64 ((rd_T45 l0 x6_1).f2), .int .i64 0]) ?_ 3 _ rfl; (with_reducible repeat (first | refine blk_drewN ?_ _ | refine blk_drew ?_ | refine blk_alloc ?_ _)); refine blk_put (cs := #[.int .i64 ((rd_T45 l0 x6_1).f0), .int .i64 ((rd_T45 l0 x6_1).f1), .int .i64 0, .int .i64 0]) ?_ 2 _ rfl; (with_reducible repeat (first | refine blk_drewN ?_ _ | refine blk_drew ?_ | refine blk_alloc ?_ _)); refine blk_put (cs := #[.int .i64 ((rd_T45 l0 x6_1).f0), .int .i64 0, .int .i64 0, .int .i64 0]) ?_ 1 _ rfl; (with_reducible repeat (first | refine blk_drewN ?_ _ | refine blk_drew ?_ | refine blk_alloc ?_ _)); refine blk_put (cs := #[.int .i64 0, .int .i64 0, .int .i64 0, .int .i64 0]) ?_ 0 _ rfl; (with_reducible repeat (first | refine blk_drewN ?_ _ | refine blk_drew ?_ | refine blk_alloc ?_ _)); exact BK267.out⟩, ⟨by repeat (first | (with_reducible first | exact HB.out | apply below_alloc | apply pw_below_drewN | apply below_drew1 | refine below_set ?_ GE267.out) | exact HB.out)⟩⟩
            ·rw [if_neg c18] at H
             have c18b0 : decide (((rd_T45 l0 x6_1).f3) < 0) = false := decide_eq_false c18
             clear c18
             have H' := Aside0.mk H
             clear H
             have hcz20_0 : w6.cell? ⟨gb267, 0, none⟩ = some (.int .i64 0) := (blk_cell BK267.out 0).trans rfl
             have hcz20_1 : w6.cell? ⟨gb267, 1, none⟩ = some (.int .i64 0) := (blk_cell BK267.out 1).trans rfl
             have hcz20_2 : w6.cell? ⟨gb267, 2, none⟩ = some (.int .i64 0) := (blk_cell BK267.out 2).trans rfl
             have hcz20_3 : w6.cell? ⟨gb267, 3, none⟩ = some (.int .i64 0) := (blk_cell BK267.out 3).trans rfl
             have hfz20_0 := blk_frozen BK267.out 0
             have hfz20_1 := blk_frozen BK267.out 1
             have hfz20_2 := blk_frozen BK267.out 2
             have hfz20_3 := blk_frozen BK267.out 3
             go_wp2_with (first | ((with_reducible refine gate_callee (f := 42) rfl ?_); refine goesL_ (some 23) rfl rfl Try.func42 (by kernel_rfl) rfl #[.int .i64 ((rd_T45 l0 x6_1).f0)] rfl (by (try simp only [List.map_toArray, List.map_cons, List.map_nil]); first | done | rfl | (simp only [List.length_drop, List.length_take]; rfl) | (simp only [*]; first | done | rfl)) ?_; (with_reducible refine (variorumref02_Fits.calls ((rd_T45 l0 x6_1).f0) true _ A8.out).mono ?_); rintro e w' ⟨rfl, ⟨nd, rfl⟩⟩; refine ⟨_, rfl, ?_⟩) | (go_at_call 42; (with_reducible refine (variorumref02_Fits.calls ((rd_T45 l0 x6_1).f1) true _ A12.out).mono ?_); rintro e w' ⟨rfl, ⟨nd, rfl⟩⟩) | (go_at_call 42; (with_reducible refine (variorumref02_Fits.calls ((rd_T45 l0 x6_1).f2) true _ A16.out).mono ?_); rintro e w' ⟨rfl, ⟨nd, rfl⟩⟩))
             go_meet
             case rel => exact ⟨_, (decide (((rd_T45 l0 x6_1).f3) > 3)), (by first | rfl | (simp; done) | (simp [*]; done)), H', ⟨by have := HK1.out; first | omega | exact Nat.le_refl _⟩, ⟨by (with_reducible repeat (first | refine blk_drewN ?_ _ | refine blk_drew ?_ | refine blk_alloc ?_ _)); refine blk_put (cs := #[.int .i64 ((rd_T45 l0 x6_1).f0), .int .i64 ((rd_T45 l0 x6_1).f1), .int .i64 ((rd_T45 l0 x6_1).f2), .int .i64 0]) ?_ 3 _ rfl; (with_reducible repeat (first | refine blk_drewN ?_ _ | refine blk_drew ?_ | refine blk_alloc ?_ _)); refine blk_put (cs := #[.int .i64 ((rd_T45 l0 x6_1).f0), .int .i64 ((rd_T45 l0 x6_1).f1), .int .i64 0, .int .i64 0]) ?_ 2 _ rfl; (with_reducible repeat (first | refine blk_drewN ?_ _ | refine blk_drew ?_ | refine blk_alloc ?_ _)); refine blk_put (cs := #[.int .i64 ((rd_T45 l0 x6_1).f0), .int .i64 0, .int .i64 0, .int .i64 0]) ?_ 1 _ rfl; (with_reducible repeat (first | refine blk_drewN ?_ _ | refine blk_drew ?_ | refine blk_alloc ?_ _)); refine blk_put (cs := #[.int .i64 0, .int .i64 0, .int .i64 0, .int .i64 0]) ?_ 0 _ rfl; (with_reducible repeat (first | refine blk_drewN ?_ _ | refine blk_drew ?_ | refine blk_alloc ?_ _)); exact BK267.out⟩, ⟨by repeat (first | (with_reducible first | exact HB.out | apply below_alloc | apply pw_below_drewN | apply below_drew1 | refine below_set ?_ GE267.out) | exact HB.out)⟩⟩
           ·replace c17 := Bool.eq_false_iff.mpr c17
            subst c17
            have H1 : (variorumref03_May.j1 k1 l0 x3_1 x4_1 x5_1 x6_1 true ((rd_T45 l0 x6_1).f0) ((rd_T45 l0 x6_1).f1) ((rd_T45 l0 x6_1).f2) ((rd_T45 l0 x6_1).f3)) = some r := by rw [if_neg (show ¬ (false = true) by decide)] at H; exact H
            clear H
            have H := H1
            clear H1
            have H' := Aside0.mk H
            clear H
            have hcz21_0 : w6.cell? ⟨gb267, 0, none⟩ = some (.int .i64 0) := (blk_cell BK267.out 0).trans rfl
            have hcz21_1 : w6.cell? ⟨gb267, 1, none⟩ = some (.int .i64 0) := (blk_cell BK267.out 1).trans rfl
            have hcz21_2 : w6.cell? ⟨gb267, 2, none⟩ = some (.int .i64 0) := (blk_cell BK267.out 2).trans rfl
            have hcz21_3 : w6.cell? ⟨gb267, 3, none⟩ = some (.int .i64 0) := (blk_cell BK267.out 3).trans rfl
            have hfz21_0 := blk_frozen BK267.out 0
            have hfz21_1 := blk_frozen BK267.out 1
            have hfz21_2 := blk_frozen BK267.out 2
            have hfz21_3 := blk_frozen BK267.out 3
            go_wp2_with (first | ((with_reducible refine gate_callee (f := 42) rfl ?_); refine goesL_ (some 23) rfl rfl Try.func42 (by kernel_rfl) rfl #[.int .i64 ((rd_T45 l0 x6_1).f0)] rfl (by (try simp only [List.map_toArray, List.map_cons, List.map_nil]); first | done | rfl | (simp only [List.length_drop, List.length_take]; rfl) | (simp only [*]; first | done | rfl)) ?_; (with_reducible refine (variorumref02_Fits.calls ((rd_T45 l0 x6_1).f0) true _ A8.out).mono ?_); rintro e w' ⟨rfl, ⟨nd, rfl⟩⟩; refine ⟨_, rfl, ?_⟩) | (go_at_call 42; (with_reducible refine (variorumref02_Fits.calls ((rd_T45 l0 x6_1).f1) true _ A12.out).mono ?_); rintro e w' ⟨rfl, ⟨nd, rfl⟩⟩) | (go_at_call 42; (with_reducible refine (variorumref02_Fits.calls ((rd_T45 l0 x6_1).f2) false _ A16.out).mono ?_); rintro e w' ⟨rfl, ⟨nd, rfl⟩⟩))
            go_meet
            case rel => exact ⟨_, (true), (by first | rfl | (simp; done) | (simp [*]; done)), H', ⟨by have := HK1.out; first | omega | exact Nat.le_refl _⟩, ⟨by (with_reducible repeat (first | refine blk_drewN ?_ _ | refine blk_drew ?_ | refine blk_alloc ?_ _)); refine blk_put (cs := #[.int .i64 ((rd_T45 l0 x6_1).f0), .int .i64 ((rd_T45 l0 x6_1).f1), .int .i64 ((rd_T45 l0 x6_1).f2), .int .i64 0]) ?_ 3 _ rfl; (with_reducible repeat (first | refine blk_drewN ?_ _ | refine blk_drew ?_ | refine blk_alloc ?_ _)); refine blk_put (cs := #[.int .i64 ((rd_T45 l0 x6_1).f0), .int .i64 ((rd_T45 l0 x6_1).f1), .int .i64 0, .int .i64 0]) ?_ 2 _ rfl; (with_reducible repeat (first | refine blk_drewN ?_ _ | refine blk_drew ?_ | refine blk_alloc ?_ _)); refine blk_put (cs := #[.int .i64 ((rd_T45 l0 x6_1).f0), .int .i64 0, .int .i64 0, .int .i64 0]) ?_ 1 _ rfl; (with_reducible repeat (first | refine blk_drewN ?_ _ | refine blk_drew ?_ | refine blk_alloc ?_ _)); refine blk_put (cs := #[.int .i64 0, .int .i64 0, .int .i64 0, .int .i64 0]) ?_ 0 _ rfl; (with_reducible repeat (first | refine blk_drewN ?_ _ | refine blk_drew ?_ | refine blk_alloc ?_ _)); exact BK267.out⟩, ⟨by repeat (first | (with_reducible first | exact HB.out | apply below_alloc | apply pw_below_drewN | apply below_drew1 | refine below_set ?_ GE267.out) | exact HB.out)⟩⟩
         ·replace c13 := Bool.eq_false_iff.mpr c13
          subst c13
          have H1 : (variorumref03_May.j1 k1 l0 x3_1 x4_1 x5_1 x6_1 true ((rd_T45 l0 x6_1).f0) ((rd_T45 l0 x6_1).f1) ((rd_T45 l0 x6_1).f2) ((rd_T45 l0 x6_1).f3)) = some r := by rw [if_neg (show ¬ (false = true) by decide)] at H; exact H
          clear H
          have H := H1
          clear H1
          have H' := Aside0.mk H
          clear H
          have hcz22_0 : w6.cell? ⟨gb267, 0, none⟩ = some (.int .i64 0) := (blk_cell BK267.out 0).trans rfl
          have hcz22_1 : w6.cell? ⟨gb267, 1, none⟩ = some (.int .i64 0) := (blk_cell BK267.out 1).trans rfl
          have hcz22_2 : w6.cell? ⟨gb267, 2, none⟩ = some (.int .i64 0) := (blk_cell BK267.out 2).trans rfl
          have hcz22_3 : w6.cell? ⟨gb267, 3, none⟩ = some (.int .i64 0) := (blk_cell BK267.out 3).trans rfl
          have hfz22_0 := blk_frozen BK267.out 0
          have hfz22_1 := blk_frozen BK267.out 1
          have hfz22_2 := blk_frozen BK267.out 2
          have hfz22_3 := blk_frozen BK267.out 3
          go_wp2_with (first | ((with_reducible refine gate_callee (f := 42) rfl ?_); refine goesL_ (some 23) rfl rfl Try.func42 (by kernel_rfl) rfl #[.int .i64 ((rd_T45 l0 x6_1).f0)] rfl (by (try simp only [List.map_toArray, List.map_cons, List.map_nil]); first | done | rfl | (simp only [List.length_drop, List.length_take]; rfl) | (simp only [*]; first | done | rfl)) ?_; (with_reducible refine (variorumref02_Fits.calls ((rd_T45 l0 x6_1).f0) true _ A8.out).mono ?_); rintro e w' ⟨rfl, ⟨nd, rfl⟩⟩; refine ⟨_, rfl, ?_⟩) | (go_at_call 42; (with_reducible refine (variorumref02_Fits.calls ((rd_T45 l0 x6_1).f1) false _ A12.out).mono ?_); rintro e w' ⟨rfl, ⟨nd, rfl⟩⟩))
          go_meet
          case rel => exact ⟨_, (true), (by first | rfl | (simp; done) | (simp [*]; done)), H', ⟨by have := HK1.out; first | omega | exact Nat.le_refl _⟩, ⟨by (with_reducible repeat (first | refine blk_drewN ?_ _ | refine blk_drew ?_ | refine blk_alloc ?_ _)); refine blk_put (cs := #[.int .i64 ((rd_T45 l0 x6_1).f0), .int .i64 ((rd_T45 l0 x6_1).f1), .int .i64 ((rd_T45 l0 x6_1).f2), .int .i64 0]) ?_ 3 _ rfl; (with_reducible repeat (first | refine blk_drewN ?_ _ | refine blk_drew ?_ | refine blk_alloc ?_ _)); refine blk_put (cs := #[.int .i64 ((rd_T45 l0 x6_1).f0), .int .i64 ((rd_T45 l0 x6_1).f1), .int .i64 0, .int .i64 0]) ?_ 2 _ rfl; (with_reducible repeat (first | refine blk_drewN ?_ _ | refine blk_drew ?_ | refine blk_alloc ?_ _)); refine blk_put (cs := #[.int .i64 ((rd_T45 l0 x6_1).f0), .int .i64 0, .int .i64 0, .int .i64 0]) ?_ 1 _ rfl; (with_reducible repeat (first | refine blk_drewN ?_ _ | refine blk_drew ?_ | refine blk_alloc ?_ _)); refine blk_put (cs := #[.int .i64 0, .int .i64 0, .int .i64 0, .int .i64 0]) ?_ 0 _ rfl; (with_reducible repeat (first | refine blk_drewN ?_ _ | refine blk_drew ?_ | refine blk_alloc ?_ _)); exact BK267.out⟩, ⟨by repeat (first | (with_reducible first | exact HB.out | apply below_alloc | apply pw_below_drewN | apply below_drew1 | refine below_set ?_ GE267.out) | exact HB.out)⟩⟩
       ·replace c9 := Bool.eq_false_iff.mpr c9
        subst c9
        have H1 : (variorumref03_May.j1 k1 l0 x3_1 x4_1 x5_1 x6_1 true ((rd_T45 l0 x6_1).f0) ((rd_T45 l0 x6_1).f1) ((rd_T45 l0 x6_1).f2) ((rd_T45 l0 x6_1).f3)) = some r := by rw [if_neg (show ¬ (false = true) by decide)] at H; exact H
        clear H
        have H := H1
        clear H1
        have H' := Aside0.mk H
        clear H
        have hcz23_0 : w6.cell? ⟨gb267, 0, none⟩ = some (.int .i64 0) := (blk_cell BK267.out 0).trans rfl
        have hcz23_1 : w6.cell? ⟨gb267, 1, none⟩ = some (.int .i64 0) := (blk_cell BK267.out 1).trans rfl
        have hcz23_2 : w6.cell? ⟨gb267, 2, none⟩ = some (.int .i64 0) := (blk_cell BK267.out 2).trans rfl
        have hcz23_3 : w6.cell? ⟨gb267, 3, none⟩ = some (.int .i64 0) := (blk_cell BK267.out 3).trans rfl
        have hfz23_0 := blk_frozen BK267.out 0
        have hfz23_1 := blk_frozen BK267.out 1
        have hfz23_2 := blk_frozen BK267.out 2
        have hfz23_3 := blk_frozen BK267.out 3
        go_wp2_with (first | ((with_reducible refine gate_callee (f := 42) rfl ?_); refine goesL_ (some 23) rfl rfl Try.func42 (by kernel_rfl) rfl #[.int .i64 ((rd_T45 l0 x6_1).f0)] rfl (by (try simp only [List.map_toArray, List.map_cons, List.map_nil]); first | done | rfl | (simp only [List.length_drop, List.length_take]; rfl) | (simp only [*]; first | done | rfl)) ?_; (with_reducible refine (variorumref02_Fits.calls ((rd_T45 l0 x6_1).f0) false _ A8.out).mono ?_); rintro e w' ⟨rfl, ⟨nd, rfl⟩⟩; refine ⟨_, rfl, ?_⟩))
        go_meet
        case rel => exact ⟨_, (true), (by first | rfl | (simp; done) | (simp [*]; done)), H', ⟨by have := HK1.out; first | omega | exact Nat.le_refl _⟩, ⟨by (with_reducible repeat (first | refine blk_drewN ?_ _ | refine blk_drew ?_ | refine blk_alloc ?_ _)); refine blk_put (cs := #[.int .i64 ((rd_T45 l0 x6_1).f0), .int .i64 ((rd_T45 l0 x6_1).f1), .int .i64 ((rd_T45 l0 x6_1).f2), .int .i64 0]) ?_ 3 _ rfl; (with_reducible repeat (first | refine blk_drewN ?_ _ | refine blk_drew ?_ | refine blk_alloc ?_ _)); refine blk_put (cs := #[.int .i64 ((rd_T45 l0 x6_1).f0), .int .i64 ((rd_T45 l0 x6_1).f1), .int .i64 0, .int .i64 0]) ?_ 2 _ rfl; (with_reducible repeat (first | refine blk_drewN ?_ _ | refine blk_drew ?_ | refine blk_alloc ?_ _)); refine blk_put (cs := #[.int .i64 ((rd_T45 l0 x6_1).f0), .int .i64 0, .int .i64 0, .int .i64 0]) ?_ 1 _ rfl; (with_reducible repeat (first | refine blk_drewN ?_ _ | refine blk_drew ?_ | refine blk_alloc ?_ _)); refine blk_put (cs := #[.int .i64 0, .int .i64 0, .int .i64 0, .int .i64 0]) ?_ 0 _ rfl; (with_reducible repeat (first | refine blk_drewN ?_ _ | refine blk_drew ?_ | refine blk_alloc ?_ _)); exact BK267.out⟩, ⟨by repeat (first | (with_reducible first | exact HB.out | apply below_alloc | apply pw_below_drewN | apply below_drew1 | refine below_set ?_ GE267.out) | exact HB.out)⟩⟩
      case rest =>
       clear HC5
       try clear c1
       try clear c2
       try clear c2b0
       try clear c2b1
       try clear p2
       try clear q2
       try clear hx2
       try clear c3
       try clear c3b0
       try clear c4
       try clear c4b0
       try clear c9
       try clear c10
       try clear c10b0
       try clear c13
       try clear c14
       try clear c14b0
       try clear c17
       try clear c18
       try clear c18b0
       try clear hcz11_0
       try clear hcz11_1
       try clear hcz11_2
       try clear hcz11_3
       try clear hcz15_0
       try clear hcz15_1
       try clear hcz15_2
       try clear hcz15_3
       try clear hcz19_0
       try clear hcz19_1
       try clear hcz19_2
       try clear hcz19_3
       try clear hcz20_0
       try clear hcz20_1
       try clear hcz20_2
       try clear hcz20_3
       try clear hcz21_0
       try clear hcz21_1
       try clear hcz21_2
       try clear hcz21_3
       try clear hcz22_0
       try clear hcz22_1
       try clear hcz22_2
       try clear hcz22_3
       try clear hcz23_0
       try clear hcz23_1
       try clear hcz23_2
       try clear hcz23_3
       try clear hcz7_0
       try clear hcz7_1
       try clear hcz7_2
       try clear hcz7_3
       try clear hfz11_0
       try clear hfz11_1
       try clear hfz11_2
       try clear hfz11_3
       try clear hfz15_0
       try clear hfz15_1
       try clear hfz15_2
       try clear hfz15_3
       try clear hfz19_0
       try clear hfz19_1
       try clear hfz19_2
       try clear hfz19_3
       try clear hfz20_0
       try clear hfz20_1
       try clear hfz20_2
       try clear hfz20_3
       try clear hfz21_0
       try clear hfz21_1
       try clear hfz21_2
       try clear hfz21_3
       try clear hfz22_0
       try clear hfz22_1
       try clear hfz22_2
       try clear hfz22_3
       try clear hfz23_0
       try clear hfz23_1
       try clear hfz23_2
       try clear hfz23_3
       try clear hfz7_0
       try clear hfz7_1
       try clear hfz7_2
       try clear hfz7_3
       try clear hx266_0
       try clear hx266_1
       try clear hx266_2
       try clear hx266_3
       try clear p2
       try clear p266
       try clear q266
       obtain ⟨kq, x56_4, rfl, HA, HJ4, BK267, HB⟩ := hcut
       cases kq with
       | zero => exact absurd HA.out (by simp [variorumref03_May.j1])
       | succ kj4 =>
        have H := HA.out
        clear HA
        simp only [variorumref03_May.j1] at H
        by_cases c24 : x56_4 = true
        ·subst c24
         have H1 : (some false) = some r := by rw [if_pos rfl] at H; exact H
         clear H
         have H := H1
         clear H1
         obtain rfl := Option.some.inj H
         go_wp2
         go_ret
         exact ⟨by first | rfl | (simp [errW_none, errW_some] <;> rfl) | (simp [*, errW_none, errW_some] <;> rfl), by repeat (first | (with_reducible first | exact HB.out | apply below_alloc | apply pw_below_drewN | apply below_drew1 | refine below_set ?_ GE267.out) | exact HB.out)⟩
        ·replace c24 := Bool.eq_false_iff.mpr c24
         subst c24
         have H1 : (if ((rd_T45 l0 x6_1).f0) < 0 then (variorumref03_May.l0 kj4 l0 (wrap64 (x3_1 - ((rd_T45 l0 x6_1).f0))) (wrap64 (x4_1 + ((rd_T45 l0 x6_1).f1))) (wrap64 (x5_1 + ((rd_T45 l0 x6_1).f2))) (wrap64 (x6_1 + 1))) else (variorumref03_May.l0 kj4 l0 (wrap64 (x3_1 + ((rd_T45 l0 x6_1).f0))) (wrap64 (x4_1 + ((rd_T45 l0 x6_1).f1))) (wrap64 (x5_1 + ((rd_T45 l0 x6_1).f2))) (wrap64 (x6_1 + 1)))) = some r := by rw [if_neg (show ¬ (false = true) by decide)] at H; exact H
         clear H
         have H := H1
         clear H1
         by_cases c25 : ((rd_T45 l0 x6_1).f0) < 0
         ·rw [if_pos c25] at H
          have c25b0 : decide (((rd_T45 l0 x6_1).f0) < 0) = true := decide_eq_true c25
          clear c25
          have H' := Aside0.mk H
          clear H
          have hcz26_0 : wc.cell? ⟨gb267, 0, none⟩ = some (.int .i64 ((rd_T45 l0 x6_1).f0)) := (blk_cell BK267.out 0).trans rfl
          have hcz26_1 : wc.cell? ⟨gb267, 1, none⟩ = some (.int .i64 ((rd_T45 l0 x6_1).f1)) := (blk_cell BK267.out 1).trans rfl
          have hcz26_2 : wc.cell? ⟨gb267, 2, none⟩ = some (.int .i64 ((rd_T45 l0 x6_1).f2)) := (blk_cell BK267.out 2).trans rfl
          have hcz26_3 : wc.cell? ⟨gb267, 3, none⟩ = some (.int .i64 ((rd_T45 l0 x6_1).f3)) := (blk_cell BK267.out 3).trans rfl
          have hfz26_0 := blk_frozen BK267.out 0
          have hfz26_1 := blk_frozen BK267.out 1
          have hfz26_2 := blk_frozen BK267.out 2
          have hfz26_3 := blk_frozen BK267.out 3
          go_wp2
          go_roundg kj4
          case measure => have := HK1.out; have := HJ4.out; omega
          case rel => exact ⟨(wrap64 (x3_1 - ((rd_T45 l0 x6_1).f0))), (wrap64 (x4_1 + ((rd_T45 l0 x6_1).f1))), (wrap64 (x5_1 + ((rd_T45 l0 x6_1).f2))), (wrap64 (x6_1 + 1)), (by first | rfl | (simp; done) | (simp [*]; done)), (by first | rfl | (simp; done) | (simp [*]; done)), (by first | rfl | (simp; done) | (simp [*]; done)), (by first | rfl | (simp; done) | (simp [*]; done)), H', ⟨by have := HK1.out; have := HJ4.out; omega⟩, ⟨by repeat (first | (with_reducible first | exact HB.out | apply below_alloc | apply pw_below_drewN | apply below_drew1 | refine below_set ?_ GE267.out) | exact HB.out)⟩⟩
         ·rw [if_neg c25] at H
          have c25b0 : decide (((rd_T45 l0 x6_1).f0) < 0) = false := decide_eq_false c25
          clear c25
          have H' := Aside0.mk H
          clear H
          have hcz27_0 : wc.cell? ⟨gb267, 0, none⟩ = some (.int .i64 ((rd_T45 l0 x6_1).f0)) := (blk_cell BK267.out 0).trans rfl
          have hcz27_1 : wc.cell? ⟨gb267, 1, none⟩ = some (.int .i64 ((rd_T45 l0 x6_1).f1)) := (blk_cell BK267.out 1).trans rfl
          have hcz27_2 : wc.cell? ⟨gb267, 2, none⟩ = some (.int .i64 ((rd_T45 l0 x6_1).f2)) := (blk_cell BK267.out 2).trans rfl
          have hcz27_3 : wc.cell? ⟨gb267, 3, none⟩ = some (.int .i64 ((rd_T45 l0 x6_1).f3)) := (blk_cell BK267.out 3).trans rfl
          have hfz27_0 := blk_frozen BK267.out 0
          have hfz27_1 := blk_frozen BK267.out 1
          have hfz27_2 := blk_frozen BK267.out 2
          have hfz27_3 := blk_frozen BK267.out 3
          go_wp2
          go_roundg kj4
          case measure => have := HK1.out; have := HJ4.out; omega
          case rel => exact ⟨(wrap64 (x3_1 + ((rd_T45 l0 x6_1).f0))), (wrap64 (x4_1 + ((rd_T45 l0 x6_1).f1))), (wrap64 (x5_1 + ((rd_T45 l0 x6_1).f2))), (wrap64 (x6_1 + 1)), (by first | rfl | (simp; done) | (simp [*]; done)), (by first | rfl | (simp; done) | (simp [*]; done)), (by first | rfl | (simp; done) | (simp [*]; done)), (by first | rfl | (simp; done) | (simp [*]; done)), H', ⟨by have := HK1.out; have := HJ4.out; omega⟩, ⟨by repeat (first | (with_reducible first | exact HB.out | apply below_alloc | apply pw_below_drewN | apply below_drew1 | refine below_set ?_ GE267.out) | exact HB.out)⟩⟩
     ·rw [if_neg c4] at H
      exact absurd H (by simp)
    ·rw [if_neg c3] at H
     have c3b0 : decide (x6_1 < (l0.length : Int)) = false := decide_eq_false c3
     clear c3
     replace H := Option.bind_eq_some_iff.mp H
     obtain ⟨t263, A280, H⟩ := H
     replace H : (if t263 = true then ((variorumref02_Fits.f x4_1).bind fun t264 => (if t264 = true then ((variorumref02_Fits.f x5_1).bind fun t265 => (some t265)) else (some false))) else (some false)) = some r := H
     have A28 := Aside0.mk A280
     clear A280
     by_cases c29 : t263 = true
     ·subst c29
      have H1 : ((variorumref02_Fits.f x4_1).bind fun t264 => (if t264 = true then ((variorumref02_Fits.f x5_1).bind fun t265 => (some t265)) else (some false))) = some r := by rw [if_pos rfl] at H; exact H
      clear H
      have H := H1
      clear H1
      replace H := Option.bind_eq_some_iff.mp H
      obtain ⟨t264, A300, H⟩ := H
      replace H : (if t264 = true then ((variorumref02_Fits.f x5_1).bind fun t265 => (some t265)) else (some false)) = some r := H
      have A30 := Aside0.mk A300
      clear A300
      by_cases c31 : t264 = true
      ·subst c31
       have H1 : ((variorumref02_Fits.f x5_1).bind fun t265 => (some t265)) = some r := by rw [if_pos rfl] at H; exact H
       clear H
       have H := H1
       clear H1
       replace H := Option.bind_eq_some_iff.mp H
       obtain ⟨t265, A320, H⟩ := H
       replace H : (some t265) = some r := H
       have A32 := Aside0.mk A320
       clear A320
       obtain rfl := Option.some.inj H
       go_wp2_with (first | ((with_reducible refine gate_callee (f := 42) rfl ?_); refine goesL_ (some 77) rfl rfl Try.func42 (by kernel_rfl) rfl #[.int .i64 x3_1] rfl (by (try simp only [List.map_toArray, List.map_cons, List.map_nil]); first | done | rfl | (simp only [List.length_drop, List.length_take]; rfl) | (simp only [*]; first | done | rfl)) ?_; (with_reducible refine (variorumref02_Fits.calls x3_1 true _ A28.out).mono ?_); rintro e w' ⟨rfl, ⟨nd, rfl⟩⟩; refine ⟨_, rfl, ?_⟩) | (go_at_call 42; (with_reducible refine (variorumref02_Fits.calls x4_1 true _ A30.out).mono ?_); rintro e w' ⟨rfl, ⟨nd, rfl⟩⟩) | (go_at_call 42; (with_reducible refine (variorumref02_Fits.calls x5_1 t265 _ A32.out).mono ?_); rintro e w' ⟨rfl, ⟨nd, rfl⟩⟩))
       go_ret
       exact ⟨by first | rfl | (simp [errW_none, errW_some] <;> rfl) | (simp [*, errW_none, errW_some] <;> rfl), by repeat (first | (with_reducible first | exact HB.out | apply below_alloc | apply pw_below_drewN | apply below_drew1) | exact HB.out)⟩
      ·replace c31 := Bool.eq_false_iff.mpr c31
       subst c31
       have H1 : (some false) = some r := by rw [if_neg (show ¬ (false = true) by decide)] at H; exact H
       clear H
       have H := H1
       clear H1
       obtain rfl := Option.some.inj H
       go_wp2_with (first | ((with_reducible refine gate_callee (f := 42) rfl ?_); refine goesL_ (some 77) rfl rfl Try.func42 (by kernel_rfl) rfl #[.int .i64 x3_1] rfl (by (try simp only [List.map_toArray, List.map_cons, List.map_nil]); first | done | rfl | (simp only [List.length_drop, List.length_take]; rfl) | (simp only [*]; first | done | rfl)) ?_; (with_reducible refine (variorumref02_Fits.calls x3_1 true _ A28.out).mono ?_); rintro e w' ⟨rfl, ⟨nd, rfl⟩⟩; refine ⟨_, rfl, ?_⟩) | (go_at_call 42; (with_reducible refine (variorumref02_Fits.calls x4_1 false _ A30.out).mono ?_); rintro e w' ⟨rfl, ⟨nd, rfl⟩⟩))
       go_ret
       exact ⟨by first | rfl | (simp [errW_none, errW_some] <;> rfl) | (simp [*, errW_none, errW_some] <;> rfl), by repeat (first | (with_reducible first | exact HB.out | apply below_alloc | apply pw_below_drewN | apply below_drew1) | exact HB.out)⟩
     ·replace c29 := Bool.eq_false_iff.mpr c29
      subst c29
      have H1 : (some false) = some r := by rw [if_neg (show ¬ (false = true) by decide)] at H; exact H
      clear H
      have H := H1
      clear H1
      obtain rfl := Option.some.inj H
      go_wp2_with (first | ((with_reducible refine gate_callee (f := 42) rfl ?_); refine goesL_ (some 77) rfl rfl Try.func42 (by kernel_rfl) rfl #[.int .i64 x3_1] rfl (by (try simp only [List.map_toArray, List.map_cons, List.map_nil]); first | done | rfl | (simp only [List.length_drop, List.length_take]; rfl) | (simp only [*]; first | done | rfl)) ?_; (with_reducible refine (variorumref02_Fits.calls x3_1 false _ A28.out).mono ?_); rintro e w' ⟨rfl, ⟨nd, rfl⟩⟩; refine ⟨_, rfl, ?_⟩))
      go_ret
      exact ⟨by first | rfl | (simp [errW_none, errW_some] <;> rfl) | (simp [*, errW_none, errW_some] <;> rfl), by repeat (first | (with_reducible first | exact HB.out | apply below_alloc | apply pw_below_drewN | apply below_drew1) | exact HB.out)⟩

end Go.Proofs.Ytagpdpcodcmgkaa.PTo

/- Written by a program of this session: functions of the given program as plain Lean functions, the walks that show it, and the row of each law, for every input that its statement speaks of. -/
import Derived.Test.YtgkpomeobaheiaaPAllx0
import Derived.Test.YtgkpomeobaheiaaPAllx1
import Derived.Test.YtgkpomeobaheiaaPAllx2
namespace Go.Proofs.Ytgkpomeobaheiaa.PAll
open Go.RowKit Go.Proofs.YtgkpomeobaheiaaW.PrintWords Go.Proofs.YtgkpomeobaheiaaW.PrintLast Go.Proofs.YtgkpomeobaheiaaW.PrintMore
attribute [local go_sem] max2_int min2_int max_two min_two max_three min_three max_four min_four   -- for this text's walks alone
set_option linter.unusedVariables false
set_option linter.unusedSimpArgs false

/-! ### variorumlaw19_ColumnLeast: function 4 -/
mutual
def variorumlaw19_ColumnLeast.j0 : Nat → List Int → Int → List Int → List Int → Int → Bool → Option (Bool)
  | 0, _, _, _, _, _, _ => none
  | k + 1, x0, x1, x2, x7, x8, x34 => if x34 = true then ((variorumlaw19_fixed.f k).bind fun t225 => (some t225)) else (variorumlaw19_ColumnLeast.l0 k x0 x1 x2 x7 x8 0 0 0)
def variorumlaw19_ColumnLeast.l0 : Nat → List Int → Int → List Int → List Int → Int → Int → Int → Int → Option (Bool)
  | 0, _, _, _, _, _, _, _, _ => none
  | k + 1, x0, x1, x2, x7, x8, x10, x11, x12 => if x12 < (x7.length : Int) then (if 0 ≤ x12 then (if (rd x7 x12) < 0 then (none) else (if (wrap64 (x10 + (rd x7 x12))) > (x0.length : Int) then (none) else (if 0 ≤ x10 then (if x10 ≤ (wrap64 (x10 + (rd x7 x12))) then (if (wrap64 (x10 + (rd x7 x12))) ≤ (x0.length : Int) then ((variorumref19_Sum.f k ((x0.take ((wrap64 (x10 + (rd x7 x12))) : Int).toNat).drop (x10 : Int).toNat)).bind fun t230 => (variorumlaw19_ColumnLeast.l0 k x0 x1 x2 x7 x8 (wrap64 (x10 + (rd x7 x12))) (mx x11 t230) (wrap64 (x12 + 1)))) else (none)) else (none)) else (none)))) else (none)) else (if x10 = (x0.length : Int) then (if (x7.length : Int) = x1 then (variorumlaw19_ColumnLeast.j2 k x0 x1 x2 x8 (decide (x11 > x8))) else (variorumlaw19_ColumnLeast.j2 k x0 x1 x2 x8 true)) else (variorumlaw19_ColumnLeast.j2 k x0 x1 x2 x8 true))
def variorumlaw19_ColumnLeast.j2 : Nat → List Int → Int → List Int → Int → Bool → Option (Bool)
  | 0, _, _, _, _, _ => none
  | k + 1, x0, x1, x2, x8, x90 => if x90 = true then (none) else (variorumlaw19_ColumnLeast.l1 k x0 x1 x2 x8 0 0 0)
def variorumlaw19_ColumnLeast.l1 : Nat → List Int → Int → List Int → Int → Int → Int → Int → Option (Bool)
  | 0, _, _, _, _, _, _, _ => none
  | k + 1, x0, x1, x2, x8, x13, x14, x15 => if x15 < x1 then (if x15 < (wrap64 (x1 - 1)) then (if x15 < (x2.length : Int) then (if 0 ≤ x15 then (if (rd x2 x15) > 0 then (if 0 ≤ x13 then (if x13 ≤ (wrap64 (x13 + (mn (rd x2 x15) (wrap64 ((x0.length : Int) - x13))))) then (if (wrap64 (x13 + (mn (rd x2 x15) (wrap64 ((x0.length : Int) - x13))))) ≤ (x0.length : Int) then ((variorumref19_Sum.f k ((x0.take ((wrap64 (x13 + (mn (rd x2 x15) (wrap64 ((x0.length : Int) - x13))))) : Int).toNat).drop (x13 : Int).toNat)).bind fun t235 => (variorumlaw19_ColumnLeast.l1 k x0 x1 x2 x8 (wrap64 (x13 + (mn (rd x2 x15) (wrap64 ((x0.length : Int) - x13))))) (mx x14 t235) (wrap64 (x15 + 1)))) else (none)) else (none)) else (none)) else (if 0 ≤ x13 then (if x13 ≤ (wrap64 x13) then (if (wrap64 x13) ≤ (x0.length : Int) then ((variorumref19_Sum.f k ((x0.take ((wrap64 x13) : Int).toNat).drop (x13 : Int).toNat)).bind fun t237 => (variorumlaw19_ColumnLeast.l1 k x0 x1 x2 x8 (wrap64 x13) (mx x14 t237) (wrap64 (x15 + 1)))) else (none)) else (none)) else (none))) else (none)) else (if 0 ≤ x13 then (if x13 ≤ (wrap64 x13) then (if (wrap64 x13) ≤ (x0.length : Int) then ((variorumref19_Sum.f k ((x0.take ((wrap64 x13) : Int).toNat).drop (x13 : Int).toNat)).bind fun t239 => (variorumlaw19_ColumnLeast.l1 k x0 x1 x2 x8 (wrap64 x13) (mx x14 t239) (wrap64 (x15 + 1)))) else (none)) else (none)) else (none))) else (if 0 ≤ x13 then (if x13 ≤ (wrap64 (x13 + (wrap64 ((x0.length : Int) - x13)))) then (if (wrap64 (x13 + (wrap64 ((x0.length : Int) - x13)))) ≤ (x0.length : Int) then ((variorumref19_Sum.f k ((x0.take ((wrap64 (x13 + (wrap64 ((x0.length : Int) - x13)))) : Int).toNat).drop (x13 : Int).toNat)).bind fun t241 => (variorumlaw19_ColumnLeast.l1 k x0 x1 x2 x8 (wrap64 (x13 + (wrap64 ((x0.length : Int) - x13)))) (mx x14 t241) (wrap64 (x15 + 1)))) else (none)) else (none)) else (none))) else (some (decide (x8 ≤ x14)))
end
def variorumlaw19_ColumnLeast.f (k : Nat) (l0 : List Int) (a1 : Int) (l2 : List Int) : Option (Bool) := (column_Balance.f k l0 a1).bind fun bt219 => ((variorumlaw19_fixed.f k).bind fun t224 => (if t224 = true then (if bt219.2.2 = true then (variorumlaw19_ColumnLeast.j0 k l0 a1 l2 bt219.1 bt219.2.1 (decide ((l0.length : Int) > 100))) else (variorumlaw19_ColumnLeast.j0 k l0 a1 l2 bt219.1 bt219.2.1 true)) else (variorumlaw19_ColumnLeast.j0 k l0 a1 l2 bt219.1 bt219.2.1 true)))
theorem variorumlaw19_ColumnLeast.mono_l : ∀ k, (∀ y0 y1 y2 y3 y4 y5, LeO (variorumlaw19_ColumnLeast.j0 k y0 y1 y2 y3 y4 y5) (variorumlaw19_ColumnLeast.j0 (k + 1) y0 y1 y2 y3 y4 y5)) ∧ (∀ y0 y1 y2 y3 y4 y5 y6 y7, LeO (variorumlaw19_ColumnLeast.l0 k y0 y1 y2 y3 y4 y5 y6 y7) (variorumlaw19_ColumnLeast.l0 (k + 1) y0 y1 y2 y3 y4 y5 y6 y7)) ∧ (∀ y0 y1 y2 y3 y4, LeO (variorumlaw19_ColumnLeast.j2 k y0 y1 y2 y3 y4) (variorumlaw19_ColumnLeast.j2 (k + 1) y0 y1 y2 y3 y4)) ∧ (∀ y0 y1 y2 y3 y4 y5 y6, LeO (variorumlaw19_ColumnLeast.l1 k y0 y1 y2 y3 y4 y5 y6) (variorumlaw19_ColumnLeast.l1 (k + 1) y0 y1 y2 y3 y4 y5 y6))
  | 0 => ⟨fun _ _ _ _ _ _ r h => by simp [variorumlaw19_ColumnLeast.j0] at h, fun _ _ _ _ _ _ _ _ r h => by simp [variorumlaw19_ColumnLeast.l0] at h, fun _ _ _ _ _ r h => by simp [variorumlaw19_ColumnLeast.j2] at h, fun _ _ _ _ _ _ _ r h => by simp [variorumlaw19_ColumnLeast.l1] at h⟩
  | k + 1 => by
    obtain ⟨ih0, ih1, ih2, ih3⟩ := variorumlaw19_ColumnLeast.mono_l k
    refine ⟨?_, ?_, ?_, ?_⟩
    · intro y0 y1 y2 y3 y4 y5
      unfold variorumlaw19_ColumnLeast.j0
      repeat' first
      | (with_reducible exact ih0 _ _ _ _ _ _)
      | (with_reducible exact ih1 _ _ _ _ _ _ _ _)
      | (with_reducible exact ih2 _ _ _ _ _)
      | (with_reducible exact ih3 _ _ _ _ _ _ _)
      | (with_reducible exact column_Balance.mono _ _ _)
      | (with_reducible exact variorumlaw19_fixed.mono _)
      | (with_reducible exact variorumref19_Sum.mono _ _)
      | (with_reducible exact LeO.refl _)
      | (with_reducible exact LeO.none _)
      | (with_reducible refine LeO.ite ?_ ?_)
      | (with_reducible refine LeO.bind ?_ (fun _ => ?_))
      | exact ih0 _ _ _ _ _ _
      | exact ih1 _ _ _ _ _ _ _ _
      | exact ih2 _ _ _ _ _
      | exact ih3 _ _ _ _ _ _ _
      | exact column_Balance.mono _ _ _
      | exact variorumlaw19_fixed.mono _
      | exact variorumref19_Sum.mono _ _
      | exact LeO.none _
      | refine LeO.ite ?_ ?_
      | refine LeO.bind ?_ (fun _ => ?_)
    · intro y0 y1 y2 y3 y4 y5 y6 y7
      unfold variorumlaw19_ColumnLeast.l0
      repeat' first
      | (with_reducible exact ih0 _ _ _ _ _ _)
      | (with_reducible exact ih1 _ _ _ _ _ _ _ _)
      | (with_reducible exact ih2 _ _ _ _ _)
      | (with_reducible exact ih3 _ _ _ _ _ _ _)
      | (with_reducible exact column_Balance.mono _ _ _)
      | (with_reducible exact variorumlaw19_fixed.mono _)
      | (with_reducible exact variorumref19_Sum.mono _ _)
      | (with_reducible exact LeO.refl _)
      | (with_reducible exact LeO.none _)
      | (with_reducible refine LeO.ite ?_ ?_)
      | (with_reducible refine LeO.bind ?_ (fun _ => ?_))
      | exact ih0 _ _ _ _ _ _
      | exact ih1 _ _ _ _ _ _ _ _
      | exact ih2 _ _ _ _ _
      | exact ih3 _ _ _ _ _ _ _
      | exact column_Balance.mono _ _ _
      | exact variorumlaw19_fixed.mono _
      | exact variorumref19_Sum.mono _ _
      | exact LeO.none _
      | refine LeO.ite ?_ ?_
      | refine LeO.bind ?_ (fun _ => ?_)
    · intro y0 y1 y2 y3 y4
      unfold variorumlaw19_ColumnLeast.j2
      repeat' first
      | (with_reducible exact ih0 _ _ _ _ _ _)
      | (with_reducible exact ih1 _ _ _ _ _ _ _ _)
      | (with_reducible exact ih2 _ _ _ _ _)
      | (with_reducible exact ih3 _ _ _ _ _ _ _)
      | (with_reducible exact column_Balance.mono _ _ _)
      | (with_reducible exact variorumlaw19_fixed.mono _)
      | (with_reducible exact variorumref19_Sum.mono _ _)
      | (with_reducible exact LeO.refl _)
      | (with_reducible exact LeO.none _)
      | (with_reducible refine LeO.ite ?_ ?_)
      | (with_reducible refine LeO.bind ?_ (fun _ => ?_))
      | exact ih0 _ _ _ _ _ _
      | exact ih1 _ _ _ _ _ _ _ _
      | exact ih2 _ _ _ _ _
      | exact ih3 _ _ _ _ _ _ _
      | exact column_Balance.mono _ _ _
      | exact variorumlaw19_fixed.mono _
      | exact variorumref19_Sum.mono _ _
      | exact LeO.none _
      | refine LeO.ite ?_ ?_
      | refine LeO.bind ?_ (fun _ => ?_)
    · intro y0 y1 y2 y3 y4 y5 y6
      unfold variorumlaw19_ColumnLeast.l1
      repeat' first
      | (with_reducible exact ih0 _ _ _ _ _ _)
      | (with_reducible exact ih1 _ _ _ _ _ _ _ _)
      | (with_reducible exact ih2 _ _ _ _ _)
      | (with_reducible exact ih3 _ _ _ _ _ _ _)
      | (with_reducible exact column_Balance.mono _ _ _)
      | (with_reducible exact variorumlaw19_fixed.mono _)
      | (with_reducible exact variorumref19_Sum.mono _ _)
      | (with_reducible exact LeO.refl _)
      | (with_reducible exact LeO.none _)
      | (with_reducible refine LeO.ite ?_ ?_)
      | (with_reducible refine LeO.bind ?_ (fun _ => ?_))
      | exact ih0 _ _ _ _ _ _
      | exact ih1 _ _ _ _ _ _ _ _
      | exact ih2 _ _ _ _ _
      | exact ih3 _ _ _ _ _ _ _
      | exact column_Balance.mono _ _ _
      | exact variorumlaw19_fixed.mono _
      | exact variorumref19_Sum.mono _ _
      | exact LeO.none _
      | refine LeO.ite ?_ ?_
      | refine LeO.bind ?_ (fun _ => ?_)
theorem variorumlaw19_ColumnLeast.mono : ∀ a0 a1 a2 k, LeO (variorumlaw19_ColumnLeast.f k a0 a1 a2) (variorumlaw19_ColumnLeast.f (k + 1) a0 a1 a2) := by
  intro a0 a1 a2 k
  obtain ⟨ih0, ih1, ih2, ih3⟩ := variorumlaw19_ColumnLeast.mono_l k
  unfold variorumlaw19_ColumnLeast.f
  repeat' first
      | (with_reducible exact ih0 _ _ _ _ _ _)
      | (with_reducible exact ih1 _ _ _ _ _ _ _ _)
      | (with_reducible exact ih2 _ _ _ _ _)
      | (with_reducible exact ih3 _ _ _ _ _ _ _)
      | (with_reducible exact column_Balance.mono _ _ _)
      | (with_reducible exact variorumlaw19_fixed.mono _)
      | (with_reducible exact variorumref19_Sum.mono _ _)
      | (with_reducible exact LeO.refl _)
      | (with_reducible exact LeO.none _)
      | (with_reducible refine LeO.ite ?_ ?_)
      | (with_reducible refine LeO.bind ?_ (fun _ => ?_))
      | exact ih0 _ _ _ _ _ _
      | exact ih1 _ _ _ _ _ _ _ _
      | exact ih2 _ _ _ _ _
      | exact ih3 _ _ _ _ _ _ _
      | exact column_Balance.mono _ _ _
      | exact variorumlaw19_fixed.mono _
      | exact variorumref19_Sum.mono _ _
      | exact LeO.none _
      | refine LeO.ite ?_ ?_
      | refine LeO.bind ?_ (fun _ => ?_)
set_option maxHeartbeats 8000000 in
set_option maxRecDepth 100000 in
theorem variorumlaw19_ColumnLeast.calls (k : Nat) (A0 : Option Addr) (c0 : Nat) (l0 : List Int) (a1 : Int) (A2 : Option Addr) (c2 : Nat) (l2 : List Int) (r : Bool) (w : World) (hr0 : Kd.C (Kd.int .i64) w A0 l0.length l0) (hc0 : l0.length ≤ c0) (hr2 : Kd.C (Kd.int .i64) w A2 l2.length l2) (hc2 : l2.length ≤ c2) (h : variorumlaw19_ColumnLeast.f k l0 a1 l2 = some r) :
    Calls Try.prog 4 #[.slice A0 l0.length c0, .int .i64 a1, .slice A2 l2.length c2] w fun e w' => e = .returned (.bool r) ∧ Below w.heap.size w w' := by
  have HR0 := Aside0.mk hr0
  have HC0 := Aside0.mk hc0
  clear hr0 hc0
  have HR2 := Aside0.mk hr2
  have HC2 := Aside0.mk hc2
  clear hr2 hc2
  have HB := Aside0.mk (Below.refl w.heap.size w)
  have H : ((column_Balance.f k l0 a1).bind fun bt219 => ((variorumlaw19_fixed.f k).bind fun t224 => (if t224 = true then (if bt219.2.2 = true then (variorumlaw19_ColumnLeast.j0 k l0 a1 l2 bt219.1 bt219.2.1 (decide ((l0.length : Int) > 100))) else (variorumlaw19_ColumnLeast.j0 k l0 a1 l2 bt219.1 bt219.2.1 true)) else (variorumlaw19_ColumnLeast.j0 k l0 a1 l2 bt219.1 bt219.2.1 true)))) = some r := h
  clear h
  replace H := Option.bind_eq_some_iff.mp H
  obtain ⟨⟨t219, t220, t221⟩, A40, H⟩ := H
  replace H : ((variorumlaw19_fixed.f k).bind fun t224 => (if t224 = true then (if t221 = true then (variorumlaw19_ColumnLeast.j0 k l0 a1 l2 t219 t220 (decide ((l0.length : Int) > 100))) else (variorumlaw19_ColumnLeast.j0 k l0 a1 l2 t219 t220 true)) else (variorumlaw19_ColumnLeast.j0 k l0 a1 l2 t219 t220 true))) = some r := H
  have A4 := Aside0.mk A40
  clear A40
  have HC5 := Aside0.mk H
  clear H
  go_enter Try.func4, Try.ntmps4
  go_upto_region 2 with (first | ((with_reducible refine gate_callee (f := 12) rfl ?_); refine goesL_ (some 20) rfl rfl Try.func12 (by kernel_rfl) rfl #[.slice A0 l0.length c0, .int .i64 a1] rfl (by (try simp only [List.map_toArray, List.map_cons, List.map_nil]); first | done | rfl | (simp only [List.length_drop, List.length_take]; rfl) | (simp only [*]; first | done | rfl)) ?_; (with_reducible refine (column_Balance.calls k _ _ l0 a1 t219 t220 t221 _ ?side1 ?side2 A4.out).mono ?_); (case side1 => repeat (first | exact HR0.out | (with_reducible refine Kd.C_alloc ?_ _) | (with_reducible refine Kd.C_drewN ?_ _) | (with_reducible refine Kd.C_drew ?_))); (case side2 => exact HC0.out); rintro e w6 ⟨v222, rfl, ho0, hb⟩; refine ⟨_, rfl, ?_⟩; have n0_ := Aside0.mk (Kd.R_lower ho0 (below_size (by repeat (first | (with_reducible first | exact HB.out | apply below_alloc | apply pw_below_drewN | apply below_drew1) | exact HB.out)))); have n1_ := Aside0.mk (below_step (by repeat (first | (with_reducible first | exact HB.out | apply below_alloc | apply pw_below_drewN | apply below_drew1) | exact HB.out)) hb); clear HB; have HO223 := n0_; have HB := n1_; clear n0_ n1_; (try clear hb); (try clear hb2); (try clear hk); (try clear hi); (try clear ho0)))
  (try simp only [Act.put, List.setIfInBounds_toArray, List.set_cons_zero, List.set_cons_succ])
  go_cut [34] (fun v34 wc => ∃ (kq : Nat) (x34_4 : Bool), v34 = .bool x34_4 ∧ Aside0 (variorumlaw19_ColumnLeast.j0 kq l0 a1 l2 t219 t220 x34_4 = some r) ∧ Aside0 (kq ≤ k) ∧ Aside0 (Kd.R (Kd.int .i64) 3 wc w.heap.size (fun _ => True) v222 t219) ∧ Aside0 (Below w.heap.size w wc))
  case first =>
    have H := HC5.out
    clear HC5
    replace H := Option.bind_eq_some_iff.mp H
    obtain ⟨t224, A70, H⟩ := H
    replace H : (if t224 = true then (if t221 = true then (variorumlaw19_ColumnLeast.j0 k l0 a1 l2 t219 t220 (decide ((l0.length : Int) > 100))) else (variorumlaw19_ColumnLeast.j0 k l0 a1 l2 t219 t220 true)) else (variorumlaw19_ColumnLeast.j0 k l0 a1 l2 t219 t220 true)) = some r := H
    have A7 := Aside0.mk A70
    clear A70
    by_cases c8 : t224 = true
    · subst c8
      have H1 : (if t221 = true then (variorumlaw19_ColumnLeast.j0 k l0 a1 l2 t219 t220 (decide ((l0.length : Int) > 100))) else (variorumlaw19_ColumnLeast.j0 k l0 a1 l2 t219 t220 true)) = some r := by rw [if_pos rfl] at H; exact H
      clear H
      have H := H1
      clear H1
      by_cases c9 : t221 = true
      · subst c9
        have H1 : (variorumlaw19_ColumnLeast.j0 k l0 a1 l2 t219 t220 (decide ((l0.length : Int) > 100))) = some r := by rw [if_pos rfl] at H; exact H
        clear H
        have H := H1
        clear H1
        have H' := Aside0.mk H
        clear H
        go_wp2_with (first | ((with_reducible refine gate_callee (f := 7) rfl ?_); refine goesL_ (some 24) rfl rfl Try.func7 (by kernel_rfl) rfl #[] rfl (by (try simp only [List.map_toArray, List.map_cons, List.map_nil]); first | done | rfl | (simp only [List.length_drop, List.length_take]; rfl) | (simp only [*]; first | done | rfl)) ?_; (with_reducible refine (variorumlaw19_fixed.calls k  true _ A7.out).mono ?_); rintro e w10 ⟨rfl, hb⟩; refine ⟨_, rfl, ?_⟩; have n0_ := Aside0.mk (Kd.R_below (by (with_reducible repeat (first | apply Kd.R_alloc | apply Kd.R_drewN | apply Kd.R_drew)); exact HO223.out) hb); have n1_ := Aside0.mk (below_step (by repeat (first | (with_reducible first | exact HB.out | apply below_alloc | apply pw_below_drewN | apply below_drew1) | exact HB.out)) hb); clear HO223; clear HB; have HO223 := n0_; have HB := n1_; clear n0_ n1_; (try clear hb); (try clear hb2); (try clear hk); (try clear hi)))
        go_meet
        case rel => exact ⟨_, (decide ((l0.length : Int) > 100)), (by first | rfl | (simp; done) | (simp [*]; done)), H', ⟨by first | omega | exact Nat.le_refl _⟩, ⟨by (with_reducible repeat (first | apply Kd.R_alloc | apply Kd.R_drewN | apply Kd.R_drew)); exact HO223.out⟩, ⟨by repeat (first | (with_reducible first | exact HB.out | apply below_alloc | apply pw_below_drewN | apply below_drew1) | exact HB.out)⟩⟩
      · replace c9 := Bool.eq_false_iff.mpr c9
        subst c9
        have H1 : (variorumlaw19_ColumnLeast.j0 k l0 a1 l2 t219 t220 true) = some r := by rw [if_neg (show ¬ (false = true) by decide)] at H; exact H
        clear H
        have H := H1
        clear H1
        have H' := Aside0.mk H
        clear H
        go_wp2_with (first | ((with_reducible refine gate_callee (f := 7) rfl ?_); refine goesL_ (some 24) rfl rfl Try.func7 (by kernel_rfl) rfl #[] rfl (by (try simp only [List.map_toArray, List.map_cons, List.map_nil]); first | done | rfl | (simp only [List.length_drop, List.length_take]; rfl) | (simp only [*]; first | done | rfl)) ?_; (with_reducible refine (variorumlaw19_fixed.calls k  true _ A7.out).mono ?_); rintro e w11 ⟨rfl, hb⟩; refine ⟨_, rfl, ?_⟩; have n0_ := Aside0.mk (Kd.R_below (by (with_reducible repeat (first | apply Kd.R_alloc | apply Kd.R_drewN | apply Kd.R_drew)); exact HO223.out) hb); have n1_ := Aside0.mk (below_step (by repeat (first | (with_reducible first | exact HB.out | apply below_alloc | apply pw_below_drewN | apply below_drew1) | exact HB.out)) hb); clear HO223; clear HB; have HO223 := n0_; have HB := n1_; clear n0_ n1_; (try clear hb); (try clear hb2); (try clear hk); (try clear hi)))
        go_meet
        case rel => exact ⟨_, (true), (by first | rfl | (simp; done) | (simp [*]; done)), H', ⟨by first | omega | exact Nat.le_refl _⟩, ⟨by (with_reducible repeat (first | apply Kd.R_alloc | apply Kd.R_drewN | apply Kd.R_drew)); exact HO223.out⟩, ⟨by repeat (first | (with_reducible first | exact HB.out | apply below_alloc | apply pw_below_drewN | apply below_drew1) | exact HB.out)⟩⟩
    · replace c8 := Bool.eq_false_iff.mpr c8
      subst c8
      have H1 : (variorumlaw19_ColumnLeast.j0 k l0 a1 l2 t219 t220 true) = some r := by rw [if_neg (show ¬ (false = true) by decide)] at H; exact H
      clear H
      have H := H1
      clear H1
      have H' := Aside0.mk H
      clear H
      go_wp2_with (first | ((with_reducible refine gate_callee (f := 7) rfl ?_); refine goesL_ (some 24) rfl rfl Try.func7 (by kernel_rfl) rfl #[] rfl (by (try simp only [List.map_toArray, List.map_cons, List.map_nil]); first | done | rfl | (simp only [List.length_drop, List.length_take]; rfl) | (simp only [*]; first | done | rfl)) ?_; (with_reducible refine (variorumlaw19_fixed.calls k  false _ A7.out).mono ?_); rintro e w12 ⟨rfl, hb⟩; refine ⟨_, rfl, ?_⟩; have n0_ := Aside0.mk (Kd.R_below (by (with_reducible repeat (first | apply Kd.R_alloc | apply Kd.R_drewN | apply Kd.R_drew)); exact HO223.out) hb); have n1_ := Aside0.mk (below_step (by repeat (first | (with_reducible first | exact HB.out | apply below_alloc | apply pw_below_drewN | apply below_drew1) | exact HB.out)) hb); clear HO223; clear HB; have HO223 := n0_; have HB := n1_; clear n0_ n1_; (try clear hb); (try clear hb2); (try clear hk); (try clear hi)))
      go_meet
      case rel => exact ⟨_, (true), (by first | rfl | (simp; done) | (simp [*]; done)), H', ⟨by first | omega | exact Nat.le_refl _⟩, ⟨by (with_reducible repeat (first | apply Kd.R_alloc | apply Kd.R_drewN | apply Kd.R_drew)); exact HO223.out⟩, ⟨by repeat (first | (with_reducible first | exact HB.out | apply below_alloc | apply pw_below_drewN | apply below_drew1) | exact HB.out)⟩⟩
  case rest =>
    clear HC5
    try clear c1
    try clear c2
    try clear p2
    try clear c4
    try clear c7
    try clear c8
    try clear c9
    try clear c12
    obtain ⟨kq, x34_4, rfl, HA, HJ4, HO_7, HB⟩ := hcut
    cases kq with
    | zero => exact absurd HA.out (by simp [variorumlaw19_ColumnLeast.j0])
    | succ kj4 =>
      have H := HA.out
      clear HA
      simp only [variorumlaw19_ColumnLeast.j0] at H
      by_cases c13 : x34_4 = true
      · subst c13
        have H1 : ((variorumlaw19_fixed.f kj4).bind fun t225 => (some t225)) = some r := by rw [if_pos rfl] at H; exact H
        clear H
        have H := H1
        clear H1
        replace H := Option.bind_eq_some_iff.mp H
        obtain ⟨t225, A140, H⟩ := H
        replace H : (some t225) = some r := H
        have A14 := Aside0.mk A140
        clear A140
        obtain rfl := Option.some.inj H
        go_wp2_with (first | ((with_reducible refine gate_callee (f := 7) rfl ?_); refine goesL_ (some 35) rfl rfl Try.func7 (by kernel_rfl) rfl #[] rfl (by (try simp only [List.map_toArray, List.map_cons, List.map_nil]); first | done | rfl | (simp only [List.length_drop, List.length_take]; rfl) | (simp only [*]; first | done | rfl)) ?_; (with_reducible refine (variorumlaw19_fixed.calls kj4  t225 _ A14.out).mono ?_); rintro e w15 ⟨rfl, hb⟩; refine ⟨_, rfl, ?_⟩; have n0_ := Aside0.mk (Kd.R_below (by (with_reducible repeat (first | apply Kd.R_alloc | apply Kd.R_drewN | apply Kd.R_drew)); exact HO_7.out) hb); have n1_ := Aside0.mk (below_step (by repeat (first | (with_reducible first | exact HB.out | apply below_alloc | apply pw_below_drewN | apply below_drew1) | exact HB.out)) hb); clear HO_7; clear HB; have HO_7 := n0_; have HB := n1_; clear n0_ n1_; (try clear hb); (try clear hb2); (try clear hk); (try clear hi)))
        go_ret
        exact ⟨by first | rfl | (simp [errW_none, errW_some] <;> rfl) | (simp [*, errW_none, errW_some] <;> rfl), by repeat (first | (with_reducible first | exact HB.out | apply below_alloc | apply pw_below_drewN | apply below_drew1) | exact HB.out)⟩
      · replace c13 := Bool.eq_false_iff.mpr c13
        subst c13
        have H1 : (variorumlaw19_ColumnLeast.l0 kj4 l0 a1 l2 t219 t220 0 0 0) = some r := by rw [if_neg (show ¬ (false = true) by decide)] at H; exact H
        clear H
        have H := H1
        clear H1
        have H' := Aside0.mk H
        clear H
        go_wp2
        go_loopg [10, 11, 12] kj4 (fun kq v10 v11 v12 w' => ∃ (x10_2 : Int) (x11_2 : Int) (x12_2 : Int), v10 = .int .i64 x10_2 ∧ v11 = .int .i64 x11_2 ∧ v12 = .int .i64 x12_2 ∧ Aside0 (variorumlaw19_ColumnLeast.l0 kq l0 a1 l2 t219 t220 x10_2 x11_2 x12_2 = some r) ∧ Aside0 (kq ≤ kj4) ∧ Aside0 (Kd.R (Kd.int .i64) 3 w' w.heap.size (fun _ => True) v222 t219) ∧ Aside0 (Below w.heap.size w w'))
        case atStart => exact ⟨(0), (0), (0), (by first | rfl | (simp; done) | (simp [*]; done)), (by first | rfl | (simp; done) | (simp [*]; done)), (by first | rfl | (simp; done) | (simp [*]; done)), H', ⟨Nat.le_refl _⟩, ⟨by (with_reducible repeat (first | apply Kd.R_alloc | apply Kd.R_drewN | apply Kd.R_drew)); exact HO_7.out⟩, ⟨by repeat (first | (with_reducible first | exact HB.out | apply below_alloc | apply pw_below_drewN | apply below_drew1) | exact HB.out)⟩⟩
        case round =>
          clear H'
          try clear c1
          try clear c2
          try clear p2
          try clear c4
          try clear c7
          try clear c8
          try clear c9
          try clear c12
          try clear c13
          try clear p2
          obtain ⟨x10_2, x11_2, x12_2, rfl, rfl, rfl, HA, HK2, HO_7, HB⟩ := hrel
          cases gk with
          | zero => exact absurd HA.out (by simp [variorumlaw19_ColumnLeast.l0])
          | succ k2 =>
            have H := HA.out
            clear HA
            simp only [variorumlaw19_ColumnLeast.l0] at H
            by_cases c16 : x12_2 < (t219.length : Int)
            · rw [if_pos c16] at H
              have c16b0 : decide (x12_2 < (t219.length : Int)) = true := decide_eq_true c16
              clear c16
              by_cases c17 : 0 ≤ x12_2
              · rw [if_pos c17] at H
                have c17b0 : decide (0 ≤ x12_2) = true := decide_eq_true c17
                clear c17
                by_cases c18 : (rd t219 x12_2) < 0
                · rw [if_pos c18] at H
                  exact absurd H (by simp)
                · rw [if_neg c18] at H
                  have c18b0 : decide ((rd t219 x12_2) < 0) = false := decide_eq_false c18
                  clear c18
                  by_cases c19 : (wrap64 (x10_2 + (rd t219 x12_2))) > (l0.length : Int)
                  · rw [if_pos c19] at H
                    exact absurd H (by simp)
                  · rw [if_neg c19] at H
                    have c19b0 : decide ((l0.length : Int) < (wrap64 (x10_2 + (rd t219 x12_2)))) = false := decide_eq_false c19
                    clear c19
                    by_cases c20 : 0 ≤ x10_2
                    · rw [if_pos c20] at H
                      have c20b0 := eq_true c20
                      have c20b1 : decide (0 ≤ x10_2) = true := decide_eq_true c20
                      clear c20
                      by_cases c21 : x10_2 ≤ (wrap64 (x10_2 + (rd t219 x12_2)))
                      · rw [if_pos c21] at H
                        have c21b0 := eq_true c21
                        have c21b1 : decide (x10_2 ≤ (wrap64 (x10_2 + (rd t219 x12_2)))) = true := decide_eq_true c21
                        by_cases c22 : (wrap64 (x10_2 + (rd t219 x12_2))) ≤ (l0.length : Int)
                        · rw [if_pos c22] at H
                          have c22b0 := eq_true c22
                          have c22b1 : decide ((wrap64 (x10_2 + (rd t219 x12_2))) ≤ (l0.length : Int)) = true := decide_eq_true c22
                          replace H := Option.bind_eq_some_iff.mp H
                          obtain ⟨t230, A230, H⟩ := H
                          replace H : (variorumlaw19_ColumnLeast.l0 k2 l0 a1 l2 t219 t220 (wrap64 (x10_2 + (rd t219 x12_2))) (mx x11_2 t230) (wrap64 (x12_2 + 1))) = some r := H
                          have A23 := Aside0.mk A230
                          clear A230
                          obtain ⟨ji24, hji24⟩ : ∃ j_ : Int, (mx x11_2 t230) = j_ := ⟨_, rfl⟩
                          replace H : (variorumlaw19_ColumnLeast.l0 k2 l0 a1 l2 t219 t220 (wrap64 (x10_2 + (rd t219 x12_2))) ji24 (wrap64 (x12_2 + 1))) = some r := by first | (rw [hji24] at H; exact H) | (simp only [hji24] at H ⊢; exact H)
                          (try rw [hji24] at A23)
                          have hji24_ : (if x11_2 < t230 then t230 else x11_2) = ji24 := hji24
                          have H' := Aside0.mk H
                          clear H
                          obtain ⟨Ao25, co25, eo25⟩ := Kd.R_slice HO_7.out
                          subst eo25
                          have p226 : 0 ≤ (x12_2 : Int) := of_decide_eq_true (by first | (with_reducible assumption) | assumption)
                          have q226 : x12_2 < (t219.length : Int) := of_decide_eq_true (by first | (with_reducible assumption) | assumption)
                          obtain ⟨ad226, e226, hx226_0⟩ := Kd.at_int (Kd.R_reads' HO_7.out).2.2 x12_2 p226 q226
                          cases e226
                          replace p226 := eq_true p226
                          replace q226 := eq_true q226
                          have p227 : 0 ≤ (x12_2 : Int) := of_decide_eq_true (by first | (with_reducible assumption) | assumption)
                          have q227 : x12_2 < (t219.length : Int) := of_decide_eq_true (by first | (with_reducible assumption) | assumption)
                          obtain ⟨ad227, e227, hx227_0⟩ := Kd.at_int (Kd.R_reads' HO_7.out).2.2 x12_2 p227 q227
                          obtain rfl : ad226 = ad227 := (by injection e227)
                          replace p227 := eq_true p227
                          replace q227 := eq_true q227
                          have p228 : 0 ≤ (x12_2 : Int) := of_decide_eq_true (by first | (with_reducible assumption) | assumption)
                          have q228 : x12_2 < (t219.length : Int) := of_decide_eq_true (by first | (with_reducible assumption) | assumption)
                          obtain ⟨ad228, e228, hx228_0⟩ := Kd.at_int (Kd.R_reads' HO_7.out).2.2 x12_2 p228 q228
                          obtain rfl : ad226 = ad228 := (by injection e228)
                          replace p228 := eq_true p228
                          replace q228 := eq_true q228
                          obtain ⟨i026, hi026, _, hsz26, _⟩ := info_parts info2
                          obtain ⟨A26, hcut26, hA26, hC26⟩ := print_mid_of (P := Try.prog) (Value.int .i64) 0 22 2 .i64 .i64 Try.underlying22 hi026 hsz26 A0 c0 l0 x10_2 (wrap64 (x10_2 + (rd t219 x12_2))) (of_decide_eq_true (by first | (with_reducible assumption) | assumption)) (by first | omega | exact of_decide_eq_true (by first | (with_reducible assumption) | assumption)) (of_decide_eq_true (by first | (with_reducible assumption) | assumption)) HC0.out
                          have HR229 := Aside0.mk (Kd.C_of_reads (h1 := fun _ => rfl) (hA26 _ (Kd.reads_of_C HR0.out)))
                          have HC229 := Aside0.mk hC26
                          clear hA26 hC26 hi026 hsz26
                          go_wp2_with (first | ((with_reducible refine gate_callee (f := 17) rfl ?_); refine goesL_ (some 68) rfl rfl Try.func17 (by kernel_rfl) rfl #[.slice A26 ((l0.take ((wrap64 (x10_2 + (rd t219 x12_2))) : Int).toNat).drop (x10_2 : Int).toNat).length (c0 - x10_2.toNat)] rfl (by (try simp only [List.map_toArray, List.map_cons, List.map_nil]); first | done | (rw [show ((l0.take ((wrap64 (x10_2 + (rd t219 x12_2))) : Int).toNat).drop (x10_2 : Int).toNat).length = ((wrap64 (x10_2 + (rd t219 x12_2))).toNat - x10_2.toNat) from (by rw [List.length_drop, List.length_take]; have h_ : ((wrap64 (x10_2 + (rd t219 x12_2))) : Int) ≤ (l0.length : Int) := of_decide_eq_true (by first | (with_reducible assumption) | assumption); omega)] <;> rfl) | rfl | (simp only [List.length_drop, List.length_take]; rfl)) ?_; (with_reducible refine (variorumref19_Sum.calls k2 _ _ ((l0.take ((wrap64 (x10_2 + (rd t219 x12_2))) : Int).toNat).drop (x10_2 : Int).toNat) t230 _ ?side1 ?side2 A23.out).mono ?_); (case side1 => repeat (first | exact (Kd.C_below HR229.out HB.out) | (with_reducible refine Kd.C_alloc ?_ _) | (with_reducible refine Kd.C_drewN ?_ _) | (with_reducible refine Kd.C_drew ?_))); (case side2 => exact HC229.out); rintro e w' ⟨rfl, ⟨nd, rfl⟩⟩; refine ⟨_, rfl, ?_⟩; have p231 : 0 ≤ (x12_2 : Int) := of_decide_eq_true (by first | (with_reducible assumption) | assumption); have q231 : x12_2 < (t219.length : Int) := of_decide_eq_true (by first | (with_reducible assumption) | assumption); obtain ⟨ad231, e231, hx231_0⟩ := Kd.at_int (Kd.R_reads' HO_7.out).2.2 x12_2 p231 q231; obtain rfl : ad226 = ad231 := (by injection e231); replace p231 := eq_true p231; replace q231 := eq_true q231))
                          go_roundg k2
                          case measure => have := HJ4.out; have := HK2.out; omega
                          case rel => exact ⟨(wrap64 (x10_2 + (rd t219 x12_2))), (ji24), (wrap64 (x12_2 + 1)), (by first | rfl | (simp; done) | (simp [*]; done)), (by first | rfl | (simp; done) | (simp only [← hji24] <;> (first | rfl | simp)) | (simp [*]; done)), (by first | rfl | (simp; done) | (simp [*]; done)), H', ⟨by have := HJ4.out; have := HK2.out; omega⟩, ⟨by (with_reducible repeat (first | apply Kd.R_alloc | apply Kd.R_drewN | apply Kd.R_drew)); exact HO_7.out⟩, ⟨by repeat (first | (with_reducible first | exact HB.out | apply below_alloc | apply pw_below_drewN | apply below_drew1) | exact HB.out)⟩⟩
                        · rw [if_neg c22] at H
                          exact absurd H (by simp)
                      · rw [if_neg c21] at H
                        exact absurd H (by simp)
                    · rw [if_neg c20] at H
                      exact absurd H (by simp)
              · rw [if_neg c17] at H
                exact absurd H (by simp)
            · rw [if_neg c16] at H
              have c16b0 : decide (x12_2 < (t219.length : Int)) = false := decide_eq_false c16
              clear c16
              have HC27 := Aside0.mk H
              clear H
              obtain ⟨Ao28, co28, eo28⟩ := Kd.R_slice HO_7.out
              subst eo28
              go_upto_region 12 with (fail)
              go_cut [90] (fun v90 wc => ∃ (kq : Nat) (x90_26 : Bool), v90 = .bool x90_26 ∧ Aside0 (variorumlaw19_ColumnLeast.j2 kq l0 a1 l2 t220 x90_26 = some r) ∧ Aside0 (kq ≤ k2) ∧ Aside0 (Below w.heap.size w wc))
              case first =>
                have H := HC27.out
                clear HC27
                by_cases c29 : x10_2 = (l0.length : Int)
                · rw [if_pos c29] at H
                  have c29b0 : (x10_2 == (l0.length : Int)) = true := beq_iff_eq.mpr c29
                  have c29b1 : (x10_2 != (l0.length : Int)) = false := bne_eq_false_iff_eq.mpr c29
                  clear c29
                  (first | rw [c29b0] | (simp only [i64_w, i32_w]; rw [c29b0]) | skip)
                  by_cases c30 : (t219.length : Int) = a1
                  · rw [if_pos c30] at H
                    have c30b0 : ((t219.length : Int) == a1) = true := beq_iff_eq.mpr c30
                    have c30b1 : ((t219.length : Int) != a1) = false := bne_eq_false_iff_eq.mpr c30
                    clear c30
                    have H' := Aside0.mk H
                    clear H
                    go_wp2
                    go_meet
                    case rel => exact ⟨_, (decide (x11_2 > t220)), (by first | rfl | (simp; done) | (simp [*]; done)), H', ⟨by have := HJ4.out; have := HK2.out; first | omega | exact Nat.le_refl _⟩, ⟨by repeat (first | (with_reducible first | exact HB.out | apply below_alloc | apply pw_below_drewN | apply below_drew1) | exact HB.out)⟩⟩
                  · rw [if_neg c30] at H
                    have c30b0 : ((t219.length : Int) == a1) = false := beq_eq_false_iff_ne.mpr c30
                    have c30b1 : ((t219.length : Int) != a1) = true := bne_iff_ne.mpr c30
                    have H' := Aside0.mk H
                    clear H
                    go_wp2
                    go_meet
                    case rel => exact ⟨_, (true), (by first | rfl | (simp; done) | (simp [*]; done)), H', ⟨by have := HJ4.out; have := HK2.out; first | omega | exact Nat.le_refl _⟩, ⟨by repeat (first | (with_reducible first | exact HB.out | apply below_alloc | apply pw_below_drewN | apply below_drew1) | exact HB.out)⟩⟩
                · rw [if_neg c29] at H
                  have c29b0 : (x10_2 == (l0.length : Int)) = false := beq_eq_false_iff_ne.mpr c29
                  have c29b1 : (x10_2 != (l0.length : Int)) = true := bne_iff_ne.mpr c29
                  (first | rw [c29b0] | (simp only [i64_w, i32_w]; rw [c29b0]) | skip)
                  have H' := Aside0.mk H
                  clear H
                  go_wp2
                  go_meet
                  case rel => exact ⟨_, (true), (by first | rfl | (simp; done) | (simp [*]; done)), H', ⟨by have := HJ4.out; have := HK2.out; first | omega | exact Nat.le_refl _⟩, ⟨by repeat (first | (with_reducible first | exact HB.out | apply below_alloc | apply pw_below_drewN | apply below_drew1) | exact HB.out)⟩⟩
              case rest =>
                clear HC27
                try clear c1
                try clear c2
                try clear p2
                try clear q2
                try clear hx2
                try clear c3
                try clear c4
                try clear p6
                try clear c7
                try clear c8
                try clear c9
                try clear c12
                try clear c13
                try clear c16
                try clear c16b0
                try clear c17
                try clear c17b0
                try clear c18
                try clear c18b0
                try clear c19
                try clear c19b0
                try clear c20
                try clear c20b0
                try clear c20b1
                try clear c21
                try clear c21b0
                try clear c21b1
                try clear c22
                try clear c22b0
                try clear c22b1
                try clear p22
                try clear q22
                try clear hx22
                try clear p23
                try clear q23
                try clear hx23
                try clear c29
                try clear c29b0
                try clear c29b1
                try clear c30
                try clear c30b0
                try clear c30b1
                try clear hx226_0
                try clear hx227_0
                try clear hx228_0
                try clear hx231_0
                try clear p2
                try clear p226
                try clear p227
                try clear p228
                try clear p231
                try clear q226
                try clear q227
                try clear q228
                try clear q231
                obtain ⟨kq, x90_26, rfl, HA, HJ26, HB⟩ := hcut
                cases kq with
                | zero => exact absurd HA.out (by simp [variorumlaw19_ColumnLeast.j2])
                | succ kj26 =>
                  have H := HA.out
                  clear HA
                  simp only [variorumlaw19_ColumnLeast.j2] at H
                  by_cases c31 : x90_26 = true
                  · subst c31
                    have H1 : (none) = some r := by rw [if_pos rfl] at H; exact H
                    clear H
                    have H := H1
                    clear H1
                    exact absurd H (by simp)
                  · replace c31 := Bool.eq_false_iff.mpr c31
                    subst c31
                    have H1 : (variorumlaw19_ColumnLeast.l1 kj26 l0 a1 l2 t220 0 0 0) = some r := by rw [if_neg (show ¬ (false = true) by decide)] at H; exact H
                    clear H
                    have H := H1
                    clear H1
                    have H' := Aside0.mk H
                    clear H
                    go_wp2
                    go_loopg [13, 14, 15] kj26 (fun kq v13 v14 v15 w' => ∃ (x13_4 : Int) (x14_4 : Int) (x15_4 : Int), v13 = .int .i64 x13_4 ∧ v14 = .int .i64 x14_4 ∧ v15 = .int .i64 x15_4 ∧ Aside0 (variorumlaw19_ColumnLeast.l1 kq l0 a1 l2 t220 x13_4 x14_4 x15_4 = some r) ∧ Aside0 (kq ≤ kj26) ∧ Aside0 (Below w.heap.size w w'))
                    case atStart => exact ⟨(0), (0), (0), (by first | rfl | (simp; done) | (simp [*]; done)), (by first | rfl | (simp; done) | (simp [*]; done)), (by first | rfl | (simp; done) | (simp [*]; done)), H', ⟨Nat.le_refl _⟩, ⟨by repeat (first | (with_reducible first | exact HB.out | apply below_alloc | apply pw_below_drewN | apply below_drew1) | exact HB.out)⟩⟩
                    case round =>
                      clear H'
                      try clear c1
                      try clear c2
                      try clear p2
                      try clear q2
                      try clear hx2
                      try clear c3
                      try clear c4
                      try clear p6
                      try clear c7
                      try clear c8
                      try clear c9
                      try clear c12
                      try clear c13
                      try clear c16
                      try clear c16b0
                      try clear c17
                      try clear c17b0
                      try clear c18
                      try clear c18b0
                      try clear c19
                      try clear c19b0
                      try clear c20
                      try clear c20b0
                      try clear c20b1
                      try clear c21
                      try clear c21b0
                      try clear c21b1
                      try clear c22
                      try clear c22b0
                      try clear c22b1
                      try clear p22
                      try clear q22
                      try clear hx22
                      try clear p23
                      try clear q23
                      try clear hx23
                      try clear c29
                      try clear c29b0
                      try clear c29b1
                      try clear c30
                      try clear c30b0
                      try clear c30b1
                      try clear c31
                      try clear hx226_0
                      try clear hx227_0
                      try clear hx228_0
                      try clear hx231_0
                      try clear p2
                      try clear p22
                      try clear p226
                      try clear p227
                      try clear p228
                      try clear p23
                      try clear p231
                      try clear p6
                      try clear q2
                      try clear q22
                      try clear q226
                      try clear q227
                      try clear q228
                      try clear q23
                      try clear q231
                      obtain ⟨x13_4, x14_4, x15_4, rfl, rfl, rfl, HA, HK4, HB⟩ := hrel
                      cases gk with
                      | zero => exact absurd HA.out (by simp [variorumlaw19_ColumnLeast.l1])
                      | succ k4 =>
                        have H := HA.out
                        clear HA
                        simp only [variorumlaw19_ColumnLeast.l1] at H
                        by_cases c32 : x15_4 < a1
                        · rw [if_pos c32] at H
                          have c32b0 : decide (x15_4 < a1) = true := decide_eq_true c32
                          clear c32
                          by_cases c33 : x15_4 < (wrap64 (a1 - 1))
                          · rw [if_pos c33] at H
                            have c33b0 : decide (x15_4 < (wrap64 (a1 - 1))) = true := decide_eq_true c33
                            clear c33
                            by_cases c34 : x15_4 < (l2.length : Int)
                            · rw [if_pos c34] at H
                              have c34b0 : decide (x15_4 < (l2.length : Int)) = true := decide_eq_true c34
                              clear c34
                              by_cases c35 : 0 ≤ x15_4
                              · rw [if_pos c35] at H
                                have c35b0 : decide (0 ≤ x15_4) = true := decide_eq_true c35
                                clear c35
                                by_cases c36 : (rd l2 x15_4) > 0
                                · rw [if_pos c36] at H
                                  have c36b0 : decide (0 < (rd l2 x15_4)) = true := decide_eq_true c36
                                  clear c36
                                  obtain ⟨ji37, hji37⟩ : ∃ j_ : Int, (mn (rd l2 x15_4) (wrap64 ((l0.length : Int) - x13_4))) = j_ := ⟨_, rfl⟩
                                  replace H : (if 0 ≤ x13_4 then (if x13_4 ≤ (wrap64 (x13_4 + (ji37))) then (if (wrap64 (x13_4 + (ji37))) ≤ (l0.length : Int) then ((variorumref19_Sum.f k4 ((l0.take ((wrap64 (x13_4 + (ji37))) : Int).toNat).drop (x13_4 : Int).toNat)).bind fun t235 => (variorumlaw19_ColumnLeast.l1 k4 l0 a1 l2 t220 (wrap64 (x13_4 + (ji37))) (mx x14_4 t235) (wrap64 (x15_4 + 1)))) else (none)) else (none)) else (none)) = some r := by first | (rw [hji37] at H; exact H) | (simp only [hji37] at H ⊢; exact H)
                                  have hji37_ : (if (wrap64 ((l0.length : Int) - x13_4)) < (rd l2 x15_4) then (wrap64 ((l0.length : Int) - x13_4)) else (rd l2 x15_4)) = ji37 := hji37
                                  by_cases c38 : 0 ≤ x13_4
                                  · rw [if_pos c38] at H
                                    have c38b0 := eq_true c38
                                    have c38b1 : decide (0 ≤ x13_4) = true := decide_eq_true c38
                                    clear c38
                                    by_cases c39 : x13_4 ≤ (wrap64 (x13_4 + (ji37)))
                                    · rw [if_pos c39] at H
                                      have c39b0 := eq_true c39
                                      have c39b1 : decide (x13_4 ≤ (wrap64 (x13_4 + (ji37)))) = true := decide_eq_true c39
                                      by_cases c40 : (wrap64 (x13_4 + (ji37))) ≤ (l0.length : Int)
                                      · rw [if_pos c40] at H
                                        have c40b0 := eq_true c40
                                        have c40b1 : decide ((wrap64 (x13_4 + (ji37))) ≤ (l0.length : Int)) = true := decide_eq_true c40
                                        replace H := Option.bind_eq_some_iff.mp H
                                        obtain ⟨t235, A410, H⟩ := H
                                        replace H : (variorumlaw19_ColumnLeast.l1 k4 l0 a1 l2 t220 (wrap64 (x13_4 + (ji37))) (mx x14_4 t235) (wrap64 (x15_4 + 1))) = some r := H
                                        have A41 := Aside0.mk A410
                                        clear A410
                                        obtain ⟨ji42, hji42⟩ : ∃ j_ : Int, (mx x14_4 t235) = j_ := ⟨_, rfl⟩
                                        replace H : (variorumlaw19_ColumnLeast.l1 k4 l0 a1 l2 t220 (wrap64 (x13_4 + (ji37))) ji42 (wrap64 (x15_4 + 1))) = some r := by first | (rw [hji42] at H; exact H) | (simp only [hji42] at H ⊢; exact H)
                                        (try rw [hji42] at A41)
                                        have hji42_ : (if x14_4 < t235 then t235 else x14_4) = ji42 := hji42
                                        have H' := Aside0.mk H
                                        clear H
                                        have p232 : 0 ≤ (x15_4 : Int) := of_decide_eq_true (by first | (with_reducible assumption) | assumption)
                                        have q232 : x15_4 < (l2.length : Int) := of_decide_eq_true (by first | (with_reducible assumption) | assumption)
                                        obtain ⟨ad232, e232, hx232_0⟩ := Kd.at_int HR2.out x15_4 p232 q232
                                        cases e232
                                        replace hx232_0 := (HB.out.cell (World.block_lt_of_cell? w _ hx232_0)).trans hx232_0
                                        replace p232 := eq_true p232
                                        replace q232 := eq_true q232
                                        have p233 : 0 ≤ (x15_4 : Int) := of_decide_eq_true (by first | (with_reducible assumption) | assumption)
                                        have q233 : x15_4 < (l2.length : Int) := of_decide_eq_true (by first | (with_reducible assumption) | assumption)
                                        obtain ⟨ad233, e233, hx233_0⟩ := Kd.at_int HR2.out x15_4 p233 q233
                                        obtain rfl : ad232 = ad233 := (by injection e233)
                                        replace hx233_0 := (HB.out.cell (World.block_lt_of_cell? w _ hx233_0)).trans hx233_0
                                        replace p233 := eq_true p233
                                        replace q233 := eq_true q233
                                        obtain ⟨i043, hi043, _, hsz43, _⟩ := info_parts info2
                                        obtain ⟨A43, hcut43, hA43, hC43⟩ := print_mid_of (P := Try.prog) (Value.int .i64) 0 22 2 .i64 .i64 Try.underlying22 hi043 hsz43 A0 c0 l0 x13_4 (wrap64 (x13_4 + (ji37))) (of_decide_eq_true (by first | (with_reducible assumption) | assumption)) (by first | omega | exact of_decide_eq_true (by first | (with_reducible assumption) | assumption)) (of_decide_eq_true (by first | (with_reducible assumption) | assumption)) HC0.out
                                        have HR234 := Aside0.mk (Kd.C_of_reads (h1 := fun _ => rfl) (hA43 _ (Kd.reads_of_C HR0.out)))
                                        have HC234 := Aside0.mk hC43
                                        clear hA43 hC43 hi043 hsz43
                                        go_wp2_with (first | ((with_reducible refine gate_callee (f := 17) rfl ?_); refine goesL_ (some 131) rfl rfl Try.func17 (by kernel_rfl) rfl #[.slice A43 ((l0.take ((wrap64 (x13_4 + (ji37))) : Int).toNat).drop (x13_4 : Int).toNat).length (c0 - x13_4.toNat)] rfl (by (try simp only [List.map_toArray, List.map_cons, List.map_nil]); first | done | (rw [show ((l0.take ((wrap64 (x13_4 + (ji37))) : Int).toNat).drop (x13_4 : Int).toNat).length = ((wrap64 (x13_4 + (ji37))).toNat - x13_4.toNat) from (by rw [List.length_drop, List.length_take]; have h_ : ((wrap64 (x13_4 + (ji37))) : Int) ≤ (l0.length : Int) := of_decide_eq_true (by first | (with_reducible assumption) | assumption); omega)] <;> rfl) | (simp only [hji37]; rfl) | rfl | (simp only [List.length_drop, List.length_take]; rfl)) ?_; (with_reducible refine (variorumref19_Sum.calls k4 _ _ ((l0.take ((wrap64 (x13_4 + (ji37))) : Int).toNat).drop (x13_4 : Int).toNat) t235 _ ?side1 ?side2 A41.out).mono ?_); (case side1 => repeat (first | exact (Kd.C_below HR234.out HB.out) | (with_reducible refine Kd.C_alloc ?_ _) | (with_reducible refine Kd.C_drewN ?_ _) | (with_reducible refine Kd.C_drew ?_))); (case side2 => exact HC234.out); rintro e w' ⟨rfl, ⟨nd, rfl⟩⟩; refine ⟨_, rfl, ?_⟩))
                                        go_roundg k4
                                        case measure => have := HJ4.out; have := HK2.out; have := HJ26.out; have := HK4.out; omega
                                        case rel => exact ⟨(wrap64 (x13_4 + (ji37))), (ji42), (wrap64 (x15_4 + 1)), (by first | rfl | (simp; done) | (simp only [← hji37] <;> (first | rfl | simp)) | (simp [*]; done)), (by first | rfl | (simp; done) | (simp only [← hji42] <;> (first | rfl | simp)) | (simp [*]; done)), (by first | rfl | (simp; done) | (simp [*]; done)), H', ⟨by have := HJ4.out; have := HK2.out; have := HJ26.out; have := HK4.out; omega⟩, ⟨by repeat (first | (with_reducible first | exact HB.out | apply below_alloc | apply pw_below_drewN | apply below_drew1) | exact HB.out)⟩⟩
                                      · rw [if_neg c40] at H
                                        exact absurd H (by simp)
                                    · rw [if_neg c39] at H
                                      exact absurd H (by simp)
                                  · rw [if_neg c38] at H
                                    exact absurd H (by simp)
                                · rw [if_neg c36] at H
                                  have c36b0 : decide (0 < (rd l2 x15_4)) = false := decide_eq_false c36
                                  clear c36
                                  by_cases c44 : 0 ≤ x13_4
                                  · rw [if_pos c44] at H
                                    have c44b0 := eq_true c44
                                    have c44b1 : decide (0 ≤ x13_4) = true := decide_eq_true c44
                                    clear c44
                                    by_cases c45 : x13_4 ≤ (wrap64 x13_4)
                                    · rw [if_pos c45] at H
                                      have c45b0 := eq_true c45
                                      have c45b1 : decide (x13_4 ≤ (wrap64 x13_4)) = true := decide_eq_true c45
                                      by_cases c46 : (wrap64 x13_4) ≤ (l0.length : Int)
                                      · rw [if_pos c46] at H
                                        have c46b0 := eq_true c46
                                        have c46b1 : decide ((wrap64 x13_4) ≤ (l0.length : Int)) = true := decide_eq_true c46
                                        replace H := Option.bind_eq_some_iff.mp H
                                        obtain ⟨t237, A470, H⟩ := H
                                        replace H : (variorumlaw19_ColumnLeast.l1 k4 l0 a1 l2 t220 (wrap64 x13_4) (mx x14_4 t237) (wrap64 (x15_4 + 1))) = some r := H
                                        have A47 := Aside0.mk A470
                                        clear A470
                                        obtain ⟨ji48, hji48⟩ : ∃ j_ : Int, (mx x14_4 t237) = j_ := ⟨_, rfl⟩
                                        replace H : (variorumlaw19_ColumnLeast.l1 k4 l0 a1 l2 t220 (wrap64 x13_4) ji48 (wrap64 (x15_4 + 1))) = some r := by first | (rw [hji48] at H; exact H) | (simp only [hji48] at H ⊢; exact H)
                                        (try rw [hji48] at A47)
                                        have hji48_ : (if x14_4 < t237 then t237 else x14_4) = ji48 := hji48
                                        have H' := Aside0.mk H
                                        clear H
                                        have p232 : 0 ≤ (x15_4 : Int) := of_decide_eq_true (by first | (with_reducible assumption) | assumption)
                                        have q232 : x15_4 < (l2.length : Int) := of_decide_eq_true (by first | (with_reducible assumption) | assumption)
                                        obtain ⟨ad232, e232, hx232_0⟩ := Kd.at_int HR2.out x15_4 p232 q232
                                        cases e232
                                        replace hx232_0 := (HB.out.cell (World.block_lt_of_cell? w _ hx232_0)).trans hx232_0
                                        replace p232 := eq_true p232
                                        replace q232 := eq_true q232
                                        obtain ⟨i049, hi049, _, hsz49, _⟩ := info_parts info2
                                        obtain ⟨A49, hcut49, hA49, hC49⟩ := print_mid_of (P := Try.prog) (Value.int .i64) 0 22 2 .i64 .i64 Try.underlying22 hi049 hsz49 A0 c0 l0 x13_4 (wrap64 x13_4) (of_decide_eq_true (by first | (with_reducible assumption) | assumption)) (by first | omega | exact of_decide_eq_true (by first | (with_reducible assumption) | assumption)) (of_decide_eq_true (by first | (with_reducible assumption) | assumption)) HC0.out
                                        have HR236 := Aside0.mk (Kd.C_of_reads (h1 := fun _ => rfl) (hA49 _ (Kd.reads_of_C HR0.out)))
                                        have HC236 := Aside0.mk hC49
                                        clear hA49 hC49 hi049 hsz49
                                        go_wp2_with (first | ((with_reducible refine gate_callee (f := 17) rfl ?_); refine goesL_ (some 131) rfl rfl Try.func17 (by kernel_rfl) rfl #[.slice A49 ((l0.take ((wrap64 x13_4) : Int).toNat).drop (x13_4 : Int).toNat).length (c0 - x13_4.toNat)] rfl (by (try simp only [List.map_toArray, List.map_cons, List.map_nil]); first | done | (rw [show ((l0.take ((wrap64 x13_4) : Int).toNat).drop (x13_4 : Int).toNat).length = ((wrap64 x13_4).toNat - x13_4.toNat) from (by rw [List.length_drop, List.length_take]; have h_ : ((wrap64 x13_4) : Int) ≤ (l0.length : Int) := of_decide_eq_true (by first | (with_reducible assumption) | assumption); omega)] <;> rfl) | rfl | (simp only [List.length_drop, List.length_take]; rfl)) ?_; (with_reducible refine (variorumref19_Sum.calls k4 _ _ ((l0.take ((wrap64 x13_4) : Int).toNat).drop (x13_4 : Int).toNat) t237 _ ?side1 ?side2 A47.out).mono ?_); (case side1 => repeat (first | exact (Kd.C_below HR236.out HB.out) | (with_reducible refine Kd.C_alloc ?_ _) | (with_reducible refine Kd.C_drewN ?_ _) | (with_reducible refine Kd.C_drew ?_))); (case side2 => exact HC236.out); rintro e w' ⟨rfl, ⟨nd, rfl⟩⟩; refine ⟨_, rfl, ?_⟩))
                                        go_roundg k4
                                        case measure => have := HJ4.out; have := HK2.out; have := HJ26.out; have := HK4.out; omega
                                        case rel => exact ⟨(wrap64 x13_4), (ji48), (wrap64 (x15_4 + 1)), (by first | rfl | (simp; done) | (simp [*]; done)), (by first | rfl | (simp; done) | (simp only [← hji48] <;> (first | rfl | simp)) | (simp [*]; done)), (by first | rfl | (simp; done) | (simp [*]; done)), H', ⟨by have := HJ4.out; have := HK2.out; have := HJ26.out; have := HK4.out; omega⟩, ⟨by repeat (first | (with_reducible first | exact HB.out | apply below_alloc | apply pw_below_drewN | apply below_drew1) | exact HB.out)⟩⟩
                                      · rw [if_neg c46] at H
                                        exact absurd H (by simp)
                                    · rw [if_neg c45] at H
                                      exact absurd H (by simp)
                                  · rw [if_neg c44] at H
                                    exact absurd H (by simp)
                              · rw [if_neg c35] at H
                                exact absurd H (by simp)
                            · rw [if_neg c34] at H
                              have c34b0 : decide (x15_4 < (l2.length : Int)) = false := decide_eq_false c34
                              clear c34
                              by_cases c50 : 0 ≤ x13_4
                              · rw [if_pos c50] at H
                                have c50b0 := eq_true c50
                                have c50b1 : decide (0 ≤ x13_4) = true := decide_eq_true c50
                                clear c50
                                by_cases c51 : x13_4 ≤ (wrap64 x13_4)
                                · rw [if_pos c51] at H
                                  have c51b0 := eq_true c51
                                  have c51b1 : decide (x13_4 ≤ (wrap64 x13_4)) = true := decide_eq_true c51
                                  by_cases c52 : (wrap64 x13_4) ≤ (l0.length : Int)
                                  · rw [if_pos c52] at H
                                    have c52b0 := eq_true c52
                                    have c52b1 : decide ((wrap64 x13_4) ≤ (l0.length : Int)) = true := decide_eq_true c52
                                    replace H := Option.bind_eq_some_iff.mp H
                                    obtain ⟨t239, A530, H⟩ := H
                                    replace H : (variorumlaw19_ColumnLeast.l1 k4 l0 a1 l2 t220 (wrap64 x13_4) (mx x14_4 t239) (wrap64 (x15_4 + 1))) = some r := H
                                    have A53 := Aside0.mk A530
                                    clear A530
                                    obtain ⟨ji54, hji54⟩ : ∃ j_ : Int, (mx x14_4 t239) = j_ := ⟨_, rfl⟩
                                    replace H : (variorumlaw19_ColumnLeast.l1 k4 l0 a1 l2 t220 (wrap64 x13_4) ji54 (wrap64 (x15_4 + 1))) = some r := by first | (rw [hji54] at H; exact H) | (simp only [hji54] at H ⊢; exact H)
                                    (try rw [hji54] at A53)
                                    have hji54_ : (if x14_4 < t239 then t239 else x14_4) = ji54 := hji54
                                    have H' := Aside0.mk H
                                    clear H
                                    obtain ⟨i055, hi055, _, hsz55, _⟩ := info_parts info2
                                    obtain ⟨A55, hcut55, hA55, hC55⟩ := print_mid_of (P := Try.prog) (Value.int .i64) 0 22 2 .i64 .i64 Try.underlying22 hi055 hsz55 A0 c0 l0 x13_4 (wrap64 x13_4) (of_decide_eq_true (by first | (with_reducible assumption) | assumption)) (by first | omega | exact of_decide_eq_true (by first | (with_reducible assumption) | assumption)) (of_decide_eq_true (by first | (with_reducible assumption) | assumption)) HC0.out
                                    have HR238 := Aside0.mk (Kd.C_of_reads (h1 := fun _ => rfl) (hA55 _ (Kd.reads_of_C HR0.out)))
                                    have HC238 := Aside0.mk hC55
                                    clear hA55 hC55 hi055 hsz55
                                    go_wp2_with (first | ((with_reducible refine gate_callee (f := 17) rfl ?_); refine goesL_ (some 131) rfl rfl Try.func17 (by kernel_rfl) rfl #[.slice A55 ((l0.take ((wrap64 x13_4) : Int).toNat).drop (x13_4 : Int).toNat).length (c0 - x13_4.toNat)] rfl (by (try simp only [List.map_toArray, List.map_cons, List.map_nil]); first | done | (rw [show ((l0.take ((wrap64 x13_4) : Int).toNat).drop (x13_4 : Int).toNat).length = ((wrap64 x13_4).toNat - x13_4.toNat) from (by rw [List.length_drop, List.length_take]; have h_ : ((wrap64 x13_4) : Int) ≤ (l0.length : Int) := of_decide_eq_true (by first | (with_reducible assumption) | assumption); omega)] <;> rfl) | rfl | (simp only [List.length_drop, List.length_take]; rfl)) ?_; (with_reducible refine (variorumref19_Sum.calls k4 _ _ ((l0.take ((wrap64 x13_4) : Int).toNat).drop (x13_4 : Int).toNat) t239 _ ?side1 ?side2 A53.out).mono ?_); (case side1 => repeat (first | exact (Kd.C_below HR238.out HB.out) | (with_reducible refine Kd.C_alloc ?_ _) | (with_reducible refine Kd.C_drewN ?_ _) | (with_reducible refine Kd.C_drew ?_))); (case side2 => exact HC238.out); rintro e w' ⟨rfl, ⟨nd, rfl⟩⟩; refine ⟨_, rfl, ?_⟩))
                                    go_roundg k4
                                    case measure => have := HJ4.out; have := HK2.out; have := HJ26.out; have := HK4.out; omega
                                    case rel => exact ⟨(wrap64 x13_4), (ji54), (wrap64 (x15_4 + 1)), (by first | rfl | (simp; done) | (simp [*]; done)), (by first | rfl | (simp; done) | (simp only [← hji54] <;> (first | rfl | simp)) | (simp [*]; done)), (by first | rfl | (simp; done) | (simp [*]; done)), H', ⟨by have := HJ4.out; have := HK2.out; have := HJ26.out; have := HK4.out; omega⟩, ⟨by repeat (first | (with_reducible first | exact HB.out | apply below_alloc | apply pw_below_drewN | apply below_drew1) | exact HB.out)⟩⟩
                                  · rw [if_neg c52] at H
                                    exact absurd H (by simp)
                                · rw [if_neg c51] at H
                                  exact absurd H (by simp)
                              · rw [if_neg c50] at H
                                exact absurd H (by simp)
                          · rw [if_neg c33] at H
                            have c33b0 : decide (x15_4 < (wrap64 (a1 - 1))) = false := decide_eq_false c33
                            clear c33
                            by_cases c56 : 0 ≤ x13_4
                            · rw [if_pos c56] at H
                              have c56b0 := eq_true c56
                              have c56b1 : decide (0 ≤ x13_4) = true := decide_eq_true c56
                              clear c56
                              by_cases c57 : x13_4 ≤ (wrap64 (x13_4 + (wrap64 ((l0.length : Int) - x13_4))))
                              · rw [if_pos c57] at H
                                have c57b0 := eq_true c57
                                have c57b1 : decide (x13_4 ≤ (wrap64 (x13_4 + (wrap64 ((l0.length : Int) - x13_4))))) = true := decide_eq_true c57
                                by_cases c58 : (wrap64 (x13_4 + (wrap64 ((l0.length : Int) - x13_4)))) ≤ (l0.length : Int)
                                · rw [if_pos c58] at H
                                  have c58b0 := eq_true c58
                                  have c58b1 : decide ((wrap64 (x13_4 + (wrap64 ((l0.length : Int) - x13_4)))) ≤ (l0.length : Int)) = true := decide_eq_true c58
                                  replace H := Option.bind_eq_some_iff.mp H
                                  obtain ⟨t241, A590, H⟩ := H
                                  replace H : (variorumlaw19_ColumnLeast.l1 k4 l0 a1 l2 t220 (wrap64 (x13_4 + (wrap64 ((l0.length : Int) - x13_4)))) (mx x14_4 t241) (wrap64 (x15_4 + 1))) = some r := H
                                  have A59 := Aside0.mk A590
                                  clear A590
                                  obtain ⟨ji60, hji60⟩ : ∃ j_ : Int, (mx x14_4 t241) = j_ := ⟨_, rfl⟩
                                  replace H : (variorumlaw19_ColumnLeast.l1 k4 l0 a1 l2 t220 (wrap64 (x13_4 + (wrap64 ((l0.length : Int) - x13_4)))) ji60 (wrap64 (x15_4 + 1))) = some r := by first | (rw [hji60] at H; exact H) | (simp only [hji60] at H ⊢; exact H)
                                  (try rw [hji60] at A59)
                                  have hji60_ : (if x14_4 < t241 then t241 else x14_4) = ji60 := hji60
                                  have H' := Aside0.mk H
                                  clear H
                                  obtain ⟨i061, hi061, _, hsz61, _⟩ := info_parts info2
                                  obtain ⟨A61, hcut61, hA61, hC61⟩ := print_mid_of (P := Try.prog) (Value.int .i64) 0 22 2 .i64 .i64 Try.underlying22 hi061 hsz61 A0 c0 l0 x13_4 (wrap64 (x13_4 + (wrap64 ((l0.length : Int) - x13_4)))) (of_decide_eq_true (by first | (with_reducible assumption) | assumption)) (by first | omega | exact of_decide_eq_true (by first | (with_reducible assumption) | assumption)) (of_decide_eq_true (by first | (with_reducible assumption) | assumption)) HC0.out
                                  have HR240 := Aside0.mk (Kd.C_of_reads (h1 := fun _ => rfl) (hA61 _ (Kd.reads_of_C HR0.out)))
                                  have HC240 := Aside0.mk hC61
                                  clear hA61 hC61 hi061 hsz61
                                  go_wp2_with (first | ((with_reducible refine gate_callee (f := 17) rfl ?_); refine goesL_ (some 131) rfl rfl Try.func17 (by kernel_rfl) rfl #[.slice A61 ((l0.take ((wrap64 (x13_4 + (wrap64 ((l0.length : Int) - x13_4)))) : Int).toNat).drop (x13_4 : Int).toNat).length (c0 - x13_4.toNat)] rfl (by (try simp only [List.map_toArray, List.map_cons, List.map_nil]); first | done | (rw [show ((l0.take ((wrap64 (x13_4 + (wrap64 ((l0.length : Int) - x13_4)))) : Int).toNat).drop (x13_4 : Int).toNat).length = ((wrap64 (x13_4 + (wrap64 ((l0.length : Int) - x13_4)))).toNat - x13_4.toNat) from (by rw [List.length_drop, List.length_take]; have h_ : ((wrap64 (x13_4 + (wrap64 ((l0.length : Int) - x13_4)))) : Int) ≤ (l0.length : Int) := of_decide_eq_true (by first | (with_reducible assumption) | assumption); omega)] <;> rfl) | rfl | (simp only [List.length_drop, List.length_take]; rfl)) ?_; (with_reducible refine (variorumref19_Sum.calls k4 _ _ ((l0.take ((wrap64 (x13_4 + (wrap64 ((l0.length : Int) - x13_4)))) : Int).toNat).drop (x13_4 : Int).toNat) t241 _ ?side1 ?side2 A59.out).mono ?_); (case side1 => repeat (first | exact (Kd.C_below HR240.out HB.out) | (with_reducible refine Kd.C_alloc ?_ _) | (with_reducible refine Kd.C_drewN ?_ _) | (with_reducible refine Kd.C_drew ?_))); (case side2 => exact HC240.out); rintro e w' ⟨rfl, ⟨nd, rfl⟩⟩; refine ⟨_, rfl, ?_⟩))
                                  go_roundg k4
                                  case measure => have := HJ4.out; have := HK2.out; have := HJ26.out; have := HK4.out; omega
                                  case rel => exact ⟨(wrap64 (x13_4 + (wrap64 ((l0.length : Int) - x13_4)))), (ji60), (wrap64 (x15_4 + 1)), (by first | rfl | (simp; done) | (simp [*]; done)), (by first | rfl | (simp; done) | (simp only [← hji60] <;> (first | rfl | simp)) | (simp [*]; done)), (by first | rfl | (simp; done) | (simp [*]; done)), H', ⟨by have := HJ4.out; have := HK2.out; have := HJ26.out; have := HK4.out; omega⟩, ⟨by repeat (first | (with_reducible first | exact HB.out | apply below_alloc | apply pw_below_drewN | apply below_drew1) | exact HB.out)⟩⟩
                                · rw [if_neg c58] at H
                                  exact absurd H (by simp)
                              · rw [if_neg c57] at H
                                exact absurd H (by simp)
                            · rw [if_neg c56] at H
                              exact absurd H (by simp)
                        · rw [if_neg c32] at H
                          have c32b0 : decide (x15_4 < a1) = false := decide_eq_false c32
                          clear c32
                          obtain rfl := Option.some.inj H
                          go_wp2
                          go_ret
                          exact ⟨by first | rfl | (simp [errW_none, errW_some] <;> rfl) | (simp [*, errW_none, errW_some] <;> rfl), by repeat (first | (with_reducible first | exact HB.out | apply below_alloc | apply pw_below_drewN | apply below_drew1) | exact HB.out)⟩

/-- The one statement about numbers and lists that is left of the law. -/
def variorumlaw19_ColumnLeast.Pure : Prop := ∀ (x0 : List Int) (x1 : Int) (x2 : List Int), (x0.length * 8 ≤ 140737488351232 ∧ ∀ y0 ∈ x0, (Lit.int .i64 y0).wf = true) → (Lit.int .i64 x1).wf = true → (x2.length * 8 ≤ 140737488351232 ∧ ∀ y0 ∈ x2, (Lit.int .i64 y0).wf = true) → ∃ k, variorumlaw19_ColumnLeast.f k x0 x1 x2 = some true

end Go.Proofs.Ytgkpomeobaheiaa.PAll

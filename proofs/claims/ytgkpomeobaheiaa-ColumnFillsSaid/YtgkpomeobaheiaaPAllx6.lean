/- Written by a program of this session: functions of the given program as plain Lean functions, the walks that show it, and the row of each law, for every input that its statement speaks of. -/
import Derived.Test.YtgkpomeobaheiaaPAllx0
import Derived.Test.YtgkpomeobaheiaaPAllx1
import Derived.Test.YtgkpomeobaheiaaPAllx2
namespace Go.Proofs.Ytgkpomeobaheiaa.PAll
open Go.RowKit Go.Proofs.YtgkpomeobaheiaaW.PrintWords Go.Proofs.YtgkpomeobaheiaaW.PrintLast Go.Proofs.YtgkpomeobaheiaaW.PrintMore
attribute [local go_sem] max2_int min2_int max_two min_two max_three min_three max_four min_four   -- for this text's walks alone
set_option linter.unusedVariables false
set_option linter.unusedSimpArgs false

/-! ### variorumlaw19_ColumnMore: function 5 -/
mutual
def variorumlaw19_ColumnMore.j0 : Nat → List Int → Int → Int → Int → Bool → Option (Bool)
  | 0, _, _, _, _, _ => none
  | k + 1, x0, x1, x2, x7, x33 => if x33 = true then ((variorumlaw19_fixed.f k).bind fun t245 => (some t245)) else ((column_Least.f k x0 1).bind fun bt246 => ((column_Least.f k x0 (wrap64 (x1 + 1))).bind fun bt248 => (variorumlaw19_ColumnMore.l0 k x0 x1 x2 x7 bt246.1 bt246.2 bt248.1 bt248.2 0 0)))
def variorumlaw19_ColumnMore.l0 : Nat → List Int → Int → Int → Int → Int → Bool → Int → Bool → Int → Int → Option (Bool)
  | 0, _, _, _, _, _, _, _, _, _, _ => none
  | k + 1, x0, x1, x2, x7, x9, x10, x11, x12, x13, x14 => if x14 < (x0.length : Int) then (if 0 ≤ x14 then (variorumlaw19_ColumnMore.l0 k x0 x1 x2 x7 x9 x10 x11 x12 (mx x13 (rd x0 x14)) (wrap64 (x14 + 1))) else (none)) else ((some (([] : List Int) : List Int)).bind fun y251 => (if y251.length + x0.length < 17592186044416 then ((some (y251 ++ x0 : List Int)).bind fun y254 => (if y254.length < 17592186044416 then ((column_Least.f k (y254 ++ [x2]) x1).bind fun bt260 => (if x10 = true then ((variorumref19_Sum.f k x0).bind fun t262 => (if x9 = t262 then (if x7 ≤ x9 then (if x12 = true then (if x11 ≤ x7 then (if x7 ≥ x13 then (if (wrap64 (x7 * x1)) ≥ x9 then (if bt260.2 = true then (some (decide (bt260.1 ≥ x7))) else (some true)) else (none)) else (none)) else (none)) else (if x7 ≥ x13 then (if (wrap64 (x7 * x1)) ≥ x9 then (if bt260.2 = true then (some (decide (bt260.1 ≥ x7))) else (some true)) else (none)) else (none))) else (none)) else (none))) else (none))) else (none))) else (none)))
end
def variorumlaw19_ColumnMore.f (k : Nat) (l0 : List Int) (a1 : Int) (a2 : Int) : Option (Bool) := (column_Least.f k l0 a1).bind fun bt242 => ((variorumlaw19_fixed.f k).bind fun t244 => (if t244 = true then (if bt242.2 = true then (variorumlaw19_ColumnMore.j0 k l0 a1 a2 bt242.1 (decide ((l0.length : Int) > 100))) else (variorumlaw19_ColumnMore.j0 k l0 a1 a2 bt242.1 true)) else (variorumlaw19_ColumnMore.j0 k l0 a1 a2 bt242.1 true)))
theorem variorumlaw19_ColumnMore.mono_l : ∀ k, (∀ y0 y1 y2 y3 y4, LeO (variorumlaw19_ColumnMore.j0 k y0 y1 y2 y3 y4) (variorumlaw19_ColumnMore.j0 (k + 1) y0 y1 y2 y3 y4)) ∧ (∀ y0 y1 y2 y3 y4 y5 y6 y7 y8 y9, LeO (variorumlaw19_ColumnMore.l0 k y0 y1 y2 y3 y4 y5 y6 y7 y8 y9) (variorumlaw19_ColumnMore.l0 (k + 1) y0 y1 y2 y3 y4 y5 y6 y7 y8 y9))
  | 0 => ⟨fun _ _ _ _ _ r h => by simp [variorumlaw19_ColumnMore.j0] at h, fun _ _ _ _ _ _ _ _ _ _ r h => by simp [variorumlaw19_ColumnMore.l0] at h⟩
  | k + 1 => by
    obtain ⟨ih0, ih1⟩ := variorumlaw19_ColumnMore.mono_l k
    refine ⟨?_, ?_⟩
    · intro y0 y1 y2 y3 y4
      unfold variorumlaw19_ColumnMore.j0
      repeat' first
      | (with_reducible exact ih0 _ _ _ _ _)
      | (with_reducible exact ih1 _ _ _ _ _ _ _ _ _ _)
      | (with_reducible exact column_Least.mono _ _ _)
      | (with_reducible exact variorumlaw19_fixed.mono _)
      | (with_reducible exact variorumref19_Sum.mono _ _)
      | (with_reducible exact LeO.refl _)
      | (with_reducible exact LeO.none _)
      | (with_reducible refine LeO.ite ?_ ?_)
      | (with_reducible refine LeO.bind ?_ (fun _ => ?_))
      | exact ih0 _ _ _ _ _
      | exact ih1 _ _ _ _ _ _ _ _ _ _
      | exact column_Least.mono _ _ _
      | exact variorumlaw19_fixed.mono _
      | exact variorumref19_Sum.mono _ _
      | exact LeO.none _
      | refine LeO.ite ?_ ?_
      | refine LeO.bind ?_ (fun _ => ?_)
    · intro y0 y1 y2 y3 y4 y5 y6 y7 y8 y9
      unfold variorumlaw19_ColumnMore.l0
      repeat' first
      | (with_reducible exact ih0 _ _ _ _ _)
      | (with_reducible exact ih1 _ _ _ _ _ _ _ _ _ _)
      | (with_reducible exact column_Least.mono _ _ _)
      | (with_reducible exact variorumlaw19_fixed.mono _)
      | (with_reducible exact variorumref19_Sum.mono _ _)
      | (with_reducible exact LeO.refl _)
      | (with_reducible exact LeO.none _)
      | (with_reducible refine LeO.ite ?_ ?_)
      | (with_reducible refine LeO.bind ?_ (fun _ => ?_))
      | exact ih0 _ _ _ _ _
      | exact ih1 _ _ _ _ _ _ _ _ _ _
      | exact column_Least.mono _ _ _
      | exact variorumlaw19_fixed.mono _
      | exact variorumref19_Sum.mono _ _
      | exact LeO.none _
      | refine LeO.ite ?_ ?_
      | refine LeO.bind ?_ (fun _ => ?_)
theorem variorumlaw19_ColumnMore.mono : ∀ a0 a1 a2 k, LeO (variorumlaw19_ColumnMore.f k a0 a1 a2) (variorumlaw19_ColumnMore.f (k + 1) a0 a1 a2) := by
  intro a0 a1 a2 k
  obtain ⟨ih0, ih1⟩ := variorumlaw19_ColumnMore.mono_l k
  unfold variorumlaw19_ColumnMore.f
  repeat' first
      | (with_reducible exact ih0 _ _ _ _ _)
      | (with_reducible exact ih1 _ _ _ _ _ _ _ _ _ _)
      | (with_reducible exact column_Least.mono _ _ _)
      | (with_reducible exact variorumlaw19_fixed.mono _)
      | (with_reducible exact variorumref19_Sum.mono _ _)
      | (with_reducible exact LeO.refl _)
      | (with_reducible exact LeO.none _)
      | (with_reducible refine LeO.ite ?_ ?_)
      | (with_reducible refine LeO.bind ?_ (fun _ => ?_))
      | exact ih0 _ _ _ _ _
      | exact ih1 _ _ _ _ _ _ _ _ _ _
      | exact column_Least.mono _ _ _
      | exact variorumlaw19_fixed.mono _
      | exact variorumref19_Sum.mono _ _
      | exact LeO.none _
      | refine LeO.ite ?_ ?_
      | refine LeO.bind ?_ (fun _ => ?_)
set_option maxHeartbeats 8000000 in
set_option maxRecDepth 100000 in
theorem variorumlaw19_ColumnMore.calls (k : Nat) (A0 : Option Addr) (c0 : Nat) (l0 : List Int) (a1 : Int) (a2 : Int) (r : Bool) (w : World) (hr0 : Kd.C (Kd.int .i64) w A0 l0.length l0) (hc0 : l0.length ≤ c0) (h : variorumlaw19_ColumnMore.f k l0 a1 a2 = some r) :
    Calls Try.prog 5 #[.slice A0 l0.length c0, .int .i64 a1, .int .i64 a2] w fun e w' => e = .returned (.bool r) ∧ Below w.heap.size w w' := by
  have HR0 := Aside0.mk hr0
  have HC0 := Aside0.mk hc0
  clear hr0 hc0
  have HB := Aside0.mk (Below.refl w.heap.size w)
  have H : ((column_Least.f k l0 a1).bind fun bt242 => ((variorumlaw19_fixed.f k).bind fun t244 => (if t244 = true then (if bt242.2 = true then (variorumlaw19_ColumnMore.j0 k l0 a1 a2 bt242.1 (decide ((l0.length : Int) > 100))) else (variorumlaw19_ColumnMore.j0 k l0 a1 a2 bt242.1 true)) else (variorumlaw19_ColumnMore.j0 k l0 a1 a2 bt242.1 true)))) = some r := h
  clear h
  replace H := Option.bind_eq_some_iff.mp H
  obtain ⟨⟨t242, t243⟩, A40, H⟩ := H
  replace H : ((variorumlaw19_fixed.f k).bind fun t244 => (if t244 = true then (if t243 = true then (variorumlaw19_ColumnMore.j0 k l0 a1 a2 t242 (decide ((l0.length : Int) > 100))) else (variorumlaw19_ColumnMore.j0 k l0 a1 a2 t242 true)) else (variorumlaw19_ColumnMore.j0 k l0 a1 a2 t242 true))) = some r := H
  have A4 := Aside0.mk A40
  clear A40
  have HC5 := Aside0.mk H
  clear H
  go_enter Try.func5, Try.ntmps5
  go_upto_region 2 with (first | ((with_reducible refine gate_callee (f := 8) rfl ?_); refine goesL_ (some 20) rfl rfl Try.func8 (by kernel_rfl) rfl #[.slice A0 l0.length c0, .int .i64 a1] rfl (by (try simp only [List.map_toArray, List.map_cons, List.map_nil]); first | done | rfl | (simp only [List.length_drop, List.length_take]; rfl) | (simp only [*]; first | done | rfl)) ?_; (with_reducible refine (column_Least.calls k _ _ l0 a1 t242 t243 _ ?side1 ?side2 A4.out).mono ?_); (case side1 => repeat (first | exact HR0.out | (with_reducible refine Kd.C_alloc ?_ _) | (with_reducible refine Kd.C_drewN ?_ _) | (with_reducible refine Kd.C_drew ?_))); (case side2 => exact HC0.out); rintro e w6 ⟨rfl, hb⟩; refine ⟨_, rfl, ?_⟩; have n0_ := Aside0.mk (below_step (by repeat (first | (with_reducible first | exact HB.out | apply below_alloc | apply pw_below_drewN | apply below_drew1) | exact HB.out)) hb); clear HB; have HB := n0_; clear n0_; (try clear hb); (try clear hb2); (try clear hk); (try clear hi)))
  (try simp only [Act.put, List.setIfInBounds_toArray, List.set_cons_zero, List.set_cons_succ])
  go_cut [33] (fun v33 wc => ∃ (kq : Nat) (x33_4 : Bool), v33 = .bool x33_4 ∧ Aside0 (variorumlaw19_ColumnMore.j0 kq l0 a1 a2 t242 x33_4 = some r) ∧ Aside0 (kq ≤ k) ∧ Aside0 (Below w.heap.size w wc))
  case first =>
    have H := HC5.out
    clear HC5
    replace H := Option.bind_eq_some_iff.mp H
    obtain ⟨t244, A70, H⟩ := H
    replace H : (if t244 = true then (if t243 = true then (variorumlaw19_ColumnMore.j0 k l0 a1 a2 t242 (decide ((l0.length : Int) > 100))) else (variorumlaw19_ColumnMore.j0 k l0 a1 a2 t242 true)) else (variorumlaw19_ColumnMore.j0 k l0 a1 a2 t242 true)) = some r := H
    have A7 := Aside0.mk A70
    clear A70
    by_cases c8 : t244 = true
    · subst c8
      have H1 : (if t243 = true then (variorumlaw19_ColumnMore.j0 k l0 a1 a2 t242 (decide ((l0.length : Int) > 100))) else (variorumlaw19_ColumnMore.j0 k l0 a1 a2 t242 true)) = some r := by rw [if_pos rfl] at H; exact H
      clear H
      have H := H1
      clear H1
      by_cases c9 : t243 = true
      · subst c9
        have H1 : (variorumlaw19_ColumnMore.j0 k l0 a1 a2 t242 (decide ((l0.length : Int) > 100))) = some r := by rw [if_pos rfl] at H; exact H
        clear H
        have H := H1
        clear H1
        have H' := Aside0.mk H
        clear H
        go_wp2_with (first | ((with_reducible refine gate_callee (f := 7) rfl ?_); refine goesL_ (some 23) rfl rfl Try.func7 (by kernel_rfl) rfl #[] rfl (by (try simp only [List.map_toArray, List.map_cons, List.map_nil]); first | done | rfl | (simp only [List.length_drop, List.length_take]; rfl) | (simp only [*]; first | done | rfl)) ?_; (with_reducible refine (variorumlaw19_fixed.calls k  true _ A7.out).mono ?_); rintro e w10 ⟨rfl, hb⟩; refine ⟨_, rfl, ?_⟩; have n0_ := Aside0.mk (below_step (by repeat (first | (with_reducible first | exact HB.out | apply below_alloc | apply pw_below_drewN | apply below_drew1) | exact HB.out)) hb); clear HB; have HB := n0_; clear n0_; (try clear hb); (try clear hb2); (try clear hk); (try clear hi)))
        go_meet
        case rel => exact ⟨_, (decide ((l0.length : Int) > 100)), (by first | rfl | (simp; done) | (simp [*]; done)), H', ⟨by first | omega | exact Nat.le_refl _⟩, ⟨by repeat (first | (with_reducible first | exact HB.out | apply below_alloc | apply pw_below_drewN | apply below_drew1) | exact HB.out)⟩⟩
      · replace c9 := Bool.eq_false_iff.mpr c9
        subst c9
        have H1 : (variorumlaw19_ColumnMore.j0 k l0 a1 a2 t242 true) = some r := by rw [if_neg (show ¬ (false = true) by decide)] at H; exact H
        clear H
        have H := H1
        clear H1
        have H' := Aside0.mk H
        clear H
        go_wp2_with (first | ((with_reducible refine gate_callee (f := 7) rfl ?_); refine goesL_ (some 23) rfl rfl Try.func7 (by kernel_rfl) rfl #[] rfl (by (try simp only [List.map_toArray, List.map_cons, List.map_nil]); first | done | rfl | (simp only [List.length_drop, List.length_take]; rfl) | (simp only [*]; first | done | rfl)) ?_; (with_reducible refine (variorumlaw19_fixed.calls k  true _ A7.out).mono ?_); rintro e w11 ⟨rfl, hb⟩; refine ⟨_, rfl, ?_⟩; have n0_ := Aside0.mk (below_step (by repeat (first | (with_reducible first | exact HB.out | apply below_alloc | apply pw_below_drewN | apply below_drew1) | exact HB.out)) hb); clear HB; have HB := n0_; clear n0_; (try clear hb); (try clear hb2); (try clear hk); (try clear hi)))
        go_meet
        case rel => exact ⟨_, (true), (by first | rfl | (simp; done) | (simp [*]; done)), H', ⟨by first | omega | exact Nat.le_refl _⟩, ⟨by repeat (first | (with_reducible first | exact HB.out | apply below_alloc | apply pw_below_drewN | apply below_drew1) | exact HB.out)⟩⟩
    · replace c8 := Bool.eq_false_iff.mpr c8
      subst c8
      have H1 : (variorumlaw19_ColumnMore.j0 k l0 a1 a2 t242 true) = some r := by rw [if_neg (show ¬ (false = true) by decide)] at H; exact H
      clear H
      have H := H1
      clear H1
      have H' := Aside0.mk H
      clear H
      go_wp2_with (first | ((with_reducible refine gate_callee (f := 7) rfl ?_); refine goesL_ (some 23) rfl rfl Try.func7 (by kernel_rfl) rfl #[] rfl (by (try simp only [List.map_toArray, List.map_cons, List.map_nil]); first | done | rfl | (simp only [List.length_drop, List.length_take]; rfl) | (simp only [*]; first | done | rfl)) ?_; (with_reducible refine (variorumlaw19_fixed.calls k  false _ A7.out).mono ?_); rintro e w12 ⟨rfl, hb⟩; refine ⟨_, rfl, ?_⟩; have n0_ := Aside0.mk (below_step (by repeat (first | (with_reducible first | exact HB.out | apply below_alloc | apply pw_below_drewN | apply below_drew1) | exact HB.out)) hb); clear HB; have HB := n0_; clear n0_; (try clear hb); (try clear hb2); (try clear hk); (try clear hi)))
      go_meet
      case rel => exact ⟨_, (true), (by first | rfl | (simp; done) | (simp [*]; done)), H', ⟨by first | omega | exact Nat.le_refl _⟩, ⟨by repeat (first | (with_reducible first | exact HB.out | apply below_alloc | apply pw_below_drewN | apply below_drew1) | exact HB.out)⟩⟩
  case rest =>
    clear HC5
    try clear p2
    try clear c5
    try clear c7
    try clear c8
    try clear c9
    obtain ⟨kq, x33_4, rfl, HA, HJ4, HB⟩ := hcut
    cases kq with
    | zero => exact absurd HA.out (by simp [variorumlaw19_ColumnMore.j0])
    | succ kj4 =>
      have H := HA.out
      clear HA
      simp only [variorumlaw19_ColumnMore.j0] at H
      by_cases c13 : x33_4 = true
      · subst c13
        have H1 : ((variorumlaw19_fixed.f kj4).bind fun t245 => (some t245)) = some r := by rw [if_pos rfl] at H; exact H
        clear H
        have H := H1
        clear H1
        replace H := Option.bind_eq_some_iff.mp H
        obtain ⟨t245, A140, H⟩ := H
        replace H : (some t245) = some r := H
        have A14 := Aside0.mk A140
        clear A140
        obtain rfl := Option.some.inj H
        go_wp2_with (first | ((with_reducible refine gate_callee (f := 7) rfl ?_); refine goesL_ (some 34) rfl rfl Try.func7 (by kernel_rfl) rfl #[] rfl (by (try simp only [List.map_toArray, List.map_cons, List.map_nil]); first | done | rfl | (simp only [List.length_drop, List.length_take]; rfl) | (simp only [*]; first | done | rfl)) ?_; (with_reducible refine (variorumlaw19_fixed.calls kj4  t245 _ A14.out).mono ?_); rintro e w15 ⟨rfl, hb⟩; refine ⟨_, rfl, ?_⟩; have n0_ := Aside0.mk (below_step (by repeat (first | (with_reducible first | exact HB.out | apply below_alloc | apply pw_below_drewN | apply below_drew1) | exact HB.out)) hb); clear HB; have HB := n0_; clear n0_; (try clear hb); (try clear hb2); (try clear hk); (try clear hi)))
        go_ret
        exact ⟨by first | rfl | (simp [errW_none, errW_some] <;> rfl) | (simp [*, errW_none, errW_some] <;> rfl), by repeat (first | (with_reducible first | exact HB.out | apply below_alloc | apply pw_below_drewN | apply below_drew1) | exact HB.out)⟩
      · replace c13 := Bool.eq_false_iff.mpr c13
        subst c13
        have H1 : ((column_Least.f kj4 l0 1).bind fun bt246 => ((column_Least.f kj4 l0 (wrap64 (a1 + 1))).bind fun bt248 => (variorumlaw19_ColumnMore.l0 kj4 l0 a1 a2 t242 bt246.1 bt246.2 bt248.1 bt248.2 0 0))) = some r := by rw [if_neg (show ¬ (false = true) by decide)] at H; exact H
        clear H
        have H := H1
        clear H1
        replace H := Option.bind_eq_some_iff.mp H
        obtain ⟨⟨t246, t247⟩, A160, H⟩ := H
        replace H : ((column_Least.f kj4 l0 (wrap64 (a1 + 1))).bind fun bt248 => (variorumlaw19_ColumnMore.l0 kj4 l0 a1 a2 t242 t246 t247 bt248.1 bt248.2 0 0)) = some r := H
        have A16 := Aside0.mk A160
        clear A160
        replace H := Option.bind_eq_some_iff.mp H
        obtain ⟨⟨t248, t249⟩, A170, H⟩ := H
        replace H : (variorumlaw19_ColumnMore.l0 kj4 l0 a1 a2 t242 t246 t247 t248 t249 0 0) = some r := H
        have A17 := Aside0.mk A170
        clear A170
        have H' := Aside0.mk H
        clear H
        go_wp2_with (first | ((with_reducible refine gate_callee (f := 8) rfl ?_); refine goesL_ (some 37) rfl rfl Try.func8 (by kernel_rfl) rfl #[.slice A0 l0.length c0, .int .i64 1] rfl (by (try simp only [List.map_toArray, List.map_cons, List.map_nil]); first | done | rfl | (simp only [List.length_drop, List.length_take]; rfl) | (simp only [*]; first | done | rfl)) ?_; (with_reducible refine (column_Least.calls kj4 _ _ l0 1 t246 t247 _ ?side1 ?side2 A16.out).mono ?_); (case side1 => repeat (first | exact (Kd.C_below HR0.out HB.out) | (with_reducible refine Kd.C_alloc ?_ _) | (with_reducible refine Kd.C_drewN ?_ _) | (with_reducible refine Kd.C_drew ?_))); (case side2 => exact HC0.out); rintro e w18 ⟨rfl, hb⟩; refine ⟨_, rfl, ?_⟩; have n0_ := Aside0.mk (below_step (by repeat (first | (with_reducible first | exact HB.out | apply below_alloc | apply pw_below_drewN | apply below_drew1) | exact HB.out)) hb); clear HB; have HB := n0_; clear n0_; (try clear hb); (try clear hb2); (try clear hk); (try clear hi)) | ((with_reducible refine gate_callee (f := 8) rfl ?_); refine goesL_ (some 44) rfl rfl Try.func8 (by kernel_rfl) rfl #[.slice A0 l0.length c0, .int .i64 (wrap64 (a1 + 1))] rfl (by (try simp only [List.map_toArray, List.map_cons, List.map_nil]); first | done | rfl | (simp only [List.length_drop, List.length_take]; rfl) | (simp only [*]; first | done | rfl)) ?_; (with_reducible refine (column_Least.calls kj4 _ _ l0 (wrap64 (a1 + 1)) t248 t249 _ ?side1 ?side2 A17.out).mono ?_); (case side1 => repeat (first | exact (Kd.C_below HR0.out HB.out) | (with_reducible refine Kd.C_alloc ?_ _) | (with_reducible refine Kd.C_drewN ?_ _) | (with_reducible refine Kd.C_drew ?_))); (case side2 => exact HC0.out); rintro e w19 ⟨rfl, hb⟩; refine ⟨_, rfl, ?_⟩; have n0_ := Aside0.mk (below_step (by repeat (first | (with_reducible first | exact HB.out | apply below_alloc | apply pw_below_drewN | apply below_drew1) | exact HB.out)) hb); clear HB; have HB := n0_; clear n0_; (try clear hb); (try clear hb2); (try clear hk); (try clear hi)))
        go_loopg [13, 14] kj4 (fun kq v13 v14 w' => ∃ (x13_2 : Int) (x14_2 : Int), v13 = .int .i64 x13_2 ∧ v14 = .int .i64 x14_2 ∧ Aside0 (variorumlaw19_ColumnMore.l0 kq l0 a1 a2 t242 t246 t247 t248 t249 x13_2 x14_2 = some r) ∧ Aside0 (kq ≤ kj4) ∧ Aside0 (Below w.heap.size w w'))
        case atStart => exact ⟨(0), (0), (by first | rfl | (simp; done) | (simp [*]; done)), (by first | rfl | (simp; done) | (simp [*]; done)), H', ⟨Nat.le_refl _⟩, ⟨by repeat (first | (with_reducible first | exact HB.out | apply below_alloc | apply pw_below_drewN | apply below_drew1) | exact HB.out)⟩⟩
        case round =>
          clear H'
          try clear c1
          try clear p2
          try clear c5
          try clear p6
          try clear c7
          try clear c8
          try clear c9
          try clear c13
          try clear p2
          obtain ⟨x13_2, x14_2, rfl, rfl, HA, HK2, HB⟩ := hrel
          cases gk with
          | zero => exact absurd HA.out (by simp [variorumlaw19_ColumnMore.l0])
          | succ k2 =>
            have H := HA.out
            clear HA
            simp only [variorumlaw19_ColumnMore.l0] at H
            by_cases c20 : x14_2 < (l0.length : Int)
            · rw [if_pos c20] at H
              have c20b0 : decide (x14_2 < (l0.length : Int)) = true := decide_eq_true c20
              clear c20
              by_cases c21 : 0 ≤ x14_2
              · rw [if_pos c21] at H
                have c21b0 : decide (0 ≤ x14_2) = true := decide_eq_true c21
                clear c21
                obtain ⟨ji22, hji22⟩ : ∃ j_ : Int, (mx x13_2 (rd l0 x14_2)) = j_ := ⟨_, rfl⟩
                replace H : (variorumlaw19_ColumnMore.l0 k2 l0 a1 a2 t242 t246 t247 t248 t249 ji22 (wrap64 (x14_2 + 1))) = some r := by first | (rw [hji22] at H; exact H) | (simp only [hji22] at H ⊢; exact H)
                have hji22_ : (if x13_2 < (rd l0 x14_2) then (rd l0 x14_2) else x13_2) = ji22 := hji22
                have H' := Aside0.mk H
                clear H
                have p250 : 0 ≤ (x14_2 : Int) := of_decide_eq_true (by first | (with_reducible assumption) | assumption)
                have q250 : x14_2 < (l0.length : Int) := of_decide_eq_true (by first | (with_reducible assumption) | assumption)
                obtain ⟨ad250, e250, hx250_0⟩ := Kd.at_int HR0.out x14_2 p250 q250
                cases e250
                replace hx250_0 := (HB.out.cell (World.block_lt_of_cell? w _ hx250_0)).trans hx250_0
                replace p250 := eq_true p250
                replace q250 := eq_true q250
                go_wp2
                go_roundg k2
                case measure => have := HJ4.out; have := HK2.out; omega
                case rel => exact ⟨(ji22), (wrap64 (x14_2 + 1)), (by first | rfl | (simp; done) | (simp only [← hji22] <;> (first | rfl | simp)) | (simp [*]; done)), (by first | rfl | (simp; done) | (simp [*]; done)), H', ⟨by have := HJ4.out; have := HK2.out; omega⟩, ⟨by repeat (first | (with_reducible first | exact HB.out | apply below_alloc | apply pw_below_drewN | apply below_drew1) | exact HB.out)⟩⟩
              · rw [if_neg c21] at H
                exact absurd H (by simp)
            · rw [if_neg c20] at H
              have c20b0 : decide (x14_2 < (l0.length : Int)) = false := decide_eq_false c20
              clear c20
              obtain ⟨y251, hy251⟩ : ∃ y_ : List Int, y_ = (([] : List Int)) := ⟨_, rfl⟩
              replace H : (if y251.length + l0.length < 17592186044416 then ((some (y251 ++ l0 : List Int)).bind fun y254 => (if y254.length < 17592186044416 then ((column_Least.f k2 (y254 ++ [a2]) a1).bind fun bt260 => (if t247 = true then ((variorumref19_Sum.f k2 l0).bind fun t262 => (if t246 = t262 then (if t242 ≤ t246 then (if t249 = true then (if t248 ≤ t242 then (if t242 ≥ x13_2 then (if (wrap64 (t242 * a1)) ≥ t246 then (if bt260.2 = true then (some (decide (bt260.1 ≥ t242))) else (some true)) else (none)) else (none)) else (none)) else (if t242 ≥ x13_2 then (if (wrap64 (t242 * a1)) ≥ t246 then (if bt260.2 = true then (some (decide (bt260.1 ≥ t242))) else (some true)) else (none)) else (none))) else (none)) else (none))) else (none))) else (none))) else (none)) = some r := by first | (rw [hy251]; with_reducible exact H) | (have H2_ := (Option.bind_some _ _).symm.trans H; rw [hy251]; with_reducible exact H2_) | (have H2_ := (Option.bind_some _ _).symm.trans H; with_reducible exact H2_) | with_reducible exact H | (rw [hy251]; exact H) | exact H
              have Ny251 := Aside0.mk hy251
              clear hy251
              by_cases c23 : y251.length + l0.length < 17592186044416
              · rw [if_pos c23] at H
                have LMc23 := Aside0.mk c23
                clear c23
                obtain ⟨y254, hy254⟩ : ∃ y_ : List Int, y_ = (y251 ++ l0) := ⟨_, rfl⟩
                replace H : (if y254.length < 17592186044416 then ((column_Least.f k2 (y254 ++ [a2]) a1).bind fun bt260 => (if t247 = true then ((variorumref19_Sum.f k2 l0).bind fun t262 => (if t246 = t262 then (if t242 ≤ t246 then (if t249 = true then (if t248 ≤ t242 then (if t242 ≥ x13_2 then (if (wrap64 (t242 * a1)) ≥ t246 then (if bt260.2 = true then (some (decide (bt260.1 ≥ t242))) else (some true)) else (none)) else (none)) else (none)) else (if t242 ≥ x13_2 then (if (wrap64 (t242 * a1)) ≥ t246 then (if bt260.2 = true then (some (decide (bt260.1 ≥ t242))) else (some true)) else (none)) else (none))) else (none)) else (none))) else (none))) else (none)) = some r := by first | (rw [hy254]; with_reducible exact H) | (have H2_ := (Option.bind_some _ _).symm.trans H; rw [hy254]; with_reducible exact H2_) | (have H2_ := (Option.bind_some _ _).symm.trans H; with_reducible exact H2_) | with_reducible exact H | (rw [hy254]; exact H) | exact H
                have Ny254 := Aside0.mk hy254
                clear hy254
                by_cases c24 : y254.length < 17592186044416
                · rw [if_pos c24] at H
                  have LMc24 := Aside0.mk c24
                  clear c24
                  obtain ⟨y257, hy257⟩ : ∃ y_ : List Int, y_ = (y254 ++ [a2]) := ⟨_, rfl⟩
                  replace H : ((column_Least.f k2 y257 a1).bind fun bt260 => (if t247 = true then ((variorumref19_Sum.f k2 l0).bind fun t262 => (if t246 = t262 then (if t242 ≤ t246 then (if t249 = true then (if t248 ≤ t242 then (if t242 ≥ x13_2 then (if (wrap64 (t242 * a1)) ≥ t246 then (if bt260.2 = true then (some (decide (bt260.1 ≥ t242))) else (some true)) else (none)) else (none)) else (none)) else (if t242 ≥ x13_2 then (if (wrap64 (t242 * a1)) ≥ t246 then (if bt260.2 = true then (some (decide (bt260.1 ≥ t242))) else (some true)) else (none)) else (none))) else (none)) else (none))) else (none))) = some r := by first | (rw [hy257]; with_reducible exact H) | (have H2_ := (Option.bind_some _ _).symm.trans H; rw [hy257]; with_reducible exact H2_) | (have H2_ := (Option.bind_some _ _).symm.trans H; with_reducible exact H2_) | with_reducible exact H | (rw [hy257]; exact H) | exact H
                  have Ny257 := Aside0.mk hy257
                  clear hy257
                  replace H := Option.bind_eq_some_iff.mp H
                  obtain ⟨⟨t260, t261⟩, A250, H⟩ := H
                  replace H : (if t247 = true then ((variorumref19_Sum.f k2 l0).bind fun t262 => (if t246 = t262 then (if t242 ≤ t246 then (if t249 = true then (if t248 ≤ t242 then (if t242 ≥ x13_2 then (if (wrap64 (t242 * a1)) ≥ t246 then (if t261 = true then (some (decide (t260 ≥ t242))) else (some true)) else (none)) else (none)) else (none)) else (if t242 ≥ x13_2 then (if (wrap64 (t242 * a1)) ≥ t246 then (if t261 = true then (some (decide (t260 ≥ t242))) else (some true)) else (none)) else (none))) else (none)) else (none))) else (none)) = some r := H
                  have A25 := Aside0.mk A250
                  clear A250
                  by_cases c26 : t247 = true
                  · subst c26
                    have H1 : ((variorumref19_Sum.f k2 l0).bind fun t262 => (if t246 = t262 then (if t242 ≤ t246 then (if t249 = true then (if t248 ≤ t242 then (if t242 ≥ x13_2 then (if (wrap64 (t242 * a1)) ≥ t246 then (if t261 = true then (some (decide (t260 ≥ t242))) else (some true)) else (none)) else (none)) else (none)) else (if t242 ≥ x13_2 then (if (wrap64 (t242 * a1)) ≥ t246 then (if t261 = true then (some (decide (t260 ≥ t242))) else (some true)) else (none)) else (none))) else (none)) else (none))) = some r := by rw [if_pos rfl] at H; exact H
                    clear H
                    have H := H1
                    clear H1
                    replace H := Option.bind_eq_some_iff.mp H
                    obtain ⟨t262, A270, H⟩ := H
                    replace H : (if t246 = t262 then (if t242 ≤ t246 then (if t249 = true then (if t248 ≤ t242 then (if t242 ≥ x13_2 then (if (wrap64 (t242 * a1)) ≥ t246 then (if t261 = true then (some (decide (t260 ≥ t242))) else (some true)) else (none)) else (none)) else (none)) else (if t242 ≥ x13_2 then (if (wrap64 (t242 * a1)) ≥ t246 then (if t261 = true then (some (decide (t260 ≥ t242))) else (some true)) else (none)) else (none))) else (none)) else (none)) = some r := H
                    have A27 := Aside0.mk A270
                    clear A270
                    by_cases c28 : t246 = t262
                    · rw [if_pos c28] at H
                      have c28b0 : (t246 == t262) = true := beq_iff_eq.mpr c28
                      have c28b1 : (t246 != t262) = false := bne_eq_false_iff_eq.mpr c28
                      clear c28
                      by_cases c29 : t242 ≤ t246
                      · rw [if_pos c29] at H
                        have c29b0 : decide (t242 ≤ t246) = true := decide_eq_true c29
                        clear c29
                        by_cases c30 : t249 = true
                        · subst c30
                          have H1 : (if t248 ≤ t242 then (if t242 ≥ x13_2 then (if (wrap64 (t242 * a1)) ≥ t246 then (if t261 = true then (some (decide (t260 ≥ t242))) else (some true)) else (none)) else (none)) else (none)) = some r := by rw [if_pos rfl] at H; exact H
                          clear H
                          have H := H1
                          clear H1
                          by_cases c31 : t248 ≤ t242
                          · rw [if_pos c31] at H
                            have c31b0 : decide (t248 ≤ t242) = true := decide_eq_true c31
                            clear c31
                            by_cases c32 : t242 ≥ x13_2
                            · rw [if_pos c32] at H
                              have c32b0 : decide (x13_2 ≤ t242) = true := decide_eq_true c32
                              clear c32
                              by_cases c33 : (wrap64 (t242 * a1)) ≥ t246
                              · rw [if_pos c33] at H
                                have c33b0 : decide (t246 ≤ (wrap64 (t242 * a1))) = true := decide_eq_true c33
                                clear c33
                                by_cases c34 : t261 = true
                                · subst c34
                                  have H1 : (some (decide (t260 ≥ t242))) = some r := by rw [if_pos rfl] at H; exact H
                                  clear H
                                  have H := H1
                                  clear H1
                                  obtain rfl := Option.some.inj H
                                  go_wp2_with (first | ((with_reducible refine gate_dst (N := 60) rfl ?_); (try (refine gate_guard (by rfl) ?_; dsimp only)); refine Kd.R_lit (Kd.int .i64) _ 2 ?hg (N := 60) ?hd (xs := ([] : List Int)) (inner := []) (ok := fun _ => True) (okp := fun _ => True) ?hr ?hp (fun _ hk => hk) trivial (Below.refl _ _) (Nat.le_refl _) (by simp) ?_; (case hd => rfl); (case hg => rfl); (case hr => first | (go_simp; done) | (go_simp; rfl)); (case hp => exact (Reps.none _ _)); intro v252 w35 ho36 hb hg_ hnew_; clear hg_ hnew_; (first | rw [← Ny251.out] at ho36 | (simp only [Int.reduceToNat] at ho36; rw [← Ny251.out] at ho36)); have n0_ := Aside0.mk (Kd.R_lower ho36 (below_size (by repeat (first | (with_reducible first | exact HB.out | apply below_alloc | apply pw_below_drewN | apply below_drew1) | exact HB.out)))); have n1_ := Aside0.mk (below_step (by repeat (first | (with_reducible first | exact HB.out | apply below_alloc | apply pw_below_drewN | apply below_drew1) | exact HB.out)) hb); clear HB; have HO253 := n0_; have HB := n1_; clear n0_ n1_; clear hb ho36) | ((with_reducible refine gate_builtin (b := .append) (xs := #[.tmp 60, .tmp 61]) rfl ?_); (try (refine gate_guard (by rfl) ?_; dsimp only)); at_builtin; refine Kd.R_append_rows (Kd.int .i64) (w0 := w) w.heap.size rfl (.tmp 60) (.tmp 61) 22 2 (.int .i64 0) 8 rfl Try.underlying22 info2 rfl (by decide) (by omega) v252 y251 l0 _ _ _ (fun _ => True) (fun _ => False) rfl rfl ?aO ?aR (fun _ _ h => h) (fun _ h => h.elim) ?aF ?aB ?aS ?aL ?_; (case aR => repeat (first | exact (Kd.C_below HR0.out HB.out) | (with_reducible refine Kd.C_alloc ?_ _) | (with_reducible refine Kd.C_drewN ?_ _) | (with_reducible refine Kd.C_drew ?_))); (case aB => exact (by repeat (first | (with_reducible first | exact HB.out | apply below_alloc | apply pw_below_drewN | apply below_drew1) | exact HB.out))); (case aF => exact (fun _ _ => trivial)); (case aO => exact (by (with_reducible repeat (first | apply Kd.R_alloc | apply Kd.R_drewN | apply Kd.R_drew)); exact HO253.out)); (case aS => exact (below_size (by repeat (first | (with_reducible first | exact HB.out | apply below_alloc | apply pw_below_drewN | apply below_drew1) | exact HB.out)))); (case aL => have := LMc23.out; omega); intro v255 w37 ho hb hg hat; rw [← Ny254.out] at ho; have n0_ := Aside0.mk (hb); have n1_ := Aside0.mk (ho); clear HB; clear HO253; have HB := n0_; have HO256 := n1_; clear n0_ n1_; clear ho hb hg hat) | ((with_reducible refine gate_builtin (b := .append) (xs := #[.tmp 62, .tmp 64]) rfl ?_); (try (refine gate_guard (by rfl) ?_; dsimp only)); at_builtin; refine Kd.R_append (Kd.int .i64) (w0 := w) w.heap.size rfl (.tmp 62) (.tmp 64) 22 2 (.int .i64 0) 8 rfl Try.underlying22 info2 rfl (by decide) (by omega) v255 y254 a2 [.int .i64 a2] (fun _ => True) (fun _ => False) rfl rfl ?aP (fun _ hk => hk.elim) ?aF ?aO ?aB ?aS ?aL ?_; (case aP => exact rfl); (case aB => exact (by repeat (first | (with_reducible first | exact HB.out | apply below_alloc | apply pw_below_drewN | apply below_drew1) | exact HB.out))); (case aF => exact (fun _ _ => trivial)); (case aO => exact (by (with_reducible repeat (first | apply Kd.R_alloc | apply Kd.R_drewN | apply Kd.R_drew)); exact HO256.out)); (case aS => exact (below_size (by repeat (first | (with_reducible first | exact HB.out | apply below_alloc | apply pw_below_drewN | apply below_drew1) | exact HB.out)))); (case aL => have := LMc24.out; omega); intro v258 w38 ho hb hg hat; rw [← Ny257.out] at ho; have n0_ := Aside0.mk (hb); have n1_ := Aside0.mk (ho); clear HB; clear HO256; have HB := n0_; have HO259 := n1_; clear n0_ n1_; clear ho hb hg hat; obtain ⟨Ao39, co39, eo39⟩ := Kd.R_slice HO259.out; subst eo39) | ((with_reducible refine gate_callee (f := 8) rfl ?_); refine goesL_ (some 67) rfl rfl Try.func8 (by kernel_rfl) rfl #[.slice Ao39 y257.length co39, .int .i64 a1] rfl (by (try simp only [List.map_toArray, List.map_cons, List.map_nil]); first | done | rfl | (simp only [List.length_drop, List.length_take]; rfl) | (simp only [*]; first | done | rfl)) ?_; (with_reducible refine (column_Least.calls k2 _ _ y257 a1 t260 true _ ?side1 ?side2 A25.out).mono ?_); (case side1 => repeat (first | exact (Kd.R_reads' HO259.out).2.2 | (with_reducible refine Kd.C_alloc ?_ _) | (with_reducible refine Kd.C_drewN ?_ _) | (with_reducible refine Kd.C_drew ?_))); (case side2 => exact (Kd.R_reads' HO259.out).2.1); rintro e w40 ⟨rfl, hb⟩; refine ⟨_, rfl, ?_⟩; have n0_ := Aside0.mk (Kd.R_below (by (with_reducible repeat (first | apply Kd.R_alloc | apply Kd.R_drewN | apply Kd.R_drew)); exact HO259.out) hb); have n1_ := Aside0.mk (below_step (by repeat (first | (with_reducible first | exact HB.out | apply below_alloc | apply pw_below_drewN | apply below_drew1) | exact HB.out)) hb); clear HO259; clear HB; have HO259 := n0_; have HB := n1_; clear n0_ n1_; (try clear hb); (try clear hb2); (try clear hk); (try clear hi)) | (go_at_call 17; (with_reducible refine (variorumref19_Sum.calls k2 _ _ l0 t262 _ ?side1 ?side2 A27.out).mono ?_); (case side1 => repeat (first | exact (Kd.C_below HR0.out HB.out) | (with_reducible refine Kd.C_alloc ?_ _) | (with_reducible refine Kd.C_drewN ?_ _) | (with_reducible refine Kd.C_drew ?_))); (case side2 => exact HC0.out); rintro e w' ⟨rfl, ⟨nd, rfl⟩⟩))
                                  go_ret
                                  exact ⟨by first | rfl | (simp [errW_none, errW_some] <;> rfl) | (simp [*, errW_none, errW_some] <;> rfl), by repeat (first | (with_reducible first | exact HB.out | apply below_alloc | apply pw_below_drewN | apply below_drew1) | exact HB.out)⟩
                                · replace c34 := Bool.eq_false_iff.mpr c34
                                  subst c34
                                  have H1 : (some true) = some r := by rw [if_neg (show ¬ (false = true) by decide)] at H; exact H
                                  clear H
                                  have H := H1
                                  clear H1
                                  obtain rfl := Option.some.inj H
                                  go_wp2_with (first | ((with_reducible refine gate_dst (N := 60) rfl ?_); (try (refine gate_guard (by rfl) ?_; dsimp only)); refine Kd.R_lit (Kd.int .i64) _ 2 ?hg (N := 60) ?hd (xs := ([] : List Int)) (inner := []) (ok := fun _ => True) (okp := fun _ => True) ?hr ?hp (fun _ hk => hk) trivial (Below.refl _ _) (Nat.le_refl _) (by simp) ?_; (case hd => rfl); (case hg => rfl); (case hr => first | (go_simp; done) | (go_simp; rfl)); (case hp => exact (Reps.none _ _)); intro v252 w41 ho42 hb hg_ hnew_; clear hg_ hnew_; (first | rw [← Ny251.out] at ho42 | (simp only [Int.reduceToNat] at ho42; rw [← Ny251.out] at ho42)); have n0_ := Aside0.mk (Kd.R_lower ho42 (below_size (by repeat (first | (with_reducible first | exact HB.out | apply below_alloc | apply pw_below_drewN | apply below_drew1) | exact HB.out)))); have n1_ := Aside0.mk (below_step (by repeat (first | (with_reducible first | exact HB.out | apply below_alloc | apply pw_below_drewN | apply below_drew1) | exact HB.out)) hb); clear HB; have HO253 := n0_; have HB := n1_; clear n0_ n1_; clear hb ho42) | ((with_reducible refine gate_builtin (b := .append) (xs := #[.tmp 60, .tmp 61]) rfl ?_); (try (refine gate_guard (by rfl) ?_; dsimp only)); at_builtin; refine Kd.R_append_rows (Kd.int .i64) (w0 := w) w.heap.size rfl (.tmp 60) (.tmp 61) 22 2 (.int .i64 0) 8 rfl Try.underlying22 info2 rfl (by decide) (by omega) v252 y251 l0 _ _ _ (fun _ => True) (fun _ => False) rfl rfl ?aO ?aR (fun _ _ h => h) (fun _ h => h.elim) ?aF ?aB ?aS ?aL ?_; (case aR => repeat (first | exact (Kd.C_below HR0.out HB.out) | (with_reducible refine Kd.C_alloc ?_ _) | (with_reducible refine Kd.C_drewN ?_ _) | (with_reducible refine Kd.C_drew ?_))); (case aB => exact (by repeat (first | (with_reducible first | exact HB.out | apply below_alloc | apply pw_below_drewN | apply below_drew1) | exact HB.out))); (case aF => exact (fun _ _ => trivial)); (case aO => exact (by (with_reducible repeat (first | apply Kd.R_alloc | apply Kd.R_drewN | apply Kd.R_drew)); exact HO253.out)); (case aS => exact (below_size (by repeat (first | (with_reducible first | exact HB.out | apply below_alloc | apply pw_below_drewN | apply below_drew1) | exact HB.out)))); (case aL => have := LMc23.out; omega); intro v255 w43 ho hb hg hat; rw [← Ny254.out] at ho; have n0_ := Aside0.mk (hb); have n1_ := Aside0.mk (ho); clear HB; clear HO253; have HB := n0_; have HO256 := n1_; clear n0_ n1_; clear ho hb hg hat) | ((with_reducible refine gate_builtin (b := .append) (xs := #[.tmp 62, .tmp 64]) rfl ?_); (try (refine gate_guard (by rfl) ?_; dsimp only)); at_builtin; refine Kd.R_append (Kd.int .i64) (w0 := w) w.heap.size rfl (.tmp 62) (.tmp 64) 22 2 (.int .i64 0) 8 rfl Try.underlying22 info2 rfl (by decide) (by omega) v255 y254 a2 [.int .i64 a2] (fun _ => True) (fun _ => False) rfl rfl ?aP (fun _ hk => hk.elim) ?aF ?aO ?aB ?aS ?aL ?_; (case aP => exact rfl); (case aB => exact (by repeat (first | (with_reducible first | exact HB.out | apply below_alloc | apply pw_below_drewN | apply below_drew1) | exact HB.out))); (case aF => exact (fun _ _ => trivial)); (case aO => exact (by (with_reducible repeat (first | apply Kd.R_alloc | apply Kd.R_drewN | apply Kd.R_drew)); exact HO256.out)); (case aS => exact (below_size (by repeat (first | (with_reducible first | exact HB.out | apply below_alloc | apply pw_below_drewN | apply below_drew1) | exact HB.out)))); (case aL => have := LMc24.out; omega); intro v258 w44 ho hb hg hat; rw [← Ny257.out] at ho; have n0_ := Aside0.mk (hb); have n1_ := Aside0.mk (ho); clear HB; clear HO256; have HB := n0_; have HO259 := n1_; clear n0_ n1_; clear ho hb hg hat; obtain ⟨Ao45, co45, eo45⟩ := Kd.R_slice HO259.out; subst eo45) | ((with_reducible refine gate_callee (f := 8) rfl ?_); refine goesL_ (some 67) rfl rfl Try.func8 (by kernel_rfl) rfl #[.slice Ao45 y257.length co45, .int .i64 a1] rfl (by (try simp only [List.map_toArray, List.map_cons, List.map_nil]); first | done | rfl | (simp only [List.length_drop, List.length_take]; rfl) | (simp only [*]; first | done | rfl)) ?_; (with_reducible refine (column_Least.calls k2 _ _ y257 a1 t260 false _ ?side1 ?side2 A25.out).mono ?_); (case side1 => repeat (first | exact (Kd.R_reads' HO259.out).2.2 | (with_reducible refine Kd.C_alloc ?_ _) | (with_reducible refine Kd.C_drewN ?_ _) | (with_reducible refine Kd.C_drew ?_))); (case side2 => exact (Kd.R_reads' HO259.out).2.1); rintro e w46 ⟨rfl, hb⟩; refine ⟨_, rfl, ?_⟩; have n0_ := Aside0.mk (Kd.R_below (by (with_reducible repeat (first | apply Kd.R_alloc | apply Kd.R_drewN | apply Kd.R_drew)); exact HO259.out) hb); have n1_ := Aside0.mk (below_step (by repeat (first | (with_reducible first | exact HB.out | apply below_alloc | apply pw_below_drewN | apply below_drew1) | exact HB.out)) hb); clear HO259; clear HB; have HO259 := n0_; have HB := n1_; clear n0_ n1_; (try clear hb); (try clear hb2); (try clear hk); (try clear hi)) | (go_at_call 17; (with_reducible refine (variorumref19_Sum.calls k2 _ _ l0 t262 _ ?side1 ?side2 A27.out).mono ?_); (case side1 => repeat (first | exact (Kd.C_below HR0.out HB.out) | (with_reducible refine Kd.C_alloc ?_ _) | (with_reducible refine Kd.C_drewN ?_ _) | (with_reducible refine Kd.C_drew ?_))); (case side2 => exact HC0.out); rintro e w' ⟨rfl, ⟨nd, rfl⟩⟩))
                                  go_ret
                                  exact ⟨by first | rfl | (simp [errW_none, errW_some] <;> rfl) | (simp [*, errW_none, errW_some] <;> rfl), by repeat (first | (with_reducible first | exact HB.out | apply below_alloc | apply pw_below_drewN | apply below_drew1) | exact HB.out)⟩
                              · rw [if_neg c33] at H
                                exact absurd H (by simp)
                            · rw [if_neg c32] at H
                              exact absurd H (by simp)
                          · rw [if_neg c31] at H
                            exact absurd H (by simp)
                        · replace c30 := Bool.eq_false_iff.mpr c30
                          subst c30
                          have H1 : (if t242 ≥ x13_2 then (if (wrap64 (t242 * a1)) ≥ t246 then (if t261 = true then (some (decide (t260 ≥ t242))) else (some true)) else (none)) else (none)) = some r := by rw [if_neg (show ¬ (false = true) by decide)] at H; exact H
                          clear H
                          have H := H1
                          clear H1
                          by_cases c47 : t242 ≥ x13_2
                          · rw [if_pos c47] at H
                            have c47b0 : decide (x13_2 ≤ t242) = true := decide_eq_true c47
                            clear c47
                            by_cases c48 : (wrap64 (t242 * a1)) ≥ t246
                            · rw [if_pos c48] at H
                              have c48b0 : decide (t246 ≤ (wrap64 (t242 * a1))) = true := decide_eq_true c48
                              clear c48
                              by_cases c49 : t261 = true
                              · subst c49
                                have H1 : (some (decide (t260 ≥ t242))) = some r := by rw [if_pos rfl] at H; exact H
                                clear H
                                have H := H1
                                clear H1
                                obtain rfl := Option.some.inj H
                                go_wp2_with (first | ((with_reducible refine gate_dst (N := 60) rfl ?_); (try (refine gate_guard (by rfl) ?_; dsimp only)); refine Kd.R_lit (Kd.int .i64) _ 2 ?hg (N := 60) ?hd (xs := ([] : List Int)) (inner := []) (ok := fun _ => True) (okp := fun _ => True) ?hr ?hp (fun _ hk => hk) trivial (Below.refl _ _) (Nat.le_refl _) (by simp) ?_; (case hd => rfl); (case hg => rfl); (case hr => first | (go_simp; done) | (go_simp; rfl)); (case hp => exact (Reps.none _ _)); intro v252 w50 ho51 hb hg_ hnew_; clear hg_ hnew_; (first | rw [← Ny251.out] at ho51 | (simp only [Int.reduceToNat] at ho51; rw [← Ny251.out] at ho51)); have n0_ := Aside0.mk (Kd.R_lower ho51 (below_size (by repeat (first | (with_reducible first | exact HB.out | apply below_alloc | apply pw_below_drewN | apply below_drew1) | exact HB.out)))); have n1_ := Aside0.mk (below_step (by repeat (first | (with_reducible first | exact HB.out | apply below_alloc | apply pw_below_drewN | apply below_drew1) | exact HB.out)) hb); clear HB; have HO253 := n0_; have HB := n1_; clear n0_ n1_; clear hb ho51) | ((with_reducible refine gate_builtin (b := .append) (xs := #[.tmp 60, .tmp 61]) rfl ?_); (try (refine gate_guard (by rfl) ?_; dsimp only)); at_builtin; refine Kd.R_append_rows (Kd.int .i64) (w0 := w) w.heap.size rfl (.tmp 60) (.tmp 61) 22 2 (.int .i64 0) 8 rfl Try.underlying22 info2 rfl (by decide) (by omega) v252 y251 l0 _ _ _ (fun _ => True) (fun _ => False) rfl rfl ?aO ?aR (fun _ _ h => h) (fun _ h => h.elim) ?aF ?aB ?aS ?aL ?_; (case aR => repeat (first | exact (Kd.C_below HR0.out HB.out) | (with_reducible refine Kd.C_alloc ?_ _) | (with_reducible refine Kd.C_drewN ?_ _) | (with_reducible refine Kd.C_drew ?_))); (case aB => exact (by repeat (first | (with_reducible first | exact HB.out | apply below_alloc | apply pw_below_drewN | apply below_drew1) | exact HB.out))); (case aF => exact (fun _ _ => trivial)); (case aO => exact (by (with_reducible repeat (first | apply Kd.R_alloc | apply Kd.R_drewN | apply Kd.R_drew)); exact HO253.out)); (case aS => exact (below_size (by repeat (first | (with_reducible first | exact HB.out | apply below_alloc | apply pw_below_drewN | apply below_drew1) | exact HB.out)))); (case aL => have := LMc23.out; omega); intro v255 w52 ho hb hg hat; rw [← Ny254.out] at ho; have n0_ := Aside0.mk (hb); have n1_ := Aside0.mk (ho); clear HB; clear HO253; have HB := n0_; have HO256 := n1_; clear n0_ n1_; clear ho hb hg hat) | ((with_reducible refine gate_builtin (b := .append) (xs := #[.tmp 62, .tmp 64]) rfl ?_); (try (refine gate_guard (by rfl) ?_; dsimp only)); at_builtin; refine Kd.R_append (Kd.int .i64) (w0 := w) w.heap.size rfl (.tmp 62) (.tmp 64) 22 2 (.int .i64 0) 8 rfl Try.underlying22 info2 rfl (by decide) (by omega) v255 y254 a2 [.int .i64 a2] (fun _ => True) (fun _ => False) rfl rfl ?aP (fun _ hk => hk.elim) ?aF ?aO ?aB ?aS ?aL ?_; (case aP => exact rfl); (case aB => exact (by repeat (first | (with_reducible first | exact HB.out | apply below_alloc | apply pw_below_drewN | apply below_drew1) | exact HB.out))); (case aF => exact (fun _ _ => trivial)); (case aO => exact (by (with_reducible repeat (first | apply Kd.R_alloc | apply Kd.R_drewN | apply Kd.R_drew)); exact HO256.out)); (case aS => exact (below_size (by repeat (first | (with_reducible first | exact HB.out | apply below_alloc | apply pw_below_drewN | apply below_drew1) | exact HB.out)))); (case aL => have := LMc24.out; omega); intro v258 w53 ho hb hg hat; rw [← Ny257.out] at ho; have n0_ := Aside0.mk (hb); have n1_ := Aside0.mk (ho); clear HB; clear HO256; have HB := n0_; have HO259 := n1_; clear n0_ n1_; clear ho hb hg hat; obtain ⟨Ao54, co54, eo54⟩ := Kd.R_slice HO259.out; subst eo54) | ((with_reducible refine gate_callee (f := 8) rfl ?_); refine goesL_ (some 67) rfl rfl Try.func8 (by kernel_rfl) rfl #[.slice Ao54 y257.length co54, .int .i64 a1] rfl (by (try simp only [List.map_toArray, List.map_cons, List.map_nil]); first | done | rfl | (simp only [List.length_drop, List.length_take]; rfl) | (simp only [*]; first | done | rfl)) ?_; (with_reducible refine (column_Least.calls k2 _ _ y257 a1 t260 true _ ?side1 ?side2 A25.out).mono ?_); (case side1 => repeat (first | exact (Kd.R_reads' HO259.out).2.2 | (with_reducible refine Kd.C_alloc ?_ _) | (with_reducible refine Kd.C_drewN ?_ _) | (with_reducible refine Kd.C_drew ?_))); (case side2 => exact (Kd.R_reads' HO259.out).2.1); rintro e w55 ⟨rfl, hb⟩; refine ⟨_, rfl, ?_⟩; have n0_ := Aside0.mk (Kd.R_below (by (with_reducible repeat (first | apply Kd.R_alloc | apply Kd.R_drewN | apply Kd.R_drew)); exact HO259.out) hb); have n1_ := Aside0.mk (below_step (by repeat (first | (with_reducible first | exact HB.out | apply below_alloc | apply pw_below_drewN | apply below_drew1) | exact HB.out)) hb); clear HO259; clear HB; have HO259 := n0_; have HB := n1_; clear n0_ n1_; (try clear hb); (try clear hb2); (try clear hk); (try clear hi)) | (go_at_call 17; (with_reducible refine (variorumref19_Sum.calls k2 _ _ l0 t262 _ ?side1 ?side2 A27.out).mono ?_); (case side1 => repeat (first | exact (Kd.C_below HR0.out HB.out) | (with_reducible refine Kd.C_alloc ?_ _) | (with_reducible refine Kd.C_drewN ?_ _) | (with_reducible refine Kd.C_drew ?_))); (case side2 => exact HC0.out); rintro e w' ⟨rfl, ⟨nd, rfl⟩⟩))
                                go_ret
                                exact ⟨by first | rfl | (simp [errW_none, errW_some] <;> rfl) | (simp [*, errW_none, errW_some] <;> rfl), by repeat (first | (with_reducible first | exact HB.out | apply below_alloc | apply pw_below_drewN | apply below_drew1) | exact HB.out)⟩
                              · replace c49 := Bool.eq_false_iff.mpr c49
                                subst c49
                                have H1 : (some true) = some r := by rw [if_neg (show ¬ (false = true) by decide)] at H; exact H
                                clear H
                                have H := H1
                                clear H1
                                obtain rfl := Option.some.inj H
                                go_wp2_with (first | ((with_reducible refine gate_dst (N := 60) rfl ?_); (try (refine gate_guard (by rfl) ?_; dsimp only)); refine Kd.R_lit (Kd.int .i64) _ 2 ?hg (N := 60) ?hd (xs := ([] : List Int)) (inner := []) (ok := fun _ => True) (okp := fun _ => True) ?hr ?hp (fun _ hk => hk) trivial (Below.refl _ _) (Nat.le_refl _) (by simp) ?_; (case hd => rfl); (case hg => rfl); (case hr => first | (go_simp; done) | (go_simp; rfl)); (case hp => exact (Reps.none _ _)); intro v252 w56 ho57 hb hg_ hnew_; clear hg_ hnew_; (first | rw [← Ny251.out] at ho57 | (simp only [Int.reduceToNat] at ho57; rw [← Ny251.out] at ho57)); have n0_ := Aside0.mk (Kd.R_lower ho57 (below_size (by repeat (first | (with_reducible first | exact HB.out | apply below_alloc | apply pw_below_drewN | apply below_drew1) | exact HB.out)))); have n1_ := Aside0.mk (below_step (by repeat (first | (with_reducible first | exact HB.out | apply below_alloc | apply pw_below_drewN | apply below_drew1) | exact HB.out)) hb); clear HB; have HO253 := n0_; have HB := n1_; clear n0_ n1_; clear hb ho57) | ((with_reducible refine gate_builtin (b := .append) (xs := #[.tmp 60, .tmp 61]) rfl ?_); (try (refine gate_guard (by rfl) ?_; dsimp only)); at_builtin; refine Kd.R_append_rows (Kd.int .i64) (w0 := w) w.heap.size rfl (.tmp 60) (.tmp 61) 22 2 (.int .i64 0) 8 rfl Try.underlying22 info2 rfl (by decide) (by omega) v252 y251 l0 _ _ _ (fun _ => True) (fun _ => False) rfl rfl ?aO ?aR (fun _ _ h => h) (fun _ h => h.elim) ?aF ?aB ?aS ?aL ?_; (case aR => repeat (first | exact (Kd.C_below HR0.out HB.out) | (with_reducible refine Kd.C_alloc ?_ _) | (with_reducible refine Kd.C_drewN ?_ _) | (with_reducible refine Kd.C_drew ?_))); (case aB => exact (by repeat (first | (with_reducible first | exact HB.out | apply below_alloc | apply pw_below_drewN | apply below_drew1) | exact HB.out))); (case aF => exact (fun _ _ => trivial)); (case aO => exact (by (with_reducible repeat (first | apply Kd.R_alloc | apply Kd.R_drewN | apply Kd.R_drew)); exact HO253.out)); (case aS => exact (below_size (by repeat (first | (with_reducible first | exact HB.out | apply below_alloc | apply pw_below_drewN | apply below_drew1) | exact HB.out)))); (case aL => have := LMc23.out; omega); intro v255 w58 ho hb hg hat; rw [← Ny254.out] at ho; have n0_ := Aside0.mk (hb); have n1_ := Aside0.mk (ho); clear HB; clear HO253; have HB := n0_; have HO256 := n1_; clear n0_ n1_; clear ho hb hg hat) | ((with_reducible refine gate_builtin (b := .append) (xs := #[.tmp 62, .tmp 64]) rfl ?_); (try (refine gate_guard (by rfl) ?_; dsimp only)); at_builtin; refine Kd.R_append (Kd.int .i64) (w0 := w) w.heap.size rfl (.tmp 62) (.tmp 64) 22 2 (.int .i64 0) 8 rfl Try.underlying22 info2 rfl (by decide) (by omega) v255 y254 a2 [.int .i64 a2] (fun _ => True) (fun _ => False) rfl rfl ?aP (fun _ hk => hk.elim) ?aF ?aO ?aB ?aS ?aL ?_; (case aP => exact rfl); (case aB => exact (by repeat (first | (with_reducible first | exact HB.out | apply below_alloc | apply pw_below_drewN | apply below_drew1) | exact HB.out))); (case aF => exact (fun _ _ => trivial)); (case aO => exact (by (with_reducible repeat (first | apply Kd.R_alloc | apply Kd.R_drewN | apply Kd.R_drew)); exact HO256.out)); (case aS => exact (below_size (by repeat (first | (with_reducible first | exact HB.out | apply below_alloc | apply pw_below_drewN | apply below_drew1) | exact HB.out)))); (case aL => have := LMc24.out; omega); intro v258 w59 ho hb hg hat; rw [← Ny257.out] at ho; have n0_ := Aside0.mk (hb); have n1_ := Aside0.mk (ho); clear HB; clear HO256; have HB := n0_; have HO259 := n1_; clear n0_ n1_; clear ho hb hg hat; obtain ⟨Ao60, co60, eo60⟩ := Kd.R_slice HO259.out; subst eo60) | ((with_reducible refine gate_callee (f := 8) rfl ?_); refine goesL_ (some 67) rfl rfl Try.func8 (by kernel_rfl) rfl #[.slice Ao60 y257.length co60, .int .i64 a1] rfl (by (try simp only [List.map_toArray, List.map_cons, List.map_nil]); first | done | rfl | (simp only [List.length_drop, List.length_take]; rfl) | (simp only [*]; first | done | rfl)) ?_; (with_reducible refine (column_Least.calls k2 _ _ y257 a1 t260 false _ ?side1 ?side2 A25.out).mono ?_); (case side1 => repeat (first | exact (Kd.R_reads' HO259.out).2.2 | (with_reducible refine Kd.C_alloc ?_ _) | (with_reducible refine Kd.C_drewN ?_ _) | (with_reducible refine Kd.C_drew ?_))); (case side2 => exact (Kd.R_reads' HO259.out).2.1); rintro e w61 ⟨rfl, hb⟩; refine ⟨_, rfl, ?_⟩; have n0_ := Aside0.mk (Kd.R_below (by (with_reducible repeat (first | apply Kd.R_alloc | apply Kd.R_drewN | apply Kd.R_drew)); exact HO259.out) hb); have n1_ := Aside0.mk (below_step (by repeat (first | (with_reducible first | exact HB.out | apply below_alloc | apply pw_below_drewN | apply below_drew1) | exact HB.out)) hb); clear HO259; clear HB; have HO259 := n0_; have HB := n1_; clear n0_ n1_; (try clear hb); (try clear hb2); (try clear hk); (try clear hi)) | (go_at_call 17; (with_reducible refine (variorumref19_Sum.calls k2 _ _ l0 t262 _ ?side1 ?side2 A27.out).mono ?_); (case side1 => repeat (first | exact (Kd.C_below HR0.out HB.out) | (with_reducible refine Kd.C_alloc ?_ _) | (with_reducible refine Kd.C_drewN ?_ _) | (with_reducible refine Kd.C_drew ?_))); (case side2 => exact HC0.out); rintro e w' ⟨rfl, ⟨nd, rfl⟩⟩))
                                go_ret
                                exact ⟨by first | rfl | (simp [errW_none, errW_some] <;> rfl) | (simp [*, errW_none, errW_some] <;> rfl), by repeat (first | (with_reducible first | exact HB.out | apply below_alloc | apply pw_below_drewN | apply below_drew1) | exact HB.out)⟩
                            · rw [if_neg c48] at H
                              exact absurd H (by simp)
                          · rw [if_neg c47] at H
                            exact absurd H (by simp)
                      · rw [if_neg c29] at H
                        exact absurd H (by simp)
                    · rw [if_neg c28] at H
                      exact absurd H (by simp)
                  · replace c26 := Bool.eq_false_iff.mpr c26
                    subst c26
                    have H1 : (none) = some r := by rw [if_neg (show ¬ (false = true) by decide)] at H; exact H
                    clear H
                    have H := H1
                    clear H1
                    exact absurd H (by simp)
                · rw [if_neg c24] at H
                  exact absurd H (by simp)
              · rw [if_neg c23] at H
                exact absurd H (by simp)

/-- The one statement about numbers and lists that is left of the law. -/
def variorumlaw19_ColumnMore.Pure : Prop := ∀ (x0 : List Int) (x1 : Int) (x2 : Int), (x0.length * 8 ≤ 140737488351232 ∧ ∀ y0 ∈ x0, (Lit.int .i64 y0).wf = true) → (Lit.int .i64 x1).wf = true → (Lit.int .i64 x2).wf = true → ∃ k, variorumlaw19_ColumnMore.f k x0 x1 x2 = some true

/-! ### variorumlaw19_ColumnFills: function 6 -/
mutual
def variorumlaw19_ColumnFills.j0 : Nat → List Int → Int → Int → List Int → Bool → Option (Bool)
  | 0, _, _, _, _, _ => none
  | k + 1, x0, x1, x2, x7, x30 => if x30 = true then ((variorumlaw19_fixed.f k).bind fun t268 => (some t268)) else (variorumlaw19_ColumnFills.l0 k x0 x1 x2 x7 0 0)
def variorumlaw19_ColumnFills.l0 : Nat → List Int → Int → Int → List Int → Int → Int → Option (Bool)
  | 0, _, _, _, _, _, _ => none
  | k + 1, x0, x1, x2, x7, x9, x10 => if x10 < (x7.length : Int) then (if 0 ≤ x10 then (if (rd x7 x10) < 0 then (none) else (if (wrap64 (x9 + (rd x7 x10))) > (x0.length : Int) then (none) else (if 0 ≤ x9 then (if x9 ≤ (wrap64 (x9 + (rd x7 x10))) then (if (wrap64 (x9 + (rd x7 x10))) ≤ (x0.length : Int) then ((variorumref19_Sum.f k ((x0.take ((wrap64 (x9 + (rd x7 x10))) : Int).toNat).drop (x9 : Int).toNat)).bind fun t277 => (if t277 > x2 then (if (rd x7 x10) > 0 then (none) else (if (wrap64 (x9 + (rd x7 x10))) < (x0.length : Int) then (if x9 ≤ (wrap64 ((wrap64 (x9 + (rd x7 x10))) + 1)) then (if (wrap64 ((wrap64 (x9 + (rd x7 x10))) + 1)) ≤ (x0.length : Int) then ((variorumref19_Sum.f k ((x0.take ((wrap64 ((wrap64 (x9 + (rd x7 x10))) + 1)) : Int).toNat).drop (x9 : Int).toNat)).bind fun t282 => (if t282 ≤ x2 then (none) else (variorumlaw19_ColumnFills.l0 k x0 x1 x2 x7 (wrap64 (x9 + (rd x7 x10))) (wrap64 (x10 + 1))))) else (none)) else (none)) else (variorumlaw19_ColumnFills.l0 k x0 x1 x2 x7 (wrap64 (x9 + (rd x7 x10))) (wrap64 (x10 + 1))))) else (if (wrap64 (x9 + (rd x7 x10))) < (x0.length : Int) then (if x9 ≤ (wrap64 ((wrap64 (x9 + (rd x7 x10))) + 1)) then (if (wrap64 ((wrap64 (x9 + (rd x7 x10))) + 1)) ≤ (x0.length : Int) then ((variorumref19_Sum.f k ((x0.take ((wrap64 ((wrap64 (x9 + (rd x7 x10))) + 1)) : Int).toNat).drop (x9 : Int).toNat)).bind fun t288 => (if t288 ≤ x2 then (none) else (variorumlaw19_ColumnFills.l0 k x0 x1 x2 x7 (wrap64 (x9 + (rd x7 x10))) (wrap64 (x10 + 1))))) else (none)) else (none)) else (variorumlaw19_ColumnFills.l0 k x0 x1 x2 x7 (wrap64 (x9 + (rd x7 x10))) (wrap64 (x10 + 1)))))) else (none)) else (none)) else (none)))) else (none)) else (if x2 > 9000000000000000000 then (some true) else ((column_Fill.f k x0 x1 (wrap64 (x2 + 1))).bind fun bt269 => (if x9 = (x0.length : Int) then (if (x7.length : Int) = x1 then (some bt269.2) else (none)) else (none))))
end
def variorumlaw19_ColumnFills.f (k : Nat) (l0 : List Int) (a1 : Int) (a2 : Int) : Option (Bool) := (column_Fill.f k l0 a1 a2).bind fun bt263 => ((variorumlaw19_fixed.f k).bind fun t267 => (if t267 = true then (if bt263.2 = true then (variorumlaw19_ColumnFills.j0 k l0 a1 a2 bt263.1 (decide ((l0.length : Int) > 100))) else (variorumlaw19_ColumnFills.j0 k l0 a1 a2 bt263.1 true)) else (variorumlaw19_ColumnFills.j0 k l0 a1 a2 bt263.1 true)))
theorem variorumlaw19_ColumnFills.mono_l : ∀ k, (∀ y0 y1 y2 y3 y4, LeO (variorumlaw19_ColumnFills.j0 k y0 y1 y2 y3 y4) (variorumlaw19_ColumnFills.j0 (k + 1) y0 y1 y2 y3 y4)) ∧ (∀ y0 y1 y2 y3 y4 y5, LeO (variorumlaw19_ColumnFills.l0 k y0 y1 y2 y3 y4 y5) (variorumlaw19_ColumnFills.l0 (k + 1) y0 y1 y2 y3 y4 y5))
  | 0 => ⟨fun _ _ _ _ _ r h => by simp [variorumlaw19_ColumnFills.j0] at h, fun _ _ _ _ _ _ r h => by simp [variorumlaw19_ColumnFills.l0] at h⟩
  | k + 1 => by
    obtain ⟨ih0, ih1⟩ := variorumlaw19_ColumnFills.mono_l k
    refine ⟨?_, ?_⟩
    · intro y0 y1 y2 y3 y4
      unfold variorumlaw19_ColumnFills.j0
      repeat' first
      | (with_reducible exact ih0 _ _ _ _ _)
      | (with_reducible exact ih1 _ _ _ _ _ _)
      | (with_reducible exact column_Fill.mono _ _ _ _)
      | (with_reducible exact variorumlaw19_fixed.mono _)
      | (with_reducible exact variorumref19_Sum.mono _ _)
      | (with_reducible exact LeO.refl _)
      | (with_reducible exact LeO.none _)
      | (with_reducible refine LeO.ite ?_ ?_)
      | (with_reducible refine LeO.bind ?_ (fun _ => ?_))
      | exact ih0 _ _ _ _ _
      | exact ih1 _ _ _ _ _ _
      | exact column_Fill.mono _ _ _ _
      | exact variorumlaw19_fixed.mono _
      | exact variorumref19_Sum.mono _ _
      | exact LeO.none _
      | refine LeO.ite ?_ ?_
      | refine LeO.bind ?_ (fun _ => ?_)
    · intro y0 y1 y2 y3 y4 y5
      unfold variorumlaw19_ColumnFills.l0
      repeat' first
      | (with_reducible exact ih0 _ _ _ _ _)
      | (with_reducible exact ih1 _ _ _ _ _ _)
      | (with_reducible exact column_Fill.mono _ _ _ _)
      | (with_reducible exact variorumlaw19_fixed.mono _)
      | (with_reducible exact variorumref19_Sum.mono _ _)
      | (with_reducible exact LeO.refl _)
      | (with_reducible exact LeO.none _)
      | (with_reducible refine LeO.ite ?_ ?_)
      | (with_reducible refine LeO.bind ?_ (fun _ => ?_))
      | exact ih0 _ _ _ _ _
      | exact ih1 _ _ _ _ _ _
      | exact column_Fill.mono _ _ _ _
      | exact variorumlaw19_fixed.mono _
      | exact variorumref19_Sum.mono _ _
      | exact LeO.none _
      | refine LeO.ite ?_ ?_
      | refine LeO.bind ?_ (fun _ => ?_)
theorem variorumlaw19_ColumnFills.mono : ∀ a0 a1 a2 k, LeO (variorumlaw19_ColumnFills.f k a0 a1 a2) (variorumlaw19_ColumnFills.f (k + 1) a0 a1 a2) := by
  intro a0 a1 a2 k
  obtain ⟨ih0, ih1⟩ := variorumlaw19_ColumnFills.mono_l k
  unfold variorumlaw19_ColumnFills.f
  repeat' first
      | (with_reducible exact ih0 _ _ _ _ _)
      | (with_reducible exact ih1 _ _ _ _ _ _)
      | (with_reducible exact column_Fill.mono _ _ _ _)
      | (with_reducible exact variorumlaw19_fixed.mono _)
      | (with_reducible exact variorumref19_Sum.mono _ _)
      | (with_reducible exact LeO.refl _)
      | (with_reducible exact LeO.none _)
      | (with_reducible refine LeO.ite ?_ ?_)
      | (with_reducible refine LeO.bind ?_ (fun _ => ?_))
      | exact ih0 _ _ _ _ _
      | exact ih1 _ _ _ _ _ _
      | exact column_Fill.mono _ _ _ _
      | exact variorumlaw19_fixed.mono _
      | exact variorumref19_Sum.mono _ _
      | exact LeO.none _
      | refine LeO.ite ?_ ?_
      | refine LeO.bind ?_ (fun _ => ?_)
set_option maxHeartbeats 8000000 in
set_option maxRecDepth 100000 in
theorem variorumlaw19_ColumnFills.calls (k : Nat) (A0 : Option Addr) (c0 : Nat) (l0 : List Int) (a1 : Int) (a2 : Int) (r : Bool) (w : World) (hr0 : Kd.C (Kd.int .i64) w A0 l0.length l0) (hc0 : l0.length ≤ c0) (h : variorumlaw19_ColumnFills.f k l0 a1 a2 = some r) :
    Calls Try.prog 6 #[.slice A0 l0.length c0, .int .i64 a1, .int .i64 a2] w fun e w' => e = .returned (.bool r) ∧ Below w.heap.size w w' := by
  have HR0 := Aside0.mk hr0
  have HC0 := Aside0.mk hc0
  clear hr0 hc0
  have HB := Aside0.mk (Below.refl w.heap.size w)
  have H : ((column_Fill.f k l0 a1 a2).bind fun bt263 => ((variorumlaw19_fixed.f k).bind fun t267 => (if t267 = true then (if bt263.2 = true then (variorumlaw19_ColumnFills.j0 k l0 a1 a2 bt263.1 (decide ((l0.length : Int) > 100))) else (variorumlaw19_ColumnFills.j0 k l0 a1 a2 bt263.1 true)) else (variorumlaw19_ColumnFills.j0 k l0 a1 a2 bt263.1 true)))) = some r := h
  clear h
  replace H := Option.bind_eq_some_iff.mp H
  obtain ⟨⟨t263, t264⟩, A40, H⟩ := H
  replace H : ((variorumlaw19_fixed.f k).bind fun t267 => (if t267 = true then (if t264 = true then (variorumlaw19_ColumnFills.j0 k l0 a1 a2 t263 (decide ((l0.length : Int) > 100))) else (variorumlaw19_ColumnFills.j0 k l0 a1 a2 t263 true)) else (variorumlaw19_ColumnFills.j0 k l0 a1 a2 t263 true))) = some r := H
  have A4 := Aside0.mk A40
  clear A40
  have HC5 := Aside0.mk H
  clear H
  go_enter Try.func6, Try.ntmps6
  go_upto_region 2 with (first | ((with_reducible refine gate_callee (f := 10) rfl ?_); refine goesL_ (some 17) rfl rfl Try.func10 (by kernel_rfl) rfl #[.slice A0 l0.length c0, .int .i64 a1, .int .i64 a2] rfl (by (try simp only [List.map_toArray, List.map_cons, List.map_nil]); first | done | rfl | (simp only [List.length_drop, List.length_take]; rfl) | (simp only [*]; first | done | rfl)) ?_; (with_reducible refine (column_Fill.calls k _ _ l0 a1 a2 t263 t264 _ ?side1 ?side2 A4.out).mono ?_); (case side1 => repeat (first | exact HR0.out | (with_reducible refine Kd.C_alloc ?_ _) | (with_reducible refine Kd.C_drewN ?_ _) | (with_reducible refine Kd.C_drew ?_))); (case side2 => exact HC0.out); rintro e w6 ⟨v265, rfl, ho0, hb⟩; refine ⟨_, rfl, ?_⟩; have n0_ := Aside0.mk (Kd.R_lower ho0 (below_size (by repeat (first | (with_reducible first | exact HB.out | apply below_alloc | apply pw_below_drewN | apply below_drew1) | exact HB.out)))); have n1_ := Aside0.mk (below_step (by repeat (first | (with_reducible first | exact HB.out | apply below_alloc | apply pw_below_drewN | apply below_drew1) | exact HB.out)) hb); clear HB; have HO266 := n0_; have HB := n1_; clear n0_ n1_; (try clear hb); (try clear hb2); (try clear hk); (try clear hi); (try clear ho0)))
  (try simp only [Act.put, List.setIfInBounds_toArray, List.set_cons_zero, List.set_cons_succ])
  go_cut [30] (fun v30 wc => ∃ (kq : Nat) (x30_4 : Bool), v30 = .bool x30_4 ∧ Aside0 (variorumlaw19_ColumnFills.j0 kq l0 a1 a2 t263 x30_4 = some r) ∧ Aside0 (kq ≤ k) ∧ Aside0 (Kd.R (Kd.int .i64) 3 wc w.heap.size (fun _ => True) v265 t263) ∧ Aside0 (Below w.heap.size w wc))
  case first =>
    have H := HC5.out
    clear HC5
    replace H := Option.bind_eq_some_iff.mp H
    obtain ⟨t267, A70, H⟩ := H
    replace H : (if t267 = true then (if t264 = true then (variorumlaw19_ColumnFills.j0 k l0 a1 a2 t263 (decide ((l0.length : Int) > 100))) else (variorumlaw19_ColumnFills.j0 k l0 a1 a2 t263 true)) else (variorumlaw19_ColumnFills.j0 k l0 a1 a2 t263 true)) = some r := H
    have A7 := Aside0.mk A70
    clear A70
    by_cases c8 : t267 = true
    · subst c8
      have H1 : (if t264 = true then (variorumlaw19_ColumnFills.j0 k l0 a1 a2 t263 (decide ((l0.length : Int) > 100))) else (variorumlaw19_ColumnFills.j0 k l0 a1 a2 t263 true)) = some r := by rw [if_pos rfl] at H; exact H
      clear H
      have H := H1
      clear H1
      by_cases c9 : t264 = true
      · subst c9
        have H1 : (variorumlaw19_ColumnFills.j0 k l0 a1 a2 t263 (decide ((l0.length : Int) > 100))) = some r := by rw [if_pos rfl] at H; exact H
        clear H
        have H := H1
        clear H1
        have H' := Aside0.mk H
        clear H
        go_wp2_with (first | ((with_reducible refine gate_callee (f := 7) rfl ?_); refine goesL_ (some 20) rfl rfl Try.func7 (by kernel_rfl) rfl #[] rfl (by (try simp only [List.map_toArray, List.map_cons, List.map_nil]); first | done | rfl | (simp only [List.length_drop, List.length_take]; rfl) | (simp only [*]; first | done | rfl)) ?_; (with_reducible refine (variorumlaw19_fixed.calls k  true _ A7.out).mono ?_); rintro e w10 ⟨rfl, hb⟩; refine ⟨_, rfl, ?_⟩; have n0_ := Aside0.mk (Kd.R_below (by (with_reducible repeat (first | apply Kd.R_alloc | apply Kd.R_drewN | apply Kd.R_drew)); exact HO266.out) hb); have n1_ := Aside0.mk (below_step (by repeat (first | (with_reducible first | exact HB.out | apply below_alloc | apply pw_below_drewN | apply below_drew1) | exact HB.out)) hb); clear HO266; clear HB; have HO266 := n0_; have HB := n1_; clear n0_ n1_; (try clear hb); (try clear hb2); (try clear hk); (try clear hi)))
        go_meet
        case rel => exact ⟨_, (decide ((l0.length : Int) > 100)), (by first | rfl | (simp; done) | (simp [*]; done)), H', ⟨by first | omega | exact Nat.le_refl _⟩, ⟨by (with_reducible repeat (first | apply Kd.R_alloc | apply Kd.R_drewN | apply Kd.R_drew)); exact HO266.out⟩, ⟨by repeat (first | (with_reducible first | exact HB.out | apply below_alloc | apply pw_below_drewN | apply below_drew1) | exact HB.out)⟩⟩
      · replace c9 := Bool.eq_false_iff.mpr c9
        subst c9
        have H1 : (variorumlaw19_ColumnFills.j0 k l0 a1 a2 t263 true) = some r := by rw [if_neg (show ¬ (false = true) by decide)] at H; exact H
        clear H
        have H := H1
        clear H1
        have H' := Aside0.mk H
        clear H
        go_wp2_with (first | ((with_reducible refine gate_callee (f := 7) rfl ?_); refine goesL_ (some 20) rfl rfl Try.func7 (by kernel_rfl) rfl #[] rfl (by (try simp only [List.map_toArray, List.map_cons, List.map_nil]); first | done | rfl | (simp only [List.length_drop, List.length_take]; rfl) | (simp only [*]; first | done | rfl)) ?_; (with_reducible refine (variorumlaw19_fixed.calls k  true _ A7.out).mono ?_); rintro e w11 ⟨rfl, hb⟩; refine ⟨_, rfl, ?_⟩; have n0_ := Aside0.mk (Kd.R_below (by (with_reducible repeat (first | apply Kd.R_alloc | apply Kd.R_drewN | apply Kd.R_drew)); exact HO266.out) hb); have n1_ := Aside0.mk (below_step (by repeat (first | (with_reducible first | exact HB.out | apply below_alloc | apply pw_below_drewN | apply below_drew1) | exact HB.out)) hb); clear HO266; clear HB; have HO266 := n0_; have HB := n1_; clear n0_ n1_; (try clear hb); (try clear hb2); (try clear hk); (try clear hi)))
        go_meet
        case rel => exact ⟨_, (true), (by first | rfl | (simp; done) | (simp [*]; done)), H', ⟨by first | omega | exact Nat.le_refl _⟩, ⟨by (with_reducible repeat (first | apply Kd.R_alloc | apply Kd.R_drewN | apply Kd.R_drew)); exact HO266.out⟩, ⟨by repeat (first | (with_reducible first | exact HB.out | apply below_alloc | apply pw_below_drewN | apply below_drew1) | exact HB.out)⟩⟩
    · replace c8 := Bool.eq_false_iff.mpr c8
      subst c8
      have H1 : (variorumlaw19_ColumnFills.j0 k l0 a1 a2 t263 true) = some r := by rw [if_neg (show ¬ (false = true) by decide)] at H; exact H
      clear H
      have H := H1
      clear H1
      have H' := Aside0.mk H
      clear H
      go_wp2_with (first | ((with_reducible refine gate_callee (f := 7) rfl ?_); refine goesL_ (some 20) rfl rfl Try.func7 (by kernel_rfl) rfl #[] rfl (by (try simp only [List.map_toArray, List.map_cons, List.map_nil]); first | done | rfl | (simp only [List.length_drop, List.length_take]; rfl) | (simp only [*]; first | done | rfl)) ?_; (with_reducible refine (variorumlaw19_fixed.calls k  false _ A7.out).mono ?_); rintro e w12 ⟨rfl, hb⟩; refine ⟨_, rfl, ?_⟩; have n0_ := Aside0.mk (Kd.R_below (by (with_reducible repeat (first | apply Kd.R_alloc | apply Kd.R_drewN | apply Kd.R_drew)); exact HO266.out) hb); have n1_ := Aside0.mk (below_step (by repeat (first | (with_reducible first | exact HB.out | apply below_alloc | apply pw_below_drewN | apply below_drew1) | exact HB.out)) hb); clear HO266; clear HB; have HO266 := n0_; have HB := n1_; clear n0_ n1_; (try clear hb); (try clear hb2); (try clear hk); (try clear hi)))
      go_meet
      case rel => exact ⟨_, (true), (by first | rfl | (simp; done) | (simp [*]; done)), H', ⟨by first | omega | exact Nat.le_refl _⟩, ⟨by (with_reducible repeat (first | apply Kd.R_alloc | apply Kd.R_drewN | apply Kd.R_drew)); exact HO266.out⟩, ⟨by repeat (first | (with_reducible first | exact HB.out | apply below_alloc | apply pw_below_drewN | apply below_drew1) | exact HB.out)⟩⟩
  case rest =>
    clear HC5
    try clear c1
    try clear p2
    try clear c6
    try clear c7
    try clear c8
    try clear c9
    try clear c10
    obtain ⟨kq, x30_4, rfl, HA, HJ4, HO_7, HB⟩ := hcut
    cases kq with
    | zero => exact absurd HA.out (by simp [variorumlaw19_ColumnFills.j0])
    | succ kj4 =>
      have H := HA.out
      clear HA
      simp only [variorumlaw19_ColumnFills.j0] at H
      by_cases c13 : x30_4 = true
      · subst c13
        have H1 : ((variorumlaw19_fixed.f kj4).bind fun t268 => (some t268)) = some r := by rw [if_pos rfl] at H; exact H
        clear H
        have H := H1
        clear H1
        replace H := Option.bind_eq_some_iff.mp H
        obtain ⟨t268, A140, H⟩ := H
        replace H : (some t268) = some r := H
        have A14 := Aside0.mk A140
        clear A140
        obtain rfl := Option.some.inj H
        go_wp2_with (first | ((with_reducible refine gate_callee (f := 7) rfl ?_); refine goesL_ (some 31) rfl rfl Try.func7 (by kernel_rfl) rfl #[] rfl (by (try simp only [List.map_toArray, List.map_cons, List.map_nil]); first | done | rfl | (simp only [List.length_drop, List.length_take]; rfl) | (simp only [*]; first | done | rfl)) ?_; (with_reducible refine (variorumlaw19_fixed.calls kj4  t268 _ A14.out).mono ?_); rintro e w15 ⟨rfl, hb⟩; refine ⟨_, rfl, ?_⟩; have n0_ := Aside0.mk (Kd.R_below (by (with_reducible repeat (first | apply Kd.R_alloc | apply Kd.R_drewN | apply Kd.R_drew)); exact HO_7.out) hb); have n1_ := Aside0.mk (below_step (by repeat (first | (with_reducible first | exact HB.out | apply below_alloc | apply pw_below_drewN | apply below_drew1) | exact HB.out)) hb); clear HO_7; clear HB; have HO_7 := n0_; have HB := n1_; clear n0_ n1_; (try clear hb); (try clear hb2); (try clear hk); (try clear hi)))
        go_ret
        exact ⟨by first | rfl | (simp [errW_none, errW_some] <;> rfl) | (simp [*, errW_none, errW_some] <;> rfl), by repeat (first | (with_reducible first | exact HB.out | apply below_alloc | apply pw_below_drewN | apply below_drew1) | exact HB.out)⟩
      · replace c13 := Bool.eq_false_iff.mpr c13
        subst c13
        have H1 : (variorumlaw19_ColumnFills.l0 kj4 l0 a1 a2 t263 0 0) = some r := by rw [if_neg (show ¬ (false = true) by decide)] at H; exact H
        clear H
        have H := H1
        clear H1
        have H' := Aside0.mk H
        clear H
        go_wp2
        go_loopg [9, 10] kj4 (fun kq v9 v10 w' => ∃ (x9_2 : Int) (x10_2 : Int), v9 = .int .i64 x9_2 ∧ v10 = .int .i64 x10_2 ∧ Aside0 (variorumlaw19_ColumnFills.l0 kq l0 a1 a2 t263 x9_2 x10_2 = some r) ∧ Aside0 (kq ≤ kj4) ∧ Aside0 (Kd.R (Kd.int .i64) 3 w' w.heap.size (fun _ => True) v265 t263) ∧ Aside0 (Below w.heap.size w w'))
        case atStart => exact ⟨(0), (0), (by first | rfl | (simp; done) | (simp [*]; done)), (by first | rfl | (simp; done) | (simp [*]; done)), H', ⟨Nat.le_refl _⟩, ⟨by (with_reducible repeat (first | apply Kd.R_alloc | apply Kd.R_drewN | apply Kd.R_drew)); exact HO_7.out⟩, ⟨by repeat (first | (with_reducible first | exact HB.out | apply below_alloc | apply pw_below_drewN | apply below_drew1) | exact HB.out)⟩⟩
        case round =>
          clear H'
          try clear c1
          try clear p2
          try clear c6
          try clear c7
          try clear c8
          try clear c9
          try clear c10
          try clear c13
          try clear p2
          obtain ⟨x9_2, x10_2, rfl, rfl, HA, HK2, HO_7, HB⟩ := hrel
          cases gk with
          | zero => exact absurd HA.out (by simp [variorumlaw19_ColumnFills.l0])
          | succ k2 =>
            have H := HA.out
            clear HA
            simp only [variorumlaw19_ColumnFills.l0] at H
            by_cases c16 : x10_2 < (t263.length : Int)
            · rw [if_pos c16] at H
              have c16b0 : decide (x10_2 < (t263.length : Int)) = true := decide_eq_true c16
              clear c16
              by_cases c17 : 0 ≤ x10_2
              · rw [if_pos c17] at H
                have c17b0 : decide (0 ≤ x10_2) = true := decide_eq_true c17
                clear c17
                by_cases c18 : (rd t263 x10_2) < 0
                · rw [if_pos c18] at H
                  exact absurd H (by simp)
                · rw [if_neg c18] at H
                  have c18b0 : decide ((rd t263 x10_2) < 0) = false := decide_eq_false c18
                  clear c18
                  by_cases c19 : (wrap64 (x9_2 + (rd t263 x10_2))) > (l0.length : Int)
                  · rw [if_pos c19] at H
                    exact absurd H (by simp)
                  · rw [if_neg c19] at H
                    have c19b0 : decide ((l0.length : Int) < (wrap64 (x9_2 + (rd t263 x10_2)))) = false := decide_eq_false c19
                    clear c19
                    by_cases c20 : 0 ≤ x9_2
                    · rw [if_pos c20] at H
                      have c20b0 := eq_true c20
                      have c20b1 : decide (0 ≤ x9_2) = true := decide_eq_true c20
                      clear c20
                      by_cases c21 : x9_2 ≤ (wrap64 (x9_2 + (rd t263 x10_2)))
                      · rw [if_pos c21] at H
                        have c21b0 := eq_true c21
                        have c21b1 : decide (x9_2 ≤ (wrap64 (x9_2 + (rd t263 x10_2)))) = true := decide_eq_true c21
                        by_cases c22 : (wrap64 (x9_2 + (rd t263 x10_2))) ≤ (l0.length : Int)
                        · rw [if_pos c22] at H
                          have c22b0 := eq_true c22
                          have c22b1 : decide ((wrap64 (x9_2 + (rd t263 x10_2))) ≤ (l0.length : Int)) = true := decide_eq_true c22
                          replace H := Option.bind_eq_some_iff.mp H
                          obtain ⟨t277, A230, H⟩ := H
                          replace H : (if t277 > a2 then (if (rd t263 x10_2) > 0 then (none) else (if (wrap64 (x9_2 + (rd t263 x10_2))) < (l0.length : Int) then (if x9_2 ≤ (wrap64 ((wrap64 (x9_2 + (rd t263 x10_2))) + 1)) then (if (wrap64 ((wrap64 (x9_2 + (rd t263 x10_2))) + 1)) ≤ (l0.length : Int) then ((variorumref19_Sum.f k2 ((l0.take ((wrap64 ((wrap64 (x9_2 + (rd t263 x10_2))) + 1)) : Int).toNat).drop (x9_2 : Int).toNat)).bind fun t282 => (if t282 ≤ a2 then (none) else (variorumlaw19_ColumnFills.l0 k2 l0 a1 a2 t263 (wrap64 (x9_2 + (rd t263 x10_2))) (wrap64 (x10_2 + 1))))) else (none)) else (none)) else (variorumlaw19_ColumnFills.l0 k2 l0 a1 a2 t263 (wrap64 (x9_2 + (rd t263 x10_2))) (wrap64 (x10_2 + 1))))) else (if (wrap64 (x9_2 + (rd t263 x10_2))) < (l0.length : Int) then (if x9_2 ≤ (wrap64 ((wrap64 (x9_2 + (rd t263 x10_2))) + 1)) then (if (wrap64 ((wrap64 (x9_2 + (rd t263 x10_2))) + 1)) ≤ (l0.length : Int) then ((variorumref19_Sum.f k2 ((l0.take ((wrap64 ((wrap64 (x9_2 + (rd t263 x10_2))) + 1)) : Int).toNat).drop (x9_2 : Int).toNat)).bind fun t288 => (if t288 ≤ a2 then (none) else (variorumlaw19_ColumnFills.l0 k2 l0 a1 a2 t263 (wrap64 (x9_2 + (rd t263 x10_2))) (wrap64 (x10_2 + 1))))) else (none)) else (none)) else (variorumlaw19_ColumnFills.l0 k2 l0 a1 a2 t263 (wrap64 (x9_2 + (rd t263 x10_2))) (wrap64 (x10_2 + 1))))) = some r := H
                          have A23 := Aside0.mk A230
                          clear A230
                          by_cases c24 : t277 > a2
                          · rw [if_pos c24] at H
                            have c24b0 : decide (a2 < t277) = true := decide_eq_true c24
                            clear c24
                            by_cases c25 : (rd t263 x10_2) > 0
                            · rw [if_pos c25] at H
                              exact absurd H (by simp)
                            · rw [if_neg c25] at H
                              have c25b0 : decide (0 < (rd t263 x10_2)) = false := decide_eq_false c25
                              clear c25
                              by_cases c26 : (wrap64 (x9_2 + (rd t263 x10_2))) < (l0.length : Int)
                              · rw [if_pos c26] at H
                                have c26b0 : decide ((wrap64 (x9_2 + (rd t263 x10_2))) < (l0.length : Int)) = true := decide_eq_true c26
                                clear c26
                                have c27b0 := eq_true (of_decide_eq_true (by first | (with_reducible assumption) | assumption) : 0 ≤ x9_2)
                                by_cases c28 : x9_2 ≤ (wrap64 ((wrap64 (x9_2 + (rd t263 x10_2))) + 1))
                                · rw [if_pos c28] at H
                                  have c28b0 := eq_true c28
                                  have c28b1 : decide (x9_2 ≤ (wrap64 ((wrap64 (x9_2 + (rd t263 x10_2))) + 1))) = true := decide_eq_true c28
                                  by_cases c29 : (wrap64 ((wrap64 (x9_2 + (rd t263 x10_2))) + 1)) ≤ (l0.length : Int)
                                  · rw [if_pos c29] at H
                                    have c29b0 := eq_true c29
                                    have c29b1 : decide ((wrap64 ((wrap64 (x9_2 + (rd t263 x10_2))) + 1)) ≤ (l0.length : Int)) = true := decide_eq_true c29
                                    replace H := Option.bind_eq_some_iff.mp H
                                    obtain ⟨t282, A300, H⟩ := H
                                    replace H : (if t282 ≤ a2 then (none) else (variorumlaw19_ColumnFills.l0 k2 l0 a1 a2 t263 (wrap64 (x9_2 + (rd t263 x10_2))) (wrap64 (x10_2 + 1)))) = some r := H
                                    have A30 := Aside0.mk A300
                                    clear A300
                                    by_cases c31 : t282 ≤ a2
                                    · rw [if_pos c31] at H
                                      exact absurd H (by simp)
                                    · rw [if_neg c31] at H
                                      have c31b0 : decide (t282 ≤ a2) = false := decide_eq_false c31
                                      clear c31
                                      have H' := Aside0.mk H
                                      clear H
                                      obtain ⟨Ao32, co32, eo32⟩ := Kd.R_slice HO_7.out
                                      subst eo32
                                      have p273 : 0 ≤ (x10_2 : Int) := of_decide_eq_true (by first | (with_reducible assumption) | assumption)
                                      have q273 : x10_2 < (t263.length : Int) := of_decide_eq_true (by first | (with_reducible assumption) | assumption)
                                      obtain ⟨ad273, e273, hx273_0⟩ := Kd.at_int (Kd.R_reads' HO_7.out).2.2 x10_2 p273 q273
                                      cases e273
                                      replace p273 := eq_true p273
                                      replace q273 := eq_true q273
                                      have p274 : 0 ≤ (x10_2 : Int) := of_decide_eq_true (by first | (with_reducible assumption) | assumption)
                                      have q274 : x10_2 < (t263.length : Int) := of_decide_eq_true (by first | (with_reducible assumption) | assumption)
                                      obtain ⟨ad274, e274, hx274_0⟩ := Kd.at_int (Kd.R_reads' HO_7.out).2.2 x10_2 p274 q274
                                      obtain rfl : ad273 = ad274 := (by injection e274)
                                      replace p274 := eq_true p274
                                      replace q274 := eq_true q274
                                      have p275 : 0 ≤ (x10_2 : Int) := of_decide_eq_true (by first | (with_reducible assumption) | assumption)
                                      have q275 : x10_2 < (t263.length : Int) := of_decide_eq_true (by first | (with_reducible assumption) | assumption)
                                      obtain ⟨ad275, e275, hx275_0⟩ := Kd.at_int (Kd.R_reads' HO_7.out).2.2 x10_2 p275 q275
                                      obtain rfl : ad273 = ad275 := (by injection e275)
                                      replace p275 := eq_true p275
                                      replace q275 := eq_true q275
                                      obtain ⟨i033, hi033, _, hsz33, _⟩ := info_parts info2
                                      obtain ⟨A33, hcut33, hA33, hC33⟩ := print_mid_of (P := Try.prog) (Value.int .i64) 0 22 2 .i64 .i64 Try.underlying22 hi033 hsz33 A0 c0 l0 x9_2 (wrap64 (x9_2 + (rd t263 x10_2))) (of_decide_eq_true (by first | (with_reducible assumption) | assumption)) (by first | omega | exact of_decide_eq_true (by first | (with_reducible assumption) | assumption)) (of_decide_eq_true (by first | (with_reducible assumption) | assumption)) HC0.out
                                      have HR276 := Aside0.mk (Kd.C_of_reads (h1 := fun _ => rfl) (hA33 _ (Kd.reads_of_C HR0.out)))
                                      have HC276 := Aside0.mk hC33
                                      clear hA33 hC33 hi033 hsz33
                                      go_wp2_with (first | (go_at_call 17; (try rw [mid_len l0 x9_2 (wrap64 (x9_2 + (rd t263 x10_2))) (of_decide_eq_true (by first | (with_reducible assumption) | assumption))]); (with_reducible refine (variorumref19_Sum.calls k2 _ _ ((l0.take ((wrap64 (x9_2 + (rd t263 x10_2))) : Int).toNat).drop (x9_2 : Int).toNat) t277 _ ?side1 ?side2 A23.out).mono ?_); (case side1 => repeat (first | exact (Kd.C_below HR276.out HB.out) | (with_reducible refine Kd.C_alloc ?_ _) | (with_reducible refine Kd.C_drewN ?_ _) | (with_reducible refine Kd.C_drew ?_))); (case side2 => exact HC276.out); rintro e w' ⟨rfl, ⟨nd, rfl⟩⟩; have p278 : 0 ≤ (x10_2 : Int) := of_decide_eq_true (by first | (with_reducible assumption) | assumption); have q278 : x10_2 < (t263.length : Int) := of_decide_eq_true (by first | (with_reducible assumption) | assumption); obtain ⟨ad278, e278, hx278_0⟩ := Kd.at_int (Kd.R_reads' HO_7.out).2.2 x10_2 p278 q278; obtain rfl : ad273 = ad278 := (by injection e278); replace p278 := eq_true p278; replace q278 := eq_true q278; have p279 : 0 ≤ (x10_2 : Int) := of_decide_eq_true (by first | (with_reducible assumption) | assumption); have q279 : x10_2 < (t263.length : Int) := of_decide_eq_true (by first | (with_reducible assumption) | assumption); obtain ⟨ad279, e279, hx279_0⟩ := Kd.at_int (Kd.R_reads' HO_7.out).2.2 x10_2 p279 q279; obtain rfl : ad273 = ad279 := (by injection e279); replace p279 := eq_true p279; replace q279 := eq_true q279; have p280 : 0 ≤ (x10_2 : Int) := of_decide_eq_true (by first | (with_reducible assumption) | assumption); have q280 : x10_2 < (t263.length : Int) := of_decide_eq_true (by first | (with_reducible assumption) | assumption); obtain ⟨ad280, e280, hx280_0⟩ := Kd.at_int (Kd.R_reads' HO_7.out).2.2 x10_2 p280 q280; obtain rfl : ad273 = ad280 := (by injection e280); replace p280 := eq_true p280; replace q280 := eq_true q280; obtain ⟨i034, hi034, _, hsz34, _⟩ := info_parts info2; obtain ⟨A34, hcut34, hA34, hC34⟩ := print_mid_of (P := Try.prog) (Value.int .i64) 0 22 2 .i64 .i64 Try.underlying22 hi034 hsz34 A0 c0 l0 x9_2 (wrap64 ((wrap64 (x9_2 + (rd t263 x10_2))) + 1)) (of_decide_eq_true (by first | (with_reducible assumption) | assumption)) (by first | omega | exact of_decide_eq_true (by first | (with_reducible assumption) | assumption)) (of_decide_eq_true (by first | (with_reducible assumption) | assumption)) HC0.out; have HR281 := Aside0.mk (Kd.C_of_reads (h1 := fun _ => rfl) (hA34 _ (Kd.reads_of_C HR0.out))); have HC281 := Aside0.mk hC34; clear hA34 hC34 hi034 hsz34) | (go_at_call 17; (try rw [mid_len l0 x9_2 (wrap64 ((wrap64 (x9_2 + (rd t263 x10_2))) + 1)) (of_decide_eq_true (by first | (with_reducible assumption) | assumption))]); (with_reducible refine (variorumref19_Sum.calls k2 _ _ ((l0.take ((wrap64 ((wrap64 (x9_2 + (rd t263 x10_2))) + 1)) : Int).toNat).drop (x9_2 : Int).toNat) t282 _ ?side1 ?side2 A30.out).mono ?_); (case side1 => repeat (first | exact (Kd.C_below HR281.out (by repeat (first | (with_reducible first | exact HB.out | apply below_alloc | apply pw_below_drewN | apply below_drew1) | exact HB.out))) | (with_reducible refine Kd.C_alloc ?_ _) | (with_reducible refine Kd.C_drewN ?_ _) | (with_reducible refine Kd.C_drew ?_))); (case side2 => exact HC281.out); rintro e w' ⟨rfl, ⟨nd, rfl⟩⟩; have p283 : 0 ≤ (x10_2 : Int) := of_decide_eq_true (by first | (with_reducible assumption) | assumption); have q283 : x10_2 < (t263.length : Int) := of_decide_eq_true (by first | (with_reducible assumption) | assumption); obtain ⟨ad283, e283, hx283_0⟩ := Kd.at_int (Kd.R_reads' HO_7.out).2.2 x10_2 p283 q283; obtain rfl : ad273 = ad283 := (by injection e283); replace p283 := eq_true p283; replace q283 := eq_true q283))
                                      go_roundg k2
                                      case measure => have := HJ4.out; have := HK2.out; omega
                                      case rel => exact ⟨(wrap64 (x9_2 + (rd t263 x10_2))), (wrap64 (x10_2 + 1)), (by first | rfl | (simp; done) | (simp [*]; done)), (by first | rfl | (simp; done) | (simp [*]; done)), H', ⟨by have := HJ4.out; have := HK2.out; omega⟩, ⟨by (with_reducible repeat (first | apply Kd.R_alloc | apply Kd.R_drewN | apply Kd.R_drew)); exact HO_7.out⟩, ⟨by repeat (first | (with_reducible first | exact HB.out | apply below_alloc | apply pw_below_drewN | apply below_drew1) | exact HB.out)⟩⟩
                                  · rw [if_neg c29] at H
                                    exact absurd H (by simp)
                                · rw [if_neg c28] at H
                                  exact absurd H (by simp)
                              · rw [if_neg c26] at H
                                have c26b0 : decide ((wrap64 (x9_2 + (rd t263 x10_2))) < (l0.length : Int)) = false := decide_eq_false c26
                                clear c26
                                have H' := Aside0.mk H
                                clear H
                                obtain ⟨Ao35, co35, eo35⟩ := Kd.R_slice HO_7.out
                                subst eo35
                                have p273 : 0 ≤ (x10_2 : Int) := of_decide_eq_true (by first | (with_reducible assumption) | assumption)
                                have q273 : x10_2 < (t263.length : Int) := of_decide_eq_true (by first | (with_reducible assumption) | assumption)
                                obtain ⟨ad273, e273, hx273_0⟩ := Kd.at_int (Kd.R_reads' HO_7.out).2.2 x10_2 p273 q273
                                cases e273
                                replace p273 := eq_true p273
                                replace q273 := eq_true q273
                                have p274 : 0 ≤ (x10_2 : Int) := of_decide_eq_true (by first | (with_reducible assumption) | assumption)
                                have q274 : x10_2 < (t263.length : Int) := of_decide_eq_true (by first | (with_reducible assumption) | assumption)
                                obtain ⟨ad274, e274, hx274_0⟩ := Kd.at_int (Kd.R_reads' HO_7.out).2.2 x10_2 p274 q274
                                obtain rfl : ad273 = ad274 := (by injection e274)
                                replace p274 := eq_true p274
                                replace q274 := eq_true q274
                                have p275 : 0 ≤ (x10_2 : Int) := of_decide_eq_true (by first | (with_reducible assumption) | assumption)
                                have q275 : x10_2 < (t263.length : Int) := of_decide_eq_true (by first | (with_reducible assumption) | assumption)
                                obtain ⟨ad275, e275, hx275_0⟩ := Kd.at_int (Kd.R_reads' HO_7.out).2.2 x10_2 p275 q275
                                obtain rfl : ad273 = ad275 := (by injection e275)
                                replace p275 := eq_true p275
                                replace q275 := eq_true q275
                                obtain ⟨i036, hi036, _, hsz36, _⟩ := info_parts info2
                                obtain ⟨A36, hcut36, hA36, hC36⟩ := print_mid_of (P := Try.prog) (Value.int .i64) 0 22 2 .i64 .i64 Try.underlying22 hi036 hsz36 A0 c0 l0 x9_2 (wrap64 (x9_2 + (rd t263 x10_2))) (of_decide_eq_true (by first | (with_reducible assumption) | assumption)) (by first | omega | exact of_decide_eq_true (by first | (with_reducible assumption) | assumption)) (of_decide_eq_true (by first | (with_reducible assumption) | assumption)) HC0.out
                                have HR276 := Aside0.mk (Kd.C_of_reads (h1 := fun _ => rfl) (hA36 _ (Kd.reads_of_C HR0.out)))
                                have HC276 := Aside0.mk hC36
                                clear hA36 hC36 hi036 hsz36
                                go_wp2_with (first | (go_at_call 17; (try rw [mid_len l0 x9_2 (wrap64 (x9_2 + (rd t263 x10_2))) (of_decide_eq_true (by first | (with_reducible assumption) | assumption))]); (with_reducible refine (variorumref19_Sum.calls k2 _ _ ((l0.take ((wrap64 (x9_2 + (rd t263 x10_2))) : Int).toNat).drop (x9_2 : Int).toNat) t277 _ ?side1 ?side2 A23.out).mono ?_); (case side1 => repeat (first | exact (Kd.C_below HR276.out HB.out) | (with_reducible refine Kd.C_alloc ?_ _) | (with_reducible refine Kd.C_drewN ?_ _) | (with_reducible refine Kd.C_drew ?_))); (case side2 => exact HC276.out); rintro e w' ⟨rfl, ⟨nd, rfl⟩⟩; have p278 : 0 ≤ (x10_2 : Int) := of_decide_eq_true (by first | (with_reducible assumption) | assumption); have q278 : x10_2 < (t263.length : Int) := of_decide_eq_true (by first | (with_reducible assumption) | assumption); obtain ⟨ad278, e278, hx278_0⟩ := Kd.at_int (Kd.R_reads' HO_7.out).2.2 x10_2 p278 q278; obtain rfl : ad273 = ad278 := (by injection e278); replace p278 := eq_true p278; replace q278 := eq_true q278; have p279 : 0 ≤ (x10_2 : Int) := of_decide_eq_true (by first | (with_reducible assumption) | assumption); have q279 : x10_2 < (t263.length : Int) := of_decide_eq_true (by first | (with_reducible assumption) | assumption); obtain ⟨ad279, e279, hx279_0⟩ := Kd.at_int (Kd.R_reads' HO_7.out).2.2 x10_2 p279 q279; obtain rfl : ad273 = ad279 := (by injection e279); replace p279 := eq_true p279; replace q279 := eq_true q279; have p284 : 0 ≤ (x10_2 : Int) := of_decide_eq_true (by first | (with_reducible assumption) | assumption); have q284 : x10_2 < (t263.length : Int) := of_decide_eq_true (by first | (with_reducible assumption) | assumption); obtain ⟨ad284, e284, hx284_0⟩ := Kd.at_int (Kd.R_reads' HO_7.out).2.2 x10_2 p284 q284; obtain rfl : ad273 = ad284 := (by injection e284); replace p284 := eq_true p284; replace q284 := eq_true q284))
                                go_roundg k2
                                case measure => have := HJ4.out; have := HK2.out; omega
                                case rel => exact ⟨(wrap64 (x9_2 + (rd t263 x10_2))), (wrap64 (x10_2 + 1)), (by first | rfl | (simp; done) | (simp [*]; done)), (by first | rfl | (simp; done) | (simp [*]; done)), H', ⟨by have := HJ4.out; have := HK2.out; omega⟩, ⟨by (with_reducible repeat (first | apply Kd.R_alloc | apply Kd.R_drewN | apply Kd.R_drew)); exact HO_7.out⟩, ⟨by repeat (first | (with_reducible first | exact HB.out | apply below_alloc | apply pw_below_drewN | apply below_drew1) | exact HB.out)⟩⟩
                          · rw [if_neg c24] at H
                            have c24b0 : decide (a2 < t277) = false := decide_eq_false c24
                            clear c24
                            by_cases c37 : (wrap64 (x9_2 + (rd t263 x10_2))) < (l0.length : Int)
                            · rw [if_pos c37] at H
                              have c37b0 : decide ((wrap64 (x9_2 + (rd t263 x10_2))) < (l0.length : Int)) = true := decide_eq_true c37
                              clear c37
                              have c38b0 := eq_true (of_decide_eq_true (by first | (with_reducible assumption) | assumption) : 0 ≤ x9_2)
                              by_cases c39 : x9_2 ≤ (wrap64 ((wrap64 (x9_2 + (rd t263 x10_2))) + 1))
                              · rw [if_pos c39] at H
                                have c39b0 := eq_true c39
                                have c39b1 : decide (x9_2 ≤ (wrap64 ((wrap64 (x9_2 + (rd t263 x10_2))) + 1))) = true := decide_eq_true c39
                                by_cases c40 : (wrap64 ((wrap64 (x9_2 + (rd t263 x10_2))) + 1)) ≤ (l0.length : Int)
                                · rw [if_pos c40] at H
                                  have c40b0 := eq_true c40
                                  have c40b1 : decide ((wrap64 ((wrap64 (x9_2 + (rd t263 x10_2))) + 1)) ≤ (l0.length : Int)) = true := decide_eq_true c40
                                  replace H := Option.bind_eq_some_iff.mp H
                                  obtain ⟨t288, A410, H⟩ := H
                                  replace H : (if t288 ≤ a2 then (none) else (variorumlaw19_ColumnFills.l0 k2 l0 a1 a2 t263 (wrap64 (x9_2 + (rd t263 x10_2))) (wrap64 (x10_2 + 1)))) = some r := H
                                  have A41 := Aside0.mk A410
                                  clear A410
                                  by_cases c42 : t288 ≤ a2
                                  · rw [if_pos c42] at H
                                    exact absurd H (by simp)
                                  · rw [if_neg c42] at H
                                    have c42b0 : decide (t288 ≤ a2) = false := decide_eq_false c42
                                    clear c42
                                    have H' := Aside0.mk H
                                    clear H
                                    obtain ⟨Ao43, co43, eo43⟩ := Kd.R_slice HO_7.out
                                    subst eo43
                                    have p273 : 0 ≤ (x10_2 : Int) := of_decide_eq_true (by first | (with_reducible assumption) | assumption)
                                    have q273 : x10_2 < (t263.length : Int) := of_decide_eq_true (by first | (with_reducible assumption) | assumption)
                                    obtain ⟨ad273, e273, hx273_0⟩ := Kd.at_int (Kd.R_reads' HO_7.out).2.2 x10_2 p273 q273
                                    cases e273
                                    replace p273 := eq_true p273
                                    replace q273 := eq_true q273
                                    have p274 : 0 ≤ (x10_2 : Int) := of_decide_eq_true (by first | (with_reducible assumption) | assumption)
                                    have q274 : x10_2 < (t263.length : Int) := of_decide_eq_true (by first | (with_reducible assumption) | assumption)
                                    obtain ⟨ad274, e274, hx274_0⟩ := Kd.at_int (Kd.R_reads' HO_7.out).2.2 x10_2 p274 q274
                                    obtain rfl : ad273 = ad274 := (by injection e274)
                                    replace p274 := eq_true p274
                                    replace q274 := eq_true q274
                                    have p275 : 0 ≤ (x10_2 : Int) := of_decide_eq_true (by first | (with_reducible assumption) | assumption)
                                    have q275 : x10_2 < (t263.length : Int) := of_decide_eq_true (by first | (with_reducible assumption) | assumption)
                                    obtain ⟨ad275, e275, hx275_0⟩ := Kd.at_int (Kd.R_reads' HO_7.out).2.2 x10_2 p275 q275
                                    obtain rfl : ad273 = ad275 := (by injection e275)
                                    replace p275 := eq_true p275
                                    replace q275 := eq_true q275
                                    obtain ⟨i044, hi044, _, hsz44, _⟩ := info_parts info2
                                    obtain ⟨A44, hcut44, hA44, hC44⟩ := print_mid_of (P := Try.prog) (Value.int .i64) 0 22 2 .i64 .i64 Try.underlying22 hi044 hsz44 A0 c0 l0 x9_2 (wrap64 (x9_2 + (rd t263 x10_2))) (of_decide_eq_true (by first | (with_reducible assumption) | assumption)) (by first | omega | exact of_decide_eq_true (by first | (with_reducible assumption) | assumption)) (of_decide_eq_true (by first | (with_reducible assumption) | assumption)) HC0.out
                                    have HR276 := Aside0.mk (Kd.C_of_reads (h1 := fun _ => rfl) (hA44 _ (Kd.reads_of_C HR0.out)))
                                    have HC276 := Aside0.mk hC44
                                    clear hA44 hC44 hi044 hsz44
                                    go_wp2_with (first | (go_at_call 17; (try rw [mid_len l0 x9_2 (wrap64 (x9_2 + (rd t263 x10_2))) (of_decide_eq_true (by first | (with_reducible assumption) | assumption))]); (with_reducible refine (variorumref19_Sum.calls k2 _ _ ((l0.take ((wrap64 (x9_2 + (rd t263 x10_2))) : Int).toNat).drop (x9_2 : Int).toNat) t277 _ ?side1 ?side2 A23.out).mono ?_); (case side1 => repeat (first | exact (Kd.C_below HR276.out HB.out) | (with_reducible refine Kd.C_alloc ?_ _) | (with_reducible refine Kd.C_drewN ?_ _) | (with_reducible refine Kd.C_drew ?_))); (case side2 => exact HC276.out); rintro e w' ⟨rfl, ⟨nd, rfl⟩⟩; have p285 : 0 ≤ (x10_2 : Int) := of_decide_eq_true (by first | (with_reducible assumption) | assumption); have q285 : x10_2 < (t263.length : Int) := of_decide_eq_true (by first | (with_reducible assumption) | assumption); obtain ⟨ad285, e285, hx285_0⟩ := Kd.at_int (Kd.R_reads' HO_7.out).2.2 x10_2 p285 q285; obtain rfl : ad273 = ad285 := (by injection e285); replace p285 := eq_true p285; replace q285 := eq_true q285; have p286 : 0 ≤ (x10_2 : Int) := of_decide_eq_true (by first | (with_reducible assumption) | assumption); have q286 : x10_2 < (t263.length : Int) := of_decide_eq_true (by first | (with_reducible assumption) | assumption); obtain ⟨ad286, e286, hx286_0⟩ := Kd.at_int (Kd.R_reads' HO_7.out).2.2 x10_2 p286 q286; obtain rfl : ad273 = ad286 := (by injection e286); replace p286 := eq_true p286; replace q286 := eq_true q286; obtain ⟨i045, hi045, _, hsz45, _⟩ := info_parts info2; obtain ⟨A45, hcut45, hA45, hC45⟩ := print_mid_of (P := Try.prog) (Value.int .i64) 0 22 2 .i64 .i64 Try.underlying22 hi045 hsz45 A0 c0 l0 x9_2 (wrap64 ((wrap64 (x9_2 + (rd t263 x10_2))) + 1)) (of_decide_eq_true (by first | (with_reducible assumption) | assumption)) (by first | omega | exact of_decide_eq_true (by first | (with_reducible assumption) | assumption)) (of_decide_eq_true (by first | (with_reducible assumption) | assumption)) HC0.out; have HR287 := Aside0.mk (Kd.C_of_reads (h1 := fun _ => rfl) (hA45 _ (Kd.reads_of_C HR0.out))); have HC287 := Aside0.mk hC45; clear hA45 hC45 hi045 hsz45) | (go_at_call 17; (try rw [mid_len l0 x9_2 (wrap64 ((wrap64 (x9_2 + (rd t263 x10_2))) + 1)) (of_decide_eq_true (by first | (with_reducible assumption) | assumption))]); (with_reducible refine (variorumref19_Sum.calls k2 _ _ ((l0.take ((wrap64 ((wrap64 (x9_2 + (rd t263 x10_2))) + 1)) : Int).toNat).drop (x9_2 : Int).toNat) t288 _ ?side1 ?side2 A41.out).mono ?_); (case side1 => repeat (first | exact (Kd.C_below HR287.out (by repeat (first | (with_reducible first | exact HB.out | apply below_alloc | apply pw_below_drewN | apply below_drew1) | exact HB.out))) | (with_reducible refine Kd.C_alloc ?_ _) | (with_reducible refine Kd.C_drewN ?_ _) | (with_reducible refine Kd.C_drew ?_))); (case side2 => exact HC287.out); rintro e w' ⟨rfl, ⟨nd, rfl⟩⟩; have p289 : 0 ≤ (x10_2 : Int) := of_decide_eq_true (by first | (with_reducible assumption) | assumption); have q289 : x10_2 < (t263.length : Int) := of_decide_eq_true (by first | (with_reducible assumption) | assumption); obtain ⟨ad289, e289, hx289_0⟩ := Kd.at_int (Kd.R_reads' HO_7.out).2.2 x10_2 p289 q289; obtain rfl : ad273 = ad289 := (by injection e289); replace p289 := eq_true p289; replace q289 := eq_true q289))
                                    go_roundg k2
                                    case measure => have := HJ4.out; have := HK2.out; omega
                                    case rel => exact ⟨(wrap64 (x9_2 + (rd t263 x10_2))), (wrap64 (x10_2 + 1)), (by first | rfl | (simp; done) | (simp [*]; done)), (by first | rfl | (simp; done) | (simp [*]; done)), H', ⟨by have := HJ4.out; have := HK2.out; omega⟩, ⟨by (with_reducible repeat (first | apply Kd.R_alloc | apply Kd.R_drewN | apply Kd.R_drew)); exact HO_7.out⟩, ⟨by repeat (first | (with_reducible first | exact HB.out | apply below_alloc | apply pw_below_drewN | apply below_drew1) | exact HB.out)⟩⟩
                                · rw [if_neg c40] at H
                                  exact absurd H (by simp)
                              · rw [if_neg c39] at H
                                exact absurd H (by simp)
                            · rw [if_neg c37] at H
                              have c37b0 : decide ((wrap64 (x9_2 + (rd t263 x10_2))) < (l0.length : Int)) = false := decide_eq_false c37
                              clear c37
                              have H' := Aside0.mk H
                              clear H
                              obtain ⟨Ao46, co46, eo46⟩ := Kd.R_slice HO_7.out
                              subst eo46
                              have p273 : 0 ≤ (x10_2 : Int) := of_decide_eq_true (by first | (with_reducible assumption) | assumption)
                              have q273 : x10_2 < (t263.length : Int) := of_decide_eq_true (by first | (with_reducible assumption) | assumption)
                              obtain ⟨ad273, e273, hx273_0⟩ := Kd.at_int (Kd.R_reads' HO_7.out).2.2 x10_2 p273 q273
                              cases e273
                              replace p273 := eq_true p273
                              replace q273 := eq_true q273
                              have p274 : 0 ≤ (x10_2 : Int) := of_decide_eq_true (by first | (with_reducible assumption) | assumption)
                              have q274 : x10_2 < (t263.length : Int) := of_decide_eq_true (by first | (with_reducible assumption) | assumption)
                              obtain ⟨ad274, e274, hx274_0⟩ := Kd.at_int (Kd.R_reads' HO_7.out).2.2 x10_2 p274 q274
                              obtain rfl : ad273 = ad274 := (by injection e274)
                              replace p274 := eq_true p274
                              replace q274 := eq_true q274
                              have p275 : 0 ≤ (x10_2 : Int) := of_decide_eq_true (by first | (with_reducible assumption) | assumption)
                              have q275 : x10_2 < (t263.length : Int) := of_decide_eq_true (by first | (with_reducible assumption) | assumption)
                              obtain ⟨ad275, e275, hx275_0⟩ := Kd.at_int (Kd.R_reads' HO_7.out).2.2 x10_2 p275 q275
                              obtain rfl : ad273 = ad275 := (by injection e275)
                              replace p275 := eq_true p275
                              replace q275 := eq_true q275
                              obtain ⟨i047, hi047, _, hsz47, _⟩ := info_parts info2
                              obtain ⟨A47, hcut47, hA47, hC47⟩ := print_mid_of (P := Try.prog) (Value.int .i64) 0 22 2 .i64 .i64 Try.underlying22 hi047 hsz47 A0 c0 l0 x9_2 (wrap64 (x9_2 + (rd t263 x10_2))) (of_decide_eq_true (by first | (with_reducible assumption) | assumption)) (by first | omega | exact of_decide_eq_true (by first | (with_reducible assumption) | assumption)) (of_decide_eq_true (by first | (with_reducible assumption) | assumption)) HC0.out
                              have HR276 := Aside0.mk (Kd.C_of_reads (h1 := fun _ => rfl) (hA47 _ (Kd.reads_of_C HR0.out)))
                              have HC276 := Aside0.mk hC47
                              clear hA47 hC47 hi047 hsz47
                              go_wp2_with (first | (go_at_call 17; (try rw [mid_len l0 x9_2 (wrap64 (x9_2 + (rd t263 x10_2))) (of_decide_eq_true (by first | (with_reducible assumption) | assumption))]); (with_reducible refine (variorumref19_Sum.calls k2 _ _ ((l0.take ((wrap64 (x9_2 + (rd t263 x10_2))) : Int).toNat).drop (x9_2 : Int).toNat) t277 _ ?side1 ?side2 A23.out).mono ?_); (case side1 => repeat (first | exact (Kd.C_below HR276.out HB.out) | (with_reducible refine Kd.C_alloc ?_ _) | (with_reducible refine Kd.C_drewN ?_ _) | (with_reducible refine Kd.C_drew ?_))); (case side2 => exact HC276.out); rintro e w' ⟨rfl, ⟨nd, rfl⟩⟩; have p285 : 0 ≤ (x10_2 : Int) := of_decide_eq_true (by first | (with_reducible assumption) | assumption); have q285 : x10_2 < (t263.length : Int) := of_decide_eq_true (by first | (with_reducible assumption) | assumption); obtain ⟨ad285, e285, hx285_0⟩ := Kd.at_int (Kd.R_reads' HO_7.out).2.2 x10_2 p285 q285; obtain rfl : ad273 = ad285 := (by injection e285); replace p285 := eq_true p285; replace q285 := eq_true q285; have p290 : 0 ≤ (x10_2 : Int) := of_decide_eq_true (by first | (with_reducible assumption) | assumption); have q290 : x10_2 < (t263.length : Int) := of_decide_eq_true (by first | (with_reducible assumption) | assumption); obtain ⟨ad290, e290, hx290_0⟩ := Kd.at_int (Kd.R_reads' HO_7.out).2.2 x10_2 p290 q290; obtain rfl : ad273 = ad290 := (by injection e290); replace p290 := eq_true p290; replace q290 := eq_true q290))
                              go_roundg k2
                              case measure => have := HJ4.out; have := HK2.out; omega
                              case rel => exact ⟨(wrap64 (x9_2 + (rd t263 x10_2))), (wrap64 (x10_2 + 1)), (by first | rfl | (simp; done) | (simp [*]; done)), (by first | rfl | (simp; done) | (simp [*]; done)), H', ⟨by have := HJ4.out; have := HK2.out; omega⟩, ⟨by (with_reducible repeat (first | apply Kd.R_alloc | apply Kd.R_drewN | apply Kd.R_drew)); exact HO_7.out⟩, ⟨by repeat (first | (with_reducible first | exact HB.out | apply below_alloc | apply pw_below_drewN | apply below_drew1) | exact HB.out)⟩⟩
                        · rw [if_neg c22] at H
                          exact absurd H (by simp)
                      · rw [if_neg c21] at H
                        exact absurd H (by simp)
                    · rw [if_neg c20] at H
                      exact absurd H (by simp)
              · rw [if_neg c17] at H
                exact absurd H (by simp)
            · rw [if_neg c16] at H
              have c16b0 : decide (x10_2 < (t263.length : Int)) = false := decide_eq_false c16
              clear c16
              by_cases c48 : a2 > 9000000000000000000
              · rw [if_pos c48] at H
                have c48b0 : decide (9000000000000000000 < a2) = true := decide_eq_true c48
                clear c48
                obtain rfl := Option.some.inj H
                obtain ⟨Ao49, co49, eo49⟩ := Kd.R_slice HO_7.out
                subst eo49
                go_wp2
                go_ret
                exact ⟨by first | rfl | (simp [errW_none, errW_some] <;> rfl) | (simp [*, errW_none, errW_some] <;> rfl), by repeat (first | (with_reducible first | exact HB.out | apply below_alloc | apply pw_below_drewN | apply below_drew1) | exact HB.out)⟩
              · rw [if_neg c48] at H
                have c48b0 : decide (9000000000000000000 < a2) = false := decide_eq_false c48
                clear c48
                replace H := Option.bind_eq_some_iff.mp H
                obtain ⟨⟨t269, t270⟩, A500, H⟩ := H
                replace H : (if x9_2 = (l0.length : Int) then (if (t263.length : Int) = a1 then (some t270) else (none)) else (none)) = some r := H
                have A50 := Aside0.mk A500
                clear A500
                by_cases c51 : x9_2 = (l0.length : Int)
                · rw [if_pos c51] at H
                  have c51b0 : (x9_2 == (l0.length : Int)) = true := beq_iff_eq.mpr c51
                  have c51b1 : (x9_2 != (l0.length : Int)) = false := bne_eq_false_iff_eq.mpr c51
                  clear c51
                  by_cases c52 : (t263.length : Int) = a1
                  · rw [if_pos c52] at H
                    have c52b0 : ((t263.length : Int) == a1) = true := beq_iff_eq.mpr c52
                    have c52b1 : ((t263.length : Int) != a1) = false := bne_eq_false_iff_eq.mpr c52
                    clear c52
                    obtain rfl := Option.some.inj H
                    obtain ⟨Ao53, co53, eo53⟩ := Kd.R_slice HO_7.out
                    subst eo53
                    go_wp2_with (first | ((with_reducible refine gate_callee (f := 10) rfl ?_); refine goesL_ (some 114) rfl rfl Try.func10 (by kernel_rfl) rfl #[.slice A0 l0.length c0, .int .i64 a1, .int .i64 (wrap64 (a2 + 1))] rfl (by (try simp only [List.map_toArray, List.map_cons, List.map_nil]); first | done | rfl | (simp only [List.length_drop, List.length_take]; rfl) | (simp only [*]; first | done | rfl)) ?_; (with_reducible refine (column_Fill.calls k2 _ _ l0 a1 (wrap64 (a2 + 1)) t269 t270 _ ?side1 ?side2 A50.out).mono ?_); (case side1 => repeat (first | exact (Kd.C_below HR0.out HB.out) | (with_reducible refine Kd.C_alloc ?_ _) | (with_reducible refine Kd.C_drewN ?_ _) | (with_reducible refine Kd.C_drew ?_))); (case side2 => exact HC0.out); rintro e w54 ⟨v271, rfl, ho0, hb⟩; refine ⟨_, rfl, ?_⟩; have n0_ := Aside0.mk (Kd.R_elder' (by (with_reducible repeat (first | apply Kd.R_alloc | apply Kd.R_drewN | apply Kd.R_drew)); exact HO_7.out) (Kd.R_base ho0) hb); have n1_ := Aside0.mk (Kd.R_lower (Kd.R_new' ho0 (Kd.R_lt (by (with_reducible repeat (first | apply Kd.R_alloc | apply Kd.R_drewN | apply Kd.R_drew)); exact HO_7.out))) (below_size (by repeat (first | (with_reducible first | exact HB.out | apply below_alloc | apply pw_below_drewN | apply below_drew1) | exact HB.out)))); have n2_ := Aside0.mk (below_step (by repeat (first | (with_reducible first | exact HB.out | apply below_alloc | apply pw_below_drewN | apply below_drew1) | exact HB.out)) hb); clear HO_7; clear HB; have HO_7 := n0_; have HO272 := n1_; have HB := n2_; clear n0_ n1_ n2_; (try clear hb); (try clear hb2); (try clear hk); (try clear hi); (try clear ho0)))
                    go_ret
                    exact ⟨by first | rfl | (simp [errW_none, errW_some] <;> rfl) | (simp [*, errW_none, errW_some] <;> rfl), by repeat (first | (with_reducible first | exact HB.out | apply below_alloc | apply pw_below_drewN | apply below_drew1) | exact HB.out)⟩
                  · rw [if_neg c52] at H
                    exact absurd H (by simp)
                · rw [if_neg c51] at H
                  exact absurd H (by simp)

/-- The one statement about numbers and lists that is left of the law. -/
def variorumlaw19_ColumnFills.Pure : Prop := ∀ (x0 : List Int) (x1 : Int) (x2 : Int), (x0.length * 8 ≤ 140737488351232 ∧ ∀ y0 ∈ x0, (Lit.int .i64 y0).wf = true) → (Lit.int .i64 x1).wf = true → (Lit.int .i64 x2).wf = true → ∃ k, variorumlaw19_ColumnFills.f k x0 x1 x2 = some true

end Go.Proofs.Ytgkpomeobaheiaa.PAll

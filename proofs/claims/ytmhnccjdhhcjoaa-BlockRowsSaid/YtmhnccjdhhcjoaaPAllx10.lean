/- Written by a program of this session: functions of the given program as plain Lean functions, the walks that show it, and the row of each law, for every input that its statement speaks of. -/
import Derived.Test.YtmhnccjdhhcjoaaPAllx0
import Derived.Test.YtmhnccjdhhcjoaaPAllx2
import Derived.Test.YtmhnccjdhhcjoaaPAllx3
import Derived.Test.YtmhnccjdhhcjoaaPAllx4
namespace Go.Proofs.Ytmhnccjdhhcjoaa.PAll
open Go.RowKit Go.Proofs.YtmhnccjdhhcjoaaW.PrintWords Go.Proofs.YtmhnccjdhhcjoaaW.PrintLast Go.Proofs.YtmhnccjdhhcjoaaW.PrintMore
attribute [local go_sem] max2_int min2_int max_two min_two max_three min_three max_four min_four   -- for this text's walks alone
set_option linter.unusedVariables false
set_option linter.unusedSimpArgs false

/-! ### variorumlaw20_BlockLeast: function 5 -/
def variorumlaw20_BlockLeast.j0 : Nat → List Int → Int → Bool → Int → Bool → Int → Bool → Int → Bool → Bool → Option (Bool)
  | 0, _, _, _, _, _, _, _, _, _, _ => none
  | k + 1, x0, x4, x5, x7, x8, x10, x11, x13, x14, x60 => if x60 = true then ((variorumlaw20_fixed.f k).bind fun t311 => (if t311 = true then (if (x5 == x8) = true then (if (x5 == x11) = true then (some (x5 == x14)) else (none)) else (none)) else (none))) else (if x5 = true then ((variorumref19_Sum.f k x0).bind fun t312 => (if x4 = t312 then (if x7 = x4 then (if x10 ≤ x4 then (if x13 ≤ x10 then (if (wrap64 (3 * x13)) ≥ x4 then (some (decide ((wrap64 (2 * x10)) ≥ x4))) else (none)) else (none)) else (none)) else (none)) else (none))) else (some true))
def variorumlaw20_BlockLeast.f (k : Nat) (l0 : List Int) : Option (Bool) := (block_Place.f k 0 l0).bind fun bt290 => ((block_Place.f k 1 l0).bind fun bt295 => ((block_Place.f k 2 l0).bind fun bt300 => ((block_Place.f k 3 l0).bind fun bt305 => ((variorumlaw20_fixed.f k).bind fun t310 => (if t310 = true then (if (bt290.2.2 != bt295.2.2) = true then (variorumlaw20_BlockLeast.j0 k l0 bt290.2.1 bt290.2.2 bt295.2.1 bt295.2.2 bt300.2.1 bt300.2.2 bt305.2.1 bt305.2.2 true) else (if (bt290.2.2 != bt300.2.2) = true then (variorumlaw20_BlockLeast.j0 k l0 bt290.2.1 bt290.2.2 bt295.2.1 bt295.2.2 bt300.2.1 bt300.2.2 bt305.2.1 bt305.2.2 true) else (if (bt290.2.2 != bt305.2.2) = true then (variorumlaw20_BlockLeast.j0 k l0 bt290.2.1 bt290.2.2 bt295.2.1 bt295.2.2 bt300.2.1 bt300.2.2 bt305.2.1 bt305.2.2 true) else (variorumlaw20_BlockLeast.j0 k l0 bt290.2.1 bt290.2.2 bt295.2.1 bt295.2.2 bt300.2.1 bt300.2.2 bt305.2.1 bt305.2.2 (decide ((l0.length : Int) > 200)))))) else (variorumlaw20_BlockLeast.j0 k l0 bt290.2.1 bt290.2.2 bt295.2.1 bt295.2.2 bt300.2.1 bt300.2.2 bt305.2.1 bt305.2.2 true))))))
theorem variorumlaw20_BlockLeast.mono_l : ∀ k, (∀ y0 y1 y2 y3 y4 y5 y6 y7 y8 y9, LeO (variorumlaw20_BlockLeast.j0 k y0 y1 y2 y3 y4 y5 y6 y7 y8 y9) (variorumlaw20_BlockLeast.j0 (k + 1) y0 y1 y2 y3 y4 y5 y6 y7 y8 y9))
  | 0 => fun _ _ _ _ _ _ _ _ _ _ r h => by simp [variorumlaw20_BlockLeast.j0] at h
  | k + 1 => by
    have ih0 := variorumlaw20_BlockLeast.mono_l k
    · intro y0 y1 y2 y3 y4 y5 y6 y7 y8 y9
      unfold variorumlaw20_BlockLeast.j0
      repeat' first
      | (with_reducible exact ih0 _ _ _ _ _ _ _ _ _ _)
      | (with_reducible exact block_Place.mono _ _ _)
      | (with_reducible exact variorumlaw20_fixed.mono _)
      | (with_reducible exact variorumref19_Sum.mono _ _)
      | (with_reducible exact LeO.refl _)
      | (with_reducible exact LeO.none _)
      | (with_reducible refine LeO.ite ?_ ?_)
      | (with_reducible refine LeO.bind ?_ (fun _ => ?_))
      | exact ih0 _ _ _ _ _ _ _ _ _ _
      | exact block_Place.mono _ _ _
      | exact variorumlaw20_fixed.mono _
      | exact variorumref19_Sum.mono _ _
      | exact LeO.none _
      | refine LeO.ite ?_ ?_
      | refine LeO.bind ?_ (fun _ => ?_)
theorem variorumlaw20_BlockLeast.mono : ∀ a0 k, LeO (variorumlaw20_BlockLeast.f k a0) (variorumlaw20_BlockLeast.f (k + 1) a0) := by
  intro a0 k
  have ih0 := variorumlaw20_BlockLeast.mono_l k
  unfold variorumlaw20_BlockLeast.f
  repeat' first
      | (with_reducible exact ih0 _ _ _ _ _ _ _ _ _ _)
      | (with_reducible exact block_Place.mono _ _ _)
      | (with_reducible exact variorumlaw20_fixed.mono _)
      | (with_reducible exact variorumref19_Sum.mono _ _)
      | (with_reducible exact LeO.refl _)
      | (with_reducible exact LeO.none _)
      | (with_reducible refine LeO.ite ?_ ?_)
      | (with_reducible refine LeO.bind ?_ (fun _ => ?_))
      | exact ih0 _ _ _ _ _ _ _ _ _ _
      | exact block_Place.mono _ _ _
      | exact variorumlaw20_fixed.mono _
      | exact variorumref19_Sum.mono _ _
      | exact LeO.none _
      | refine LeO.ite ?_ ?_
      | refine LeO.bind ?_ (fun _ => ?_)
set_option maxHeartbeats 8000000 in
set_option maxRecDepth 100000 in
theorem variorumlaw20_BlockLeast.calls (k : Nat) (A0 : Option Addr) (c0 : Nat) (l0 : List Int) (r : Bool) (w : World) (hr0 : Kd.C (Kd.int .i64) w A0 l0.length l0) (hc0 : l0.length ≤ c0) (h : variorumlaw20_BlockLeast.f k l0 = some r) :
    Calls Try.prog 5 #[.slice A0 l0.length c0] w fun e w' => e = .returned (.bool r) ∧ Below w.heap.size w w' := by
  have HR0 := Aside0.mk hr0
  have HC0 := Aside0.mk hc0
  clear hr0 hc0
  have HB := Aside0.mk (Below.refl w.heap.size w)
  have H : ((block_Place.f k 0 l0).bind fun bt290 => ((block_Place.f k 1 l0).bind fun bt295 => ((block_Place.f k 2 l0).bind fun bt300 => ((block_Place.f k 3 l0).bind fun bt305 => ((variorumlaw20_fixed.f k).bind fun t310 => (if t310 = true then (if (bt290.2.2 != bt295.2.2) = true then (variorumlaw20_BlockLeast.j0 k l0 bt290.2.1 bt290.2.2 bt295.2.1 bt295.2.2 bt300.2.1 bt300.2.2 bt305.2.1 bt305.2.2 true) else (if (bt290.2.2 != bt300.2.2) = true then (variorumlaw20_BlockLeast.j0 k l0 bt290.2.1 bt290.2.2 bt295.2.1 bt295.2.2 bt300.2.1 bt300.2.2 bt305.2.1 bt305.2.2 true) else (if (bt290.2.2 != bt305.2.2) = true then (variorumlaw20_BlockLeast.j0 k l0 bt290.2.1 bt290.2.2 bt295.2.1 bt295.2.2 bt300.2.1 bt300.2.2 bt305.2.1 bt305.2.2 true) else (variorumlaw20_BlockLeast.j0 k l0 bt290.2.1 bt290.2.2 bt295.2.1 bt295.2.2 bt300.2.1 bt300.2.2 bt305.2.1 bt305.2.2 (decide ((l0.length : Int) > 200)))))) else (variorumlaw20_BlockLeast.j0 k l0 bt290.2.1 bt290.2.2 bt295.2.1 bt295.2.2 bt300.2.1 bt300.2.2 bt305.2.1 bt305.2.2 true))))))) = some r := h
  clear h
  replace H := Option.bind_eq_some_iff.mp H
  obtain ⟨⟨t290, t291, t292⟩, A20, H⟩ := H
  replace H : ((block_Place.f k 1 l0).bind fun bt295 => ((block_Place.f k 2 l0).bind fun bt300 => ((block_Place.f k 3 l0).bind fun bt305 => ((variorumlaw20_fixed.f k).bind fun t310 => (if t310 = true then (if (t292 != bt295.2.2) = true then (variorumlaw20_BlockLeast.j0 k l0 t291 t292 bt295.2.1 bt295.2.2 bt300.2.1 bt300.2.2 bt305.2.1 bt305.2.2 true) else (if (t292 != bt300.2.2) = true then (variorumlaw20_BlockLeast.j0 k l0 t291 t292 bt295.2.1 bt295.2.2 bt300.2.1 bt300.2.2 bt305.2.1 bt305.2.2 true) else (if (t292 != bt305.2.2) = true then (variorumlaw20_BlockLeast.j0 k l0 t291 t292 bt295.2.1 bt295.2.2 bt300.2.1 bt300.2.2 bt305.2.1 bt305.2.2 true) else (variorumlaw20_BlockLeast.j0 k l0 t291 t292 bt295.2.1 bt295.2.2 bt300.2.1 bt300.2.2 bt305.2.1 bt305.2.2 (decide ((l0.length : Int) > 200)))))) else (variorumlaw20_BlockLeast.j0 k l0 t291 t292 bt295.2.1 bt295.2.2 bt300.2.1 bt300.2.2 bt305.2.1 bt305.2.2 true)))))) = some r := H
  have A2 := Aside0.mk A20
  clear A20
  replace H := Option.bind_eq_some_iff.mp H
  obtain ⟨⟨t295, t296, t297⟩, A30, H⟩ := H
  replace H : ((block_Place.f k 2 l0).bind fun bt300 => ((block_Place.f k 3 l0).bind fun bt305 => ((variorumlaw20_fixed.f k).bind fun t310 => (if t310 = true then (if (t292 != t297) = true then (variorumlaw20_BlockLeast.j0 k l0 t291 t292 t296 t297 bt300.2.1 bt300.2.2 bt305.2.1 bt305.2.2 true) else (if (t292 != bt300.2.2) = true then (variorumlaw20_BlockLeast.j0 k l0 t291 t292 t296 t297 bt300.2.1 bt300.2.2 bt305.2.1 bt305.2.2 true) else (if (t292 != bt305.2.2) = true then (variorumlaw20_BlockLeast.j0 k l0 t291 t292 t296 t297 bt300.2.1 bt300.2.2 bt305.2.1 bt305.2.2 true) else (variorumlaw20_BlockLeast.j0 k l0 t291 t292 t296 t297 bt300.2.1 bt300.2.2 bt305.2.1 bt305.2.2 (decide ((l0.length : Int) > 200)))))) else (variorumlaw20_BlockLeast.j0 k l0 t291 t292 t296 t297 bt300.2.1 bt300.2.2 bt305.2.1 bt305.2.2 true))))) = some r := H
  have A3 := Aside0.mk A30
  clear A30
  replace H := Option.bind_eq_some_iff.mp H
  obtain ⟨⟨t300, t301, t302⟩, A40, H⟩ := H
  replace H : ((block_Place.f k 3 l0).bind fun bt305 => ((variorumlaw20_fixed.f k).bind fun t310 => (if t310 = true then (if (t292 != t297) = true then (variorumlaw20_BlockLeast.j0 k l0 t291 t292 t296 t297 t301 t302 bt305.2.1 bt305.2.2 true) else (if (t292 != t302) = true then (variorumlaw20_BlockLeast.j0 k l0 t291 t292 t296 t297 t301 t302 bt305.2.1 bt305.2.2 true) else (if (t292 != bt305.2.2) = true then (variorumlaw20_BlockLeast.j0 k l0 t291 t292 t296 t297 t301 t302 bt305.2.1 bt305.2.2 true) else (variorumlaw20_BlockLeast.j0 k l0 t291 t292 t296 t297 t301 t302 bt305.2.1 bt305.2.2 (decide ((l0.length : Int) > 200)))))) else (variorumlaw20_BlockLeast.j0 k l0 t291 t292 t296 t297 t301 t302 bt305.2.1 bt305.2.2 true)))) = some r := H
  have A4 := Aside0.mk A40
  clear A40
  replace H := Option.bind_eq_some_iff.mp H
  obtain ⟨⟨t305, t306, t307⟩, A50, H⟩ := H
  replace H : ((variorumlaw20_fixed.f k).bind fun t310 => (if t310 = true then (if (t292 != t297) = true then (variorumlaw20_BlockLeast.j0 k l0 t291 t292 t296 t297 t301 t302 t306 t307 true) else (if (t292 != t302) = true then (variorumlaw20_BlockLeast.j0 k l0 t291 t292 t296 t297 t301 t302 t306 t307 true) else (if (t292 != t307) = true then (variorumlaw20_BlockLeast.j0 k l0 t291 t292 t296 t297 t301 t302 t306 t307 true) else (variorumlaw20_BlockLeast.j0 k l0 t291 t292 t296 t297 t301 t302 t306 t307 (decide ((l0.length : Int) > 200)))))) else (variorumlaw20_BlockLeast.j0 k l0 t291 t292 t296 t297 t301 t302 t306 t307 true))) = some r := H
  have A5 := Aside0.mk A50
  clear A50
  have HC6 := Aside0.mk H
  clear H
  go_enter Try.func5, Try.ntmps5
  go_upto_region 5 with (first | ((with_reducible refine gate_callee (f := 8) rfl ?_); refine goesL_ (some 17) rfl rfl Try.func8 (by kernel_rfl) rfl #[.int .i64 0, .slice A0 l0.length c0] rfl (by (try simp only [List.map_toArray, List.map_cons, List.map_nil]); first | done | rfl | (simp only [List.length_drop, List.length_take]; rfl) | (simp only [*]; first | done | rfl)) ?_; (with_reducible refine (block_Place.calls k 0 _ _ l0 t290 t291 t292 _ ?side1 ?side2 A2.out).mono ?_); (case side1 => repeat (first | exact HR0.out | (with_reducible refine Kd.C_alloc ?_ _) | (with_reducible refine Kd.C_drewN ?_ _) | (with_reducible refine Kd.C_drew ?_))); (case side2 => exact HC0.out); rintro e w7 ⟨v293, rfl, ho0, hb⟩; refine ⟨_, rfl, ?_⟩; have n0_ := Aside0.mk (Kd.R_lower ho0 (below_size (by repeat (first | (with_reducible first | exact HB.out | apply below_alloc | apply pw_below_drewN | apply below_drew1) | exact HB.out)))); have n1_ := Aside0.mk (below_step (by repeat (first | (with_reducible first | exact HB.out | apply below_alloc | apply pw_below_drewN | apply below_drew1) | exact HB.out)) hb); clear HB; have HO294 := n0_; have HB := n1_; clear n0_ n1_; (try clear hb); (try clear hb2); (try clear hk); (try clear hi); (try clear ho0)) | ((with_reducible refine gate_callee (f := 8) rfl ?_); refine goesL_ (some 23) rfl rfl Try.func8 (by kernel_rfl) rfl #[.int .i64 1, .slice A0 l0.length c0] rfl (by (try simp only [List.map_toArray, List.map_cons, List.map_nil]); first | done | rfl | (simp only [List.length_drop, List.length_take]; rfl) | (simp only [*]; first | done | rfl)) ?_; (with_reducible refine (block_Place.calls k 1 _ _ l0 t295 t296 t297 _ ?side1 ?side2 A3.out).mono ?_); (case side1 => repeat (first | exact (Kd.C_below HR0.out HB.out) | (with_reducible refine Kd.C_alloc ?_ _) | (with_reducible refine Kd.C_drewN ?_ _) | (with_reducible refine Kd.C_drew ?_))); (case side2 => exact HC0.out); rintro e w8 ⟨v298, rfl, ho0, hb⟩; refine ⟨_, rfl, ?_⟩; have n0_ := Aside0.mk (Kd.R_elder' (by (with_reducible repeat (first | apply Kd.R_alloc | apply Kd.R_drewN | apply Kd.R_drew)); exact HO294.out) (Kd.R_base ho0) hb); have n1_ := Aside0.mk (Kd.R_lower (Kd.R_new' ho0 (Kd.R_lt (by (with_reducible repeat (first | apply Kd.R_alloc | apply Kd.R_drewN | apply Kd.R_drew)); exact HO294.out))) (below_size (by repeat (first | (with_reducible first | exact HB.out | apply below_alloc | apply pw_below_drewN | apply below_drew1) | exact HB.out)))); have n2_ := Aside0.mk (below_step (by repeat (first | (with_reducible first | exact HB.out | apply below_alloc | apply pw_below_drewN | apply below_drew1) | exact HB.out)) hb); clear HO294; clear HB; have HO294 := n0_; have HO299 := n1_; have HB := n2_; clear n0_ n1_ n2_; (try clear hb); (try clear hb2); (try clear hk); (try clear hi); (try clear ho0)) | ((with_reducible refine gate_callee (f := 8) rfl ?_); refine goesL_ (some 29) rfl rfl Try.func8 (by kernel_rfl) rfl #[.int .i64 2, .slice A0 l0.length c0] rfl (by (try simp only [List.map_toArray, List.map_cons, List.map_nil]); first | done | rfl | (simp only [List.length_drop, List.length_take]; rfl) | (simp only [*]; first | done | rfl)) ?_; (with_reducible refine (block_Place.calls k 2 _ _ l0 t300 t301 t302 _ ?side1 ?side2 A4.out).mono ?_); (case side1 => repeat (first | exact (Kd.C_below HR0.out HB.out) | (with_reducible refine Kd.C_alloc ?_ _) | (with_reducible refine Kd.C_drewN ?_ _) | (with_reducible refine Kd.C_drew ?_))); (case side2 => exact HC0.out); rintro e w9 ⟨v303, rfl, ho0, hb⟩; refine ⟨_, rfl, ?_⟩; have n0_ := Aside0.mk (Kd.R_elder' (by (with_reducible repeat (first | apply Kd.R_alloc | apply Kd.R_drewN | apply Kd.R_drew)); exact HO294.out) (Kd.R_base ho0) hb); have n1_ := Aside0.mk (Kd.R_elder' (by (with_reducible repeat (first | apply Kd.R_alloc | apply Kd.R_drewN | apply Kd.R_drew)); exact HO299.out) (Kd.R_base ho0) hb); have n2_ := Aside0.mk (Kd.R_lower (Kd.R_new' (Kd.R_new' ho0 (Kd.R_lt (by (with_reducible repeat (first | apply Kd.R_alloc | apply Kd.R_drewN | apply Kd.R_drew)); exact HO294.out))) (Kd.R_lt (by (with_reducible repeat (first | apply Kd.R_alloc | apply Kd.R_drewN | apply Kd.R_drew)); exact HO299.out))) (below_size (by repeat (first | (with_reducible first | exact HB.out | apply below_alloc | apply pw_below_drewN | apply below_drew1) | exact HB.out)))); have n3_ := Aside0.mk (below_step (by repeat (first | (with_reducible first | exact HB.out | apply below_alloc | apply pw_below_drewN | apply below_drew1) | exact HB.out)) hb); clear HO294; clear HO299; clear HB; have HO294 := n0_; have HO299 := n1_; have HO304 := n2_; have HB := n3_; clear n0_ n1_ n2_ n3_; (try clear hb); (try clear hb2); (try clear hk); (try clear hi); (try clear ho0)) | ((with_reducible refine gate_callee (f := 8) rfl ?_); refine goesL_ (some 35) rfl rfl Try.func8 (by kernel_rfl) rfl #[.int .i64 3, .slice A0 l0.length c0] rfl (by (try simp only [List.map_toArray, List.map_cons, List.map_nil]); first | done | rfl | (simp only [List.length_drop, List.length_take]; rfl) | (simp only [*]; first | done | rfl)) ?_; (with_reducible refine (block_Place.calls k 3 _ _ l0 t305 t306 t307 _ ?side1 ?side2 A5.out).mono ?_); (case side1 => repeat (first | exact (Kd.C_below HR0.out HB.out) | (with_reducible refine Kd.C_alloc ?_ _) | (with_reducible refine Kd.C_drewN ?_ _) | (with_reducible refine Kd.C_drew ?_))); (case side2 => exact HC0.out); rintro e w10 ⟨v308, rfl, ho0, hb⟩; refine ⟨_, rfl, ?_⟩; have n0_ := Aside0.mk (Kd.R_elder' (by (with_reducible repeat (first | apply Kd.R_alloc | apply Kd.R_drewN | apply Kd.R_drew)); exact HO294.out) (Kd.R_base ho0) hb); have n1_ := Aside0.mk (Kd.R_elder' (by (with_reducible repeat (first | apply Kd.R_alloc | apply Kd.R_drewN | apply Kd.R_drew)); exact HO299.out) (Kd.R_base ho0) hb); have n2_ := Aside0.mk (Kd.R_elder' (by (with_reducible repeat (first | apply Kd.R_alloc | apply Kd.R_drewN | apply Kd.R_drew)); exact HO304.out) (Kd.R_base ho0) hb); have n3_ := Aside0.mk (Kd.R_lower (Kd.R_new' (Kd.R_new' (Kd.R_new' ho0 (Kd.R_lt (by (with_reducible repeat (first | apply Kd.R_alloc | apply Kd.R_drewN | apply Kd.R_drew)); exact HO294.out))) (Kd.R_lt (by (with_reducible repeat (first | apply Kd.R_alloc | apply Kd.R_drewN | apply Kd.R_drew)); exact HO299.out))) (Kd.R_lt (by (with_reducible repeat (first | apply Kd.R_alloc | apply Kd.R_drewN | apply Kd.R_drew)); exact HO304.out))) (below_size (by repeat (first | (with_reducible first | exact HB.out | apply below_alloc | apply pw_below_drewN | apply below_drew1) | exact HB.out)))); have n4_ := Aside0.mk (below_step (by repeat (first | (with_reducible first | exact HB.out | apply below_alloc | apply pw_below_drewN | apply below_drew1) | exact HB.out)) hb); clear HO294; clear HO299; clear HO304; clear HB; have HO294 := n0_; have HO299 := n1_; have HO304 := n2_; have HO309 := n3_; have HB := n4_; clear n0_ n1_ n2_ n3_ n4_; (try clear hb); (try clear hb2); (try clear hk); (try clear hi); (try clear ho0)))
  (try simp only [Act.put, List.setIfInBounds_toArray, List.set_cons_zero, List.set_cons_succ])
  go_cut [60] (fun v60 wc => ∃ (kq : Nat) (x60_5 : Bool), v60 = .bool x60_5 ∧ Aside0 (variorumlaw20_BlockLeast.j0 kq l0 t291 t292 t296 t297 t301 t302 t306 t307 x60_5 = some r) ∧ Aside0 (kq ≤ k) ∧ Aside0 (Below w.heap.size w wc))
  case first =>
    have H := HC6.out
    clear HC6
    replace H := Option.bind_eq_some_iff.mp H
    obtain ⟨t310, A110, H⟩ := H
    replace H : (if t310 = true then (if (t292 != t297) = true then (variorumlaw20_BlockLeast.j0 k l0 t291 t292 t296 t297 t301 t302 t306 t307 true) else (if (t292 != t302) = true then (variorumlaw20_BlockLeast.j0 k l0 t291 t292 t296 t297 t301 t302 t306 t307 true) else (if (t292 != t307) = true then (variorumlaw20_BlockLeast.j0 k l0 t291 t292 t296 t297 t301 t302 t306 t307 true) else (variorumlaw20_BlockLeast.j0 k l0 t291 t292 t296 t297 t301 t302 t306 t307 (decide ((l0.length : Int) > 200)))))) else (variorumlaw20_BlockLeast.j0 k l0 t291 t292 t296 t297 t301 t302 t306 t307 true)) = some r := H
    have A11 := Aside0.mk A110
    clear A110
    by_cases c12 : t310 = true
    · subst c12
      have H1 : (if (t292 != t297) = true then (variorumlaw20_BlockLeast.j0 k l0 t291 t292 t296 t297 t301 t302 t306 t307 true) else (if (t292 != t302) = true then (variorumlaw20_BlockLeast.j0 k l0 t291 t292 t296 t297 t301 t302 t306 t307 true) else (if (t292 != t307) = true then (variorumlaw20_BlockLeast.j0 k l0 t291 t292 t296 t297 t301 t302 t306 t307 true) else (variorumlaw20_BlockLeast.j0 k l0 t291 t292 t296 t297 t301 t302 t306 t307 (decide ((l0.length : Int) > 200)))))) = some r := by rw [if_pos rfl] at H; exact H
      clear H
      have H := H1
      clear H1
      by_cases c13 : (t292 != t297) = true
      · rw [if_pos c13] at H
        have c13b0 : (t292 != t297) = true := c13
        (try (have c13b1 : decide (t292 = t297) = false := by simpa using c13))
        (try (have c13b2 : (t292 == t297) = false := by simpa using c13))
        (try (have c13b3 : ¬ (t292 = t297) := by simpa using c13))
        clear c13
        (first | rw [c13b0] | (simp only [i64_w, i32_w]; rw [c13b0]) | skip)
        have H' := Aside0.mk H
        clear H
        go_wp2_with (first | ((with_reducible refine gate_callee (f := 7) rfl ?_); refine goesL_ (some 39) rfl rfl Try.func7 (by kernel_rfl) rfl #[] rfl (by (try simp only [List.map_toArray, List.map_cons, List.map_nil]); first | done | rfl | (simp only [List.length_drop, List.length_take]; rfl) | (simp only [*]; first | done | rfl)) ?_; (with_reducible refine (variorumlaw20_fixed.calls k  true _ A11.out).mono ?_); rintro e w14 ⟨rfl, hb⟩; refine ⟨_, rfl, ?_⟩; have n0_ := Aside0.mk (Kd.R_below (by (with_reducible repeat (first | apply Kd.R_alloc | apply Kd.R_drewN | apply Kd.R_drew)); exact HO294.out) hb); have n1_ := Aside0.mk (Kd.R_below (by (with_reducible repeat (first | apply Kd.R_alloc | apply Kd.R_drewN | apply Kd.R_drew)); exact HO299.out) hb); have n2_ := Aside0.mk (Kd.R_below (by (with_reducible repeat (first | apply Kd.R_alloc | apply Kd.R_drewN | apply Kd.R_drew)); exact HO304.out) hb); have n3_ := Aside0.mk (Kd.R_below (by (with_reducible repeat (first | apply Kd.R_alloc | apply Kd.R_drewN | apply Kd.R_drew)); exact HO309.out) hb); have n4_ := Aside0.mk (below_step (by repeat (first | (with_reducible first | exact HB.out | apply below_alloc | apply pw_below_drewN | apply below_drew1) | exact HB.out)) hb); clear HO294; clear HO299; clear HO304; clear HO309; clear HB; have HO294 := n0_; have HO299 := n1_; have HO304 := n2_; have HO309 := n3_; have HB := n4_; clear n0_ n1_ n2_ n3_ n4_; (try clear hb); (try clear hb2); (try clear hk); (try clear hi)))
        go_meet
        case rel => exact ⟨_, (true), (by first | rfl | (simp; done) | (simp [*]; done)), H', ⟨by first | omega | exact Nat.le_refl _⟩, ⟨by repeat (first | (with_reducible first | exact HB.out | apply below_alloc | apply pw_below_drewN | apply below_drew1) | exact HB.out)⟩⟩
      · rw [if_neg c13] at H
        have c13b0 : (t292 != t297) = false := by simpa using c13
        (try (have c13b1 : decide (t292 = t297) = true := by simpa using c13))
        (try (have c13b2 : (t292 == t297) = true := by simpa using c13))
        clear c13
        (first | rw [c13b0] | (simp only [i64_w, i32_w]; rw [c13b0]) | skip)
        by_cases c15 : (t292 != t302) = true
        · rw [if_pos c15] at H
          have c15b0 : (t292 != t302) = true := c15
          (try (have c15b1 : decide (t292 = t302) = false := by simpa using c15))
          (try (have c15b2 : (t292 == t302) = false := by simpa using c15))
          (try (have c15b3 : ¬ (t292 = t302) := by simpa using c15))
          clear c15
          have H' := Aside0.mk H
          clear H
          go_wp2_with (first | ((with_reducible refine gate_callee (f := 7) rfl ?_); refine goesL_ (some 39) rfl rfl Try.func7 (by kernel_rfl) rfl #[] rfl (by (try simp only [List.map_toArray, List.map_cons, List.map_nil]); first | done | rfl | (simp only [List.length_drop, List.length_take]; rfl) | (simp only [*]; first | done | rfl)) ?_; (with_reducible refine (variorumlaw20_fixed.calls k  true _ A11.out).mono ?_); rintro e w16 ⟨rfl, hb⟩; refine ⟨_, rfl, ?_⟩; have n0_ := Aside0.mk (Kd.R_below (by (with_reducible repeat (first | apply Kd.R_alloc | apply Kd.R_drewN | apply Kd.R_drew)); exact HO294.out) hb); have n1_ := Aside0.mk (Kd.R_below (by (with_reducible repeat (first | apply Kd.R_alloc | apply Kd.R_drewN | apply Kd.R_drew)); exact HO299.out) hb); have n2_ := Aside0.mk (Kd.R_below (by (with_reducible repeat (first | apply Kd.R_alloc | apply Kd.R_drewN | apply Kd.R_drew)); exact HO304.out) hb); have n3_ := Aside0.mk (Kd.R_below (by (with_reducible repeat (first | apply Kd.R_alloc | apply Kd.R_drewN | apply Kd.R_drew)); exact HO309.out) hb); have n4_ := Aside0.mk (below_step (by repeat (first | (with_reducible first | exact HB.out | apply below_alloc | apply pw_below_drewN | apply below_drew1) | exact HB.out)) hb); clear HO294; clear HO299; clear HO304; clear HO309; clear HB; have HO294 := n0_; have HO299 := n1_; have HO304 := n2_; have HO309 := n3_; have HB := n4_; clear n0_ n1_ n2_ n3_ n4_; (try clear hb); (try clear hb2); (try clear hk); (try clear hi)))
          go_meet
          case rel => exact ⟨_, (true), (by first | rfl | (simp; done) | (simp [*]; done)), H', ⟨by first | omega | exact Nat.le_refl _⟩, ⟨by repeat (first | (with_reducible first | exact HB.out | apply below_alloc | apply pw_below_drewN | apply below_drew1) | exact HB.out)⟩⟩
        · rw [if_neg c15] at H
          have c15b0 : (t292 != t302) = false := by simpa using c15
          (try (have c15b1 : decide (t292 = t302) = true := by simpa using c15))
          (try (have c15b2 : (t292 == t302) = true := by simpa using c15))
          clear c15
          by_cases c17 : (t292 != t307) = true
          · rw [if_pos c17] at H
            have c17b0 : (t292 != t307) = true := c17
            (try (have c17b1 : decide (t292 = t307) = false := by simpa using c17))
            (try (have c17b2 : (t292 == t307) = false := by simpa using c17))
            (try (have c17b3 : ¬ (t292 = t307) := by simpa using c17))
            clear c17
            have H' := Aside0.mk H
            clear H
            go_wp2_with (first | ((with_reducible refine gate_callee (f := 7) rfl ?_); refine goesL_ (some 39) rfl rfl Try.func7 (by kernel_rfl) rfl #[] rfl (by (try simp only [List.map_toArray, List.map_cons, List.map_nil]); first | done | rfl | (simp only [List.length_drop, List.length_take]; rfl) | (simp only [*]; first | done | rfl)) ?_; (with_reducible refine (variorumlaw20_fixed.calls k  true _ A11.out).mono ?_); rintro e w18 ⟨rfl, hb⟩; refine ⟨_, rfl, ?_⟩; have n0_ := Aside0.mk (Kd.R_below (by (with_reducible repeat (first | apply Kd.R_alloc | apply Kd.R_drewN | apply Kd.R_drew)); exact HO294.out) hb); have n1_ := Aside0.mk (Kd.R_below (by (with_reducible repeat (first | apply Kd.R_alloc | apply Kd.R_drewN | apply Kd.R_drew)); exact HO299.out) hb); have n2_ := Aside0.mk (Kd.R_below (by (with_reducible repeat (first | apply Kd.R_alloc | apply Kd.R_drewN | apply Kd.R_drew)); exact HO304.out) hb); have n3_ := Aside0.mk (Kd.R_below (by (with_reducible repeat (first | apply Kd.R_alloc | apply Kd.R_drewN | apply Kd.R_drew)); exact HO309.out) hb); have n4_ := Aside0.mk (below_step (by repeat (first | (with_reducible first | exact HB.out | apply below_alloc | apply pw_below_drewN | apply below_drew1) | exact HB.out)) hb); clear HO294; clear HO299; clear HO304; clear HO309; clear HB; have HO294 := n0_; have HO299 := n1_; have HO304 := n2_; have HO309 := n3_; have HB := n4_; clear n0_ n1_ n2_ n3_ n4_; (try clear hb); (try clear hb2); (try clear hk); (try clear hi)))
            go_meet
            case rel => exact ⟨_, (true), (by first | rfl | (simp; done) | (simp [*]; done)), H', ⟨by first | omega | exact Nat.le_refl _⟩, ⟨by repeat (first | (with_reducible first | exact HB.out | apply below_alloc | apply pw_below_drewN | apply below_drew1) | exact HB.out)⟩⟩
          · rw [if_neg c17] at H
            have c17b0 : (t292 != t307) = false := by simpa using c17
            (try (have c17b1 : decide (t292 = t307) = true := by simpa using c17))
            (try (have c17b2 : (t292 == t307) = true := by simpa using c17))
            clear c17
            have H' := Aside0.mk H
            clear H
            go_wp2_with (first | ((with_reducible refine gate_callee (f := 7) rfl ?_); refine goesL_ (some 39) rfl rfl Try.func7 (by kernel_rfl) rfl #[] rfl (by (try simp only [List.map_toArray, List.map_cons, List.map_nil]); first | done | rfl | (simp only [List.length_drop, List.length_take]; rfl) | (simp only [*]; first | done | rfl)) ?_; (with_reducible refine (variorumlaw20_fixed.calls k  true _ A11.out).mono ?_); rintro e w19 ⟨rfl, hb⟩; refine ⟨_, rfl, ?_⟩; have n0_ := Aside0.mk (Kd.R_below (by (with_reducible repeat (first | apply Kd.R_alloc | apply Kd.R_drewN | apply Kd.R_drew)); exact HO294.out) hb); have n1_ := Aside0.mk (Kd.R_below (by (with_reducible repeat (first | apply Kd.R_alloc | apply Kd.R_drewN | apply Kd.R_drew)); exact HO299.out) hb); have n2_ := Aside0.mk (Kd.R_below (by (with_reducible repeat (first | apply Kd.R_alloc | apply Kd.R_drewN | apply Kd.R_drew)); exact HO304.out) hb); have n3_ := Aside0.mk (Kd.R_below (by (with_reducible repeat (first | apply Kd.R_alloc | apply Kd.R_drewN | apply Kd.R_drew)); exact HO309.out) hb); have n4_ := Aside0.mk (below_step (by repeat (first | (with_reducible first | exact HB.out | apply below_alloc | apply pw_below_drewN | apply below_drew1) | exact HB.out)) hb); clear HO294; clear HO299; clear HO304; clear HO309; clear HB; have HO294 := n0_; have HO299 := n1_; have HO304 := n2_; have HO309 := n3_; have HB := n4_; clear n0_ n1_ n2_ n3_ n4_; (try clear hb); (try clear hb2); (try clear hk); (try clear hi)))
            go_meet
            case rel => exact ⟨_, (decide ((l0.length : Int) > 200)), (by first | rfl | (simp; done) | (simp [*]; done)), H', ⟨by first | omega | exact Nat.le_refl _⟩, ⟨by repeat (first | (with_reducible first | exact HB.out | apply below_alloc | apply pw_below_drewN | apply below_drew1) | exact HB.out)⟩⟩
    · replace c12 := Bool.eq_false_iff.mpr c12
      subst c12
      have H1 : (variorumlaw20_BlockLeast.j0 k l0 t291 t292 t296 t297 t301 t302 t306 t307 true) = some r := by rw [if_neg (show ¬ (false = true) by decide)] at H; exact H
      clear H
      have H := H1
      clear H1
      have H' := Aside0.mk H
      clear H
      go_wp2_with (first | ((with_reducible refine gate_callee (f := 7) rfl ?_); refine goesL_ (some 39) rfl rfl Try.func7 (by kernel_rfl) rfl #[] rfl (by (try simp only [List.map_toArray, List.map_cons, List.map_nil]); first | done | rfl | (simp only [List.length_drop, List.length_take]; rfl) | (simp only [*]; first | done | rfl)) ?_; (with_reducible refine (variorumlaw20_fixed.calls k  false _ A11.out).mono ?_); rintro e w20 ⟨rfl, hb⟩; refine ⟨_, rfl, ?_⟩; have n0_ := Aside0.mk (Kd.R_below (by (with_reducible repeat (first | apply Kd.R_alloc | apply Kd.R_drewN | apply Kd.R_drew)); exact HO294.out) hb); have n1_ := Aside0.mk (Kd.R_below (by (with_reducible repeat (first | apply Kd.R_alloc | apply Kd.R_drewN | apply Kd.R_drew)); exact HO299.out) hb); have n2_ := Aside0.mk (Kd.R_below (by (with_reducible repeat (first | apply Kd.R_alloc | apply Kd.R_drewN | apply Kd.R_drew)); exact HO304.out) hb); have n3_ := Aside0.mk (Kd.R_below (by (with_reducible repeat (first | apply Kd.R_alloc | apply Kd.R_drewN | apply Kd.R_drew)); exact HO309.out) hb); have n4_ := Aside0.mk (below_step (by repeat (first | (with_reducible first | exact HB.out | apply below_alloc | apply pw_below_drewN | apply below_drew1) | exact HB.out)) hb); clear HO294; clear HO299; clear HO304; clear HO309; clear HB; have HO294 := n0_; have HO299 := n1_; have HO304 := n2_; have HO309 := n3_; have HB := n4_; clear n0_ n1_ n2_ n3_ n4_; (try clear hb); (try clear hb2); (try clear hk); (try clear hi)))
      go_meet
      case rel => exact ⟨_, (true), (by first | rfl | (simp; done) | (simp [*]; done)), H', ⟨by first | omega | exact Nat.le_refl _⟩, ⟨by repeat (first | (with_reducible first | exact HB.out | apply below_alloc | apply pw_below_drewN | apply below_drew1) | exact HB.out)⟩⟩
  case rest =>
    clear HC6
    try clear c1
    try clear p2
    try clear c5
    try clear c7
    try clear c8
    try clear c12
    try clear c13
    try clear c13b0
    try clear c13b1
    try clear c13b2
    try clear c15
    try clear c15b0
    try clear c15b1
    try clear c15b2
    try clear c17
    try clear c17b0
    try clear c17b1
    try clear c17b2
    obtain ⟨kq, x60_5, rfl, HA, HJ5, HB⟩ := hcut
    cases kq with
    | zero => exact absurd HA.out (by simp [variorumlaw20_BlockLeast.j0])
    | succ kj5 =>
      have H := HA.out
      clear HA
      simp only [variorumlaw20_BlockLeast.j0] at H
      by_cases c21 : x60_5 = true
      · subst c21
        have H1 : ((variorumlaw20_fixed.f kj5).bind fun t311 => (if t311 = true then (if (t292 == t297) = true then (if (t292 == t302) = true then (some (t292 == t307)) else (none)) else (none)) else (none))) = some r := by rw [if_pos rfl] at H; exact H
        clear H
        have H := H1
        clear H1
        replace H := Option.bind_eq_some_iff.mp H
        obtain ⟨t311, A220, H⟩ := H
        replace H : (if t311 = true then (if (t292 == t297) = true then (if (t292 == t302) = true then (some (t292 == t307)) else (none)) else (none)) else (none)) = some r := H
        have A22 := Aside0.mk A220
        clear A220
        by_cases c23 : t311 = true
        · subst c23
          have H1 : (if (t292 == t297) = true then (if (t292 == t302) = true then (some (t292 == t307)) else (none)) else (none)) = some r := by rw [if_pos rfl] at H; exact H
          clear H
          have H := H1
          clear H1
          by_cases c24 : (t292 == t297) = true
          · rw [if_pos c24] at H
            have c24b0 : (t292 == t297) = true := c24
            (try (have c24b1 : decide (t292 = t297) = true := by simpa using c24))
            (try (have c24b2 : (t292 == t297) = true := by simpa using c24))
            clear c24
            by_cases c25 : (t292 == t302) = true
            · rw [if_pos c25] at H
              have c25b0 : (t292 == t302) = true := c25
              (try (have c25b1 : decide (t292 = t302) = true := by simpa using c25))
              (try (have c25b2 : (t292 == t302) = true := by simpa using c25))
              clear c25
              obtain rfl := Option.some.inj H
              go_wp2_with (first | ((with_reducible refine gate_callee (f := 7) rfl ?_); refine goesL_ (some 61) rfl rfl Try.func7 (by kernel_rfl) rfl #[] rfl (by (try simp only [List.map_toArray, List.map_cons, List.map_nil]); first | done | rfl | (simp only [List.length_drop, List.length_take]; rfl) | (simp only [*]; first | done | rfl)) ?_; (with_reducible refine (variorumlaw20_fixed.calls kj5  true _ A22.out).mono ?_); rintro e w26 ⟨rfl, hb⟩; refine ⟨_, rfl, ?_⟩; have n0_ := Aside0.mk (below_step (by repeat (first | (with_reducible first | exact HB.out | apply below_alloc | apply pw_below_drewN | apply below_drew1) | exact HB.out)) hb); clear HB; have HB := n0_; clear n0_; (try clear hb); (try clear hb2); (try clear hk); (try clear hi)))
              go_ret
              exact ⟨by first | rfl | (simp [errW_none, errW_some] <;> rfl) | (simp [*, errW_none, errW_some] <;> rfl), by repeat (first | (with_reducible first | exact HB.out | apply below_alloc | apply pw_below_drewN | apply below_drew1) | exact HB.out)⟩
            · rw [if_neg c25] at H
              exact absurd H (by simp)
          · rw [if_neg c24] at H
            exact absurd H (by simp)
        · replace c23 := Bool.eq_false_iff.mpr c23
          subst c23
          have H1 : (none) = some r := by rw [if_neg (show ¬ (false = true) by decide)] at H; exact H
          clear H
          have H := H1
          clear H1
          exact absurd H (by simp)
      · replace c21 := Bool.eq_false_iff.mpr c21
        subst c21
        have H1 : (if t292 = true then ((variorumref19_Sum.f kj5 l0).bind fun t312 => (if t291 = t312 then (if t296 = t291 then (if t301 ≤ t291 then (if t306 ≤ t301 then (if (wrap64 (3 * t306)) ≥ t291 then (some (decide ((wrap64 (2 * t301)) ≥ t291))) else (none)) else (none)) else (none)) else (none)) else (none))) else (some true)) = some r := by rw [if_neg (show ¬ (false = true) by decide)] at H; exact H
        clear H
        have H := H1
        clear H1
        by_cases c27 : t292 = true
        · subst c27
          have H1 : ((variorumref19_Sum.f kj5 l0).bind fun t312 => (if t291 = t312 then (if t296 = t291 then (if t301 ≤ t291 then (if t306 ≤ t301 then (if (wrap64 (3 * t306)) ≥ t291 then (some (decide ((wrap64 (2 * t301)) ≥ t291))) else (none)) else (none)) else (none)) else (none)) else (none))) = some r := by rw [if_pos rfl] at H; exact H
          clear H
          have H := H1
          clear H1
          replace H := Option.bind_eq_some_iff.mp H
          obtain ⟨t312, A280, H⟩ := H
          replace H : (if t291 = t312 then (if t296 = t291 then (if t301 ≤ t291 then (if t306 ≤ t301 then (if (wrap64 (3 * t306)) ≥ t291 then (some (decide ((wrap64 (2 * t301)) ≥ t291))) else (none)) else (none)) else (none)) else (none)) else (none)) = some r := H
          have A28 := Aside0.mk A280
          clear A280
          by_cases c29 : t291 = t312
          · rw [if_pos c29] at H
            have c29b0 : (t291 == t312) = true := beq_iff_eq.mpr c29
            have c29b1 : (t291 != t312) = false := bne_eq_false_iff_eq.mpr c29
            clear c29
            by_cases c30 : t296 = t291
            · rw [if_pos c30] at H
              have c30b0 : (t296 == t291) = true := beq_iff_eq.mpr c30
              have c30b1 : (t296 != t291) = false := bne_eq_false_iff_eq.mpr c30
              clear c30
              by_cases c31 : t301 ≤ t291
              · rw [if_pos c31] at H
                have c31b0 : decide (t301 ≤ t291) = true := decide_eq_true c31
                clear c31
                by_cases c32 : t306 ≤ t301
                · rw [if_pos c32] at H
                  have c32b0 : decide (t306 ≤ t301) = true := decide_eq_true c32
                  clear c32
                  by_cases c33 : (wrap64 (3 * t306)) ≥ t291
                  · rw [if_pos c33] at H
                    have c33b0 : decide (t291 ≤ (wrap64 (3 * t306))) = true := decide_eq_true c33
                    clear c33
                    obtain rfl := Option.some.inj H
                    go_wp2_with (first | (go_at_call 15; (with_reducible refine (variorumref19_Sum.calls kj5 _ _ l0 t312 _ ?side1 ?side2 A28.out).mono ?_); (case side1 => repeat (first | exact (Kd.C_below HR0.out HB.out) | (with_reducible refine Kd.C_alloc ?_ _) | (with_reducible refine Kd.C_drewN ?_ _) | (with_reducible refine Kd.C_drew ?_))); (case side2 => exact HC0.out); rintro e w' ⟨rfl, ⟨nd, rfl⟩⟩))
                    go_ret
                    exact ⟨by first | rfl | (simp [errW_none, errW_some] <;> rfl) | (simp [*, errW_none, errW_some] <;> rfl), by repeat (first | (with_reducible first | exact HB.out | apply below_alloc | apply pw_below_drewN | apply below_drew1) | exact HB.out)⟩
                  · rw [if_neg c33] at H
                    exact absurd H (by simp)
                · rw [if_neg c32] at H
                  exact absurd H (by simp)
              · rw [if_neg c31] at H
                exact absurd H (by simp)
            · rw [if_neg c30] at H
              exact absurd H (by simp)
          · rw [if_neg c29] at H
            exact absurd H (by simp)
        · replace c27 := Bool.eq_false_iff.mpr c27
          subst c27
          have H1 : (some true) = some r := by rw [if_neg (show ¬ (false = true) by decide)] at H; exact H
          clear H
          have H := H1
          clear H1
          obtain rfl := Option.some.inj H
          go_wp2
          go_ret
          exact ⟨by first | rfl | (simp [errW_none, errW_some] <;> rfl) | (simp [*, errW_none, errW_some] <;> rfl), by repeat (first | (with_reducible first | exact HB.out | apply below_alloc | apply pw_below_drewN | apply below_drew1) | exact HB.out)⟩

/-- The one statement about numbers and lists that is left of the law. -/
def variorumlaw20_BlockLeast.Pure : Prop := ∀ (x0 : List Int), (x0.length * 8 ≤ 140737488351232 ∧ ∀ y0 ∈ x0, (Lit.int .i64 y0).wf = true) → ∃ k, variorumlaw20_BlockLeast.f k x0 = some true

/-! ### variorumlaw20_BlockRows: function 6 -/
mutual
def variorumlaw20_BlockRows.j0 : Nat → Int → Int → Int → Int → Bool → Option (Bool)
  | 0, _, _, _, _, _ => none
  | k + 1, x0, x1, x2, x7, x36 => if x36 = true then ((variorumlaw20_fixed.f k).bind fun t315 => (some t315)) else (variorumlaw20_BlockRows.l0 k x0 x1 x2 x7 (([] : List Int)) 0)
def variorumlaw20_BlockRows.l0 : Nat → Int → Int → Int → Int → List Int → Int → Option (Bool)
  | 0, _, _, _, _, _, _ => none
  | k + 1, x0, x1, x2, x7, x8, x9 => if x9 < x1 then (if x8.length < 17592186044416 then (variorumlaw20_BlockRows.l0 k x0 x1 x2 x7 (x8 ++ [x2]) (wrap64 (x9 + 1))) else (none)) else ((block_Place.f k x0 x8).bind fun bt322 => (if bt322.2.2 = true then (if x7 = 0 then (none) else (some (bt322.2.1 == (wrap64 (x2 * (wrap64 (Int.tdiv (wrap64 ((wrap64 (x1 + x7)) - 1)) x7))))))) else (none)))
end
def variorumlaw20_BlockRows.f (k : Nat) (a0 : Int) (a1 : Int) (a2 : Int) : Option (Bool) := (block_Columns.f a0).bind fun t313 => ((variorumlaw20_fixed.f k).bind fun t314 => (if t314 = true then (if t313 = 0 then (variorumlaw20_BlockRows.j0 k a0 a1 a2 t313 true) else (if a1 < 0 then (variorumlaw20_BlockRows.j0 k a0 a1 a2 t313 true) else (if a1 > 200 then (variorumlaw20_BlockRows.j0 k a0 a1 a2 t313 true) else (if a2 < 0 then (variorumlaw20_BlockRows.j0 k a0 a1 a2 t313 true) else (variorumlaw20_BlockRows.j0 k a0 a1 a2 t313 (decide (a2 > 1000000))))))) else (variorumlaw20_BlockRows.j0 k a0 a1 a2 t313 true)))
theorem variorumlaw20_BlockRows.mono_l : ∀ k, (∀ y0 y1 y2 y3 y4, LeO (variorumlaw20_BlockRows.j0 k y0 y1 y2 y3 y4) (variorumlaw20_BlockRows.j0 (k + 1) y0 y1 y2 y3 y4)) ∧ (∀ y0 y1 y2 y3 y4 y5, LeO (variorumlaw20_BlockRows.l0 k y0 y1 y2 y3 y4 y5) (variorumlaw20_BlockRows.l0 (k + 1) y0 y1 y2 y3 y4 y5))
  | 0 => ⟨fun _ _ _ _ _ r h => by simp [variorumlaw20_BlockRows.j0] at h, fun _ _ _ _ _ _ r h => by simp [variorumlaw20_BlockRows.l0] at h⟩
  | k + 1 => by
    obtain ⟨ih0, ih1⟩ := variorumlaw20_BlockRows.mono_l k
    refine ⟨?_, ?_⟩
    · intro y0 y1 y2 y3 y4
      unfold variorumlaw20_BlockRows.j0
      repeat' first
      | (with_reducible exact ih0 _ _ _ _ _)
      | (with_reducible exact ih1 _ _ _ _ _ _)
      | (with_reducible exact block_Place.mono _ _ _)
      | (with_reducible exact variorumlaw20_fixed.mono _)
      | (with_reducible exact LeO.refl _)
      | (with_reducible exact LeO.none _)
      | (with_reducible refine LeO.ite ?_ ?_)
      | (with_reducible refine LeO.bind ?_ (fun _ => ?_))
      | exact ih0 _ _ _ _ _
      | exact ih1 _ _ _ _ _ _
      | exact block_Place.mono _ _ _
      | exact variorumlaw20_fixed.mono _
      | exact LeO.none _
      | refine LeO.ite ?_ ?_
      | refine LeO.bind ?_ (fun _ => ?_)
    · intro y0 y1 y2 y3 y4 y5
      unfold variorumlaw20_BlockRows.l0
      repeat' first
      | (with_reducible exact ih0 _ _ _ _ _)
      | (with_reducible exact ih1 _ _ _ _ _ _)
      | (with_reducible exact block_Place.mono _ _ _)
      | (with_reducible exact variorumlaw20_fixed.mono _)
      | (with_reducible exact LeO.refl _)
      | (with_reducible exact LeO.none _)
      | (with_reducible refine LeO.ite ?_ ?_)
      | (with_reducible refine LeO.bind ?_ (fun _ => ?_))
      | exact ih0 _ _ _ _ _
      | exact ih1 _ _ _ _ _ _
      | exact block_Place.mono _ _ _
      | exact variorumlaw20_fixed.mono _
      | exact LeO.none _
      | refine LeO.ite ?_ ?_
      | refine LeO.bind ?_ (fun _ => ?_)
theorem variorumlaw20_BlockRows.mono : ∀ a0 a1 a2 k, LeO (variorumlaw20_BlockRows.f k a0 a1 a2) (variorumlaw20_BlockRows.f (k + 1) a0 a1 a2) := by
  intro a0 a1 a2 k
  obtain ⟨ih0, ih1⟩ := variorumlaw20_BlockRows.mono_l k
  unfold variorumlaw20_BlockRows.f
  repeat' first
      | (with_reducible exact ih0 _ _ _ _ _)
      | (with_reducible exact ih1 _ _ _ _ _ _)
      | (with_reducible exact block_Place.mono _ _ _)
      | (with_reducible exact variorumlaw20_fixed.mono _)
      | (with_reducible exact LeO.refl _)
      | (with_reducible exact LeO.none _)
      | (with_reducible refine LeO.ite ?_ ?_)
      | (with_reducible refine LeO.bind ?_ (fun _ => ?_))
      | exact ih0 _ _ _ _ _
      | exact ih1 _ _ _ _ _ _
      | exact block_Place.mono _ _ _
      | exact variorumlaw20_fixed.mono _
      | exact LeO.none _
      | refine LeO.ite ?_ ?_
      | refine LeO.bind ?_ (fun _ => ?_)
set_option maxHeartbeats 8000000 in
set_option maxRecDepth 100000 in
theorem variorumlaw20_BlockRows.calls (k : Nat) (a0 : Int) (a1 : Int) (a2 : Int) (r : Bool) (w : World) (h : variorumlaw20_BlockRows.f k a0 a1 a2 = some r) :
    Calls Try.prog 6 #[.int .i64 a0, .int .i64 a1, .int .i64 a2] w fun e w' => e = .returned (.bool r) ∧ Below w.heap.size w w' := by
  have HB := Aside0.mk (Below.refl w.heap.size w)
  have H : ((block_Columns.f a0).bind fun t313 => ((variorumlaw20_fixed.f k).bind fun t314 => (if t314 = true then (if t313 = 0 then (variorumlaw20_BlockRows.j0 k a0 a1 a2 t313 true) else (if a1 < 0 then (variorumlaw20_BlockRows.j0 k a0 a1 a2 t313 true) else (if a1 > 200 then (variorumlaw20_BlockRows.j0 k a0 a1 a2 t313 true) else (if a2 < 0 then (variorumlaw20_BlockRows.j0 k a0 a1 a2 t313 true) else (variorumlaw20_BlockRows.j0 k a0 a1 a2 t313 (decide (a2 > 1000000))))))) else (variorumlaw20_BlockRows.j0 k a0 a1 a2 t313 true)))) = some r := h
  clear h
  replace H := Option.bind_eq_some_iff.mp H
  obtain ⟨t313, A40, H⟩ := H
  replace H : ((variorumlaw20_fixed.f k).bind fun t314 => (if t314 = true then (if t313 = 0 then (variorumlaw20_BlockRows.j0 k a0 a1 a2 t313 true) else (if a1 < 0 then (variorumlaw20_BlockRows.j0 k a0 a1 a2 t313 true) else (if a1 > 200 then (variorumlaw20_BlockRows.j0 k a0 a1 a2 t313 true) else (if a2 < 0 then (variorumlaw20_BlockRows.j0 k a0 a1 a2 t313 true) else (variorumlaw20_BlockRows.j0 k a0 a1 a2 t313 (decide (a2 > 1000000))))))) else (variorumlaw20_BlockRows.j0 k a0 a1 a2 t313 true))) = some r := H
  have A4 := Aside0.mk A40
  clear A40
  have HC5 := Aside0.mk H
  clear H
  go_enter Try.func6, Try.ntmps6
  go_upto_region 2 with (first | ((with_reducible refine gate_callee (f := 11) rfl ?_); refine goesL_ (some 14) rfl rfl Try.func11 (by kernel_rfl) rfl #[.int .i64 a0] rfl (by (try simp only [List.map_toArray, List.map_cons, List.map_nil]); first | done | rfl | (simp only [List.length_drop, List.length_take]; rfl) | (simp only [*]; first | done | rfl)) ?_; (with_reducible refine (block_Columns.calls a0 t313 _ A4.out).mono ?_); rintro e w' ⟨rfl, ⟨nd, rfl⟩⟩; refine ⟨_, rfl, ?_⟩))
  (try simp only [Act.put, List.setIfInBounds_toArray, List.set_cons_zero, List.set_cons_succ])
  go_cut [36] (fun v36 wc => ∃ (kq : Nat) (x36_4 : Bool), v36 = .bool x36_4 ∧ Aside0 (variorumlaw20_BlockRows.j0 kq a0 a1 a2 t313 x36_4 = some r) ∧ Aside0 (kq ≤ k) ∧ Aside0 (Below w.heap.size w wc))
  case first =>
    have H := HC5.out
    clear HC5
    replace H := Option.bind_eq_some_iff.mp H
    obtain ⟨t314, A60, H⟩ := H
    replace H : (if t314 = true then (if t313 = 0 then (variorumlaw20_BlockRows.j0 k a0 a1 a2 t313 true) else (if a1 < 0 then (variorumlaw20_BlockRows.j0 k a0 a1 a2 t313 true) else (if a1 > 200 then (variorumlaw20_BlockRows.j0 k a0 a1 a2 t313 true) else (if a2 < 0 then (variorumlaw20_BlockRows.j0 k a0 a1 a2 t313 true) else (variorumlaw20_BlockRows.j0 k a0 a1 a2 t313 (decide (a2 > 1000000))))))) else (variorumlaw20_BlockRows.j0 k a0 a1 a2 t313 true)) = some r := H
    have A6 := Aside0.mk A60
    clear A60
    by_cases c7 : t314 = true
    · subst c7
      have H1 : (if t313 = 0 then (variorumlaw20_BlockRows.j0 k a0 a1 a2 t313 true) else (if a1 < 0 then (variorumlaw20_BlockRows.j0 k a0 a1 a2 t313 true) else (if a1 > 200 then (variorumlaw20_BlockRows.j0 k a0 a1 a2 t313 true) else (if a2 < 0 then (variorumlaw20_BlockRows.j0 k a0 a1 a2 t313 true) else (variorumlaw20_BlockRows.j0 k a0 a1 a2 t313 (decide (a2 > 1000000))))))) = some r := by rw [if_pos rfl] at H; exact H
      clear H
      have H := H1
      clear H1
      by_cases c8 : t313 = 0
      · rw [if_pos c8] at H
        have c8b0 : (t313 == 0) = true := beq_iff_eq.mpr c8
        have c8b1 : (t313 != 0) = false := bne_eq_false_iff_eq.mpr c8
        clear c8
        (first | rw [c8b0] | (simp only [i64_w, i32_w]; rw [c8b0]) | skip)
        have H' := Aside0.mk H
        clear H
        go_wp2_with (first | ((with_reducible refine gate_callee (f := 7) rfl ?_); refine goesL_ (some 15) rfl rfl Try.func7 (by kernel_rfl) rfl #[] rfl (by (try simp only [List.map_toArray, List.map_cons, List.map_nil]); first | done | rfl | (simp only [List.length_drop, List.length_take]; rfl) | (simp only [*]; first | done | rfl)) ?_; (with_reducible refine (variorumlaw20_fixed.calls k  true _ A6.out).mono ?_); rintro e w9 ⟨rfl, hb⟩; refine ⟨_, rfl, ?_⟩; have n0_ := Aside0.mk (below_step (by repeat (first | (with_reducible first | exact HB.out | apply below_alloc | apply pw_below_drewN | apply below_drew1) | exact HB.out)) hb); clear HB; have HB := n0_; clear n0_; (try clear hb); (try clear hb2); (try clear hk); (try clear hi)))
        go_meet
        case rel => exact ⟨_, (true), (by first | rfl | (simp; done) | (simp [*]; done)), H', ⟨by first | omega | exact Nat.le_refl _⟩, ⟨by repeat (first | (with_reducible first | exact HB.out | apply below_alloc | apply pw_below_drewN | apply below_drew1) | exact HB.out)⟩⟩
      · rw [if_neg c8] at H
        have c8b0 : (t313 == 0) = false := beq_eq_false_iff_ne.mpr c8
        have c8b1 : (t313 != 0) = true := bne_iff_ne.mpr c8
        (first | rw [c8b0] | (simp only [i64_w, i32_w]; rw [c8b0]) | skip)
        by_cases c10 : a1 < 0
        · rw [if_pos c10] at H
          have c10b0 : decide (a1 < 0) = true := decide_eq_true c10
          clear c10
          have H' := Aside0.mk H
          clear H
          go_wp2_with (first | ((with_reducible refine gate_callee (f := 7) rfl ?_); refine goesL_ (some 15) rfl rfl Try.func7 (by kernel_rfl) rfl #[] rfl (by (try simp only [List.map_toArray, List.map_cons, List.map_nil]); first | done | rfl | (simp only [List.length_drop, List.length_take]; rfl) | (simp only [*]; first | done | rfl)) ?_; (with_reducible refine (variorumlaw20_fixed.calls k  true _ A6.out).mono ?_); rintro e w11 ⟨rfl, hb⟩; refine ⟨_, rfl, ?_⟩; have n0_ := Aside0.mk (below_step (by repeat (first | (with_reducible first | exact HB.out | apply below_alloc | apply pw_below_drewN | apply below_drew1) | exact HB.out)) hb); clear HB; have HB := n0_; clear n0_; (try clear hb); (try clear hb2); (try clear hk); (try clear hi)))
          go_meet
          case rel => exact ⟨_, (true), (by first | rfl | (simp; done) | (simp [*]; done)), H', ⟨by first | omega | exact Nat.le_refl _⟩, ⟨by repeat (first | (with_reducible first | exact HB.out | apply below_alloc | apply pw_below_drewN | apply below_drew1) | exact HB.out)⟩⟩
        · rw [if_neg c10] at H
          have c10b0 : decide (a1 < 0) = false := decide_eq_false c10
          clear c10
          by_cases c12 : a1 > 200
          · rw [if_pos c12] at H
            have c12b0 : decide (200 < a1) = true := decide_eq_true c12
            clear c12
            have H' := Aside0.mk H
            clear H
            go_wp2_with (first | ((with_reducible refine gate_callee (f := 7) rfl ?_); refine goesL_ (some 15) rfl rfl Try.func7 (by kernel_rfl) rfl #[] rfl (by (try simp only [List.map_toArray, List.map_cons, List.map_nil]); first | done | rfl | (simp only [List.length_drop, List.length_take]; rfl) | (simp only [*]; first | done | rfl)) ?_; (with_reducible refine (variorumlaw20_fixed.calls k  true _ A6.out).mono ?_); rintro e w13 ⟨rfl, hb⟩; refine ⟨_, rfl, ?_⟩; have n0_ := Aside0.mk (below_step (by repeat (first | (with_reducible first | exact HB.out | apply below_alloc | apply pw_below_drewN | apply below_drew1) | exact HB.out)) hb); clear HB; have HB := n0_; clear n0_; (try clear hb); (try clear hb2); (try clear hk); (try clear hi)))
            go_meet
            case rel => exact ⟨_, (true), (by first | rfl | (simp; done) | (simp [*]; done)), H', ⟨by first | omega | exact Nat.le_refl _⟩, ⟨by repeat (first | (with_reducible first | exact HB.out | apply below_alloc | apply pw_below_drewN | apply below_drew1) | exact HB.out)⟩⟩
          · rw [if_neg c12] at H
            have c12b0 : decide (200 < a1) = false := decide_eq_false c12
            clear c12
            by_cases c14 : a2 < 0
            · rw [if_pos c14] at H
              have c14b0 : decide (a2 < 0) = true := decide_eq_true c14
              clear c14
              have H' := Aside0.mk H
              clear H
              go_wp2_with (first | ((with_reducible refine gate_callee (f := 7) rfl ?_); refine goesL_ (some 15) rfl rfl Try.func7 (by kernel_rfl) rfl #[] rfl (by (try simp only [List.map_toArray, List.map_cons, List.map_nil]); first | done | rfl | (simp only [List.length_drop, List.length_take]; rfl) | (simp only [*]; first | done | rfl)) ?_; (with_reducible refine (variorumlaw20_fixed.calls k  true _ A6.out).mono ?_); rintro e w15 ⟨rfl, hb⟩; refine ⟨_, rfl, ?_⟩; have n0_ := Aside0.mk (below_step (by repeat (first | (with_reducible first | exact HB.out | apply below_alloc | apply pw_below_drewN | apply below_drew1) | exact HB.out)) hb); clear HB; have HB := n0_; clear n0_; (try clear hb); (try clear hb2); (try clear hk); (try clear hi)))
              go_meet
              case rel => exact ⟨_, (true), (by first | rfl | (simp; done) | (simp [*]; done)), H', ⟨by first | omega | exact Nat.le_refl _⟩, ⟨by repeat (first | (with_reducible first | exact HB.out | apply below_alloc | apply pw_below_drewN | apply below_drew1) | exact HB.out)⟩⟩
            · rw [if_neg c14] at H
              have c14b0 : decide (a2 < 0) = false := decide_eq_false c14
              clear c14
              have H' := Aside0.mk H
              clear H
              go_wp2_with (first | ((with_reducible refine gate_callee (f := 7) rfl ?_); refine goesL_ (some 15) rfl rfl Try.func7 (by kernel_rfl) rfl #[] rfl (by (try simp only [List.map_toArray, List.map_cons, List.map_nil]); first | done | rfl | (simp only [List.length_drop, List.length_take]; rfl) | (simp only [*]; first | done | rfl)) ?_; (with_reducible refine (variorumlaw20_fixed.calls k  true _ A6.out).mono ?_); rintro e w16 ⟨rfl, hb⟩; refine ⟨_, rfl, ?_⟩; have n0_ := Aside0.mk (below_step (by repeat (first | (with_reducible first | exact HB.out | apply below_alloc | apply pw_below_drewN | apply below_drew1) | exact HB.out)) hb); clear HB; have HB := n0_; clear n0_; (try clear hb); (try clear hb2); (try clear hk); (try clear hi)))
              go_meet
              case rel => exact ⟨_, (decide (a2 > 1000000)), (by first | rfl | (simp; done) | (simp [*]; done)), H', ⟨by first | omega | exact Nat.le_refl _⟩, ⟨by repeat (first | (with_reducible first | exact HB.out | apply below_alloc | apply pw_below_drewN | apply below_drew1) | exact HB.out)⟩⟩
    · replace c7 := Bool.eq_false_iff.mpr c7
      subst c7
      have H1 : (variorumlaw20_BlockRows.j0 k a0 a1 a2 t313 true) = some r := by rw [if_neg (show ¬ (false = true) by decide)] at H; exact H
      clear H
      have H := H1
      clear H1
      have H' := Aside0.mk H
      clear H
      go_wp2_with (first | ((with_reducible refine gate_callee (f := 7) rfl ?_); refine goesL_ (some 15) rfl rfl Try.func7 (by kernel_rfl) rfl #[] rfl (by (try simp only [List.map_toArray, List.map_cons, List.map_nil]); first | done | rfl | (simp only [List.length_drop, List.length_take]; rfl) | (simp only [*]; first | done | rfl)) ?_; (with_reducible refine (variorumlaw20_fixed.calls k  false _ A6.out).mono ?_); rintro e w17 ⟨rfl, hb⟩; refine ⟨_, rfl, ?_⟩; have n0_ := Aside0.mk (below_step (by repeat (first | (with_reducible first | exact HB.out | apply below_alloc | apply pw_below_drewN | apply below_drew1) | exact HB.out)) hb); clear HB; have HB := n0_; clear n0_; (try clear hb); (try clear hb2); (try clear hk); (try clear hi)))
      go_meet
      case rel => exact ⟨_, (true), (by first | rfl | (simp; done) | (simp [*]; done)), H', ⟨by first | omega | exact Nat.le_refl _⟩, ⟨by repeat (first | (with_reducible first | exact HB.out | apply below_alloc | apply pw_below_drewN | apply below_drew1) | exact HB.out)⟩⟩
  case rest =>
    clear HC5
    try clear c1
    try clear p2
    try clear c6
    try clear c7
    try clear c8
    try clear c8b0
    try clear c8b1
    try clear c10
    try clear c10b0
    try clear c11
    try clear c12
    try clear c12b0
    try clear c14
    try clear c14b0
    obtain ⟨kq, x36_4, rfl, HA, HJ4, HB⟩ := hcut
    cases kq with
    | zero => exact absurd HA.out (by simp [variorumlaw20_BlockRows.j0])
    | succ kj4 =>
      have H := HA.out
      clear HA
      simp only [variorumlaw20_BlockRows.j0] at H
      by_cases c18 : x36_4 = true
      · subst c18
        have H1 : ((variorumlaw20_fixed.f kj4).bind fun t315 => (some t315)) = some r := by rw [if_pos rfl] at H; exact H
        clear H
        have H := H1
        clear H1
        replace H := Option.bind_eq_some_iff.mp H
        obtain ⟨t315, A190, H⟩ := H
        replace H : (some t315) = some r := H
        have A19 := Aside0.mk A190
        clear A190
        obtain rfl := Option.some.inj H
        go_wp2_with (first | ((with_reducible refine gate_callee (f := 7) rfl ?_); refine goesL_ (some 37) rfl rfl Try.func7 (by kernel_rfl) rfl #[] rfl (by (try simp only [List.map_toArray, List.map_cons, List.map_nil]); first | done | rfl | (simp only [List.length_drop, List.length_take]; rfl) | (simp only [*]; first | done | rfl)) ?_; (with_reducible refine (variorumlaw20_fixed.calls kj4  t315 _ A19.out).mono ?_); rintro e w20 ⟨rfl, hb⟩; refine ⟨_, rfl, ?_⟩; have n0_ := Aside0.mk (below_step (by repeat (first | (with_reducible first | exact HB.out | apply below_alloc | apply pw_below_drewN | apply below_drew1) | exact HB.out)) hb); clear HB; have HB := n0_; clear n0_; (try clear hb); (try clear hb2); (try clear hk); (try clear hi)))
        go_ret
        exact ⟨by first | rfl | (simp [errW_none, errW_some] <;> rfl) | (simp [*, errW_none, errW_some] <;> rfl), by repeat (first | (with_reducible first | exact HB.out | apply below_alloc | apply pw_below_drewN | apply below_drew1) | exact HB.out)⟩
      · replace c18 := Bool.eq_false_iff.mpr c18
        subst c18
        have H1 : (variorumlaw20_BlockRows.l0 kj4 a0 a1 a2 t313 (([] : List Int)) 0) = some r := by rw [if_neg (show ¬ (false = true) by decide)] at H; exact H
        clear H
        have H := H1
        clear H1
        obtain ⟨y316, hy316⟩ : ∃ y_ : List Int, y_ = (([] : List Int)) := ⟨_, rfl⟩
        replace H : (variorumlaw20_BlockRows.l0 kj4 a0 a1 a2 t313 y316 0) = some r := by first | (rw [hy316]; with_reducible exact H) | (have H2_ := (Option.bind_some _ _).symm.trans H; rw [hy316]; with_reducible exact H2_) | (have H2_ := (Option.bind_some _ _).symm.trans H; with_reducible exact H2_) | with_reducible exact H | (rw [hy316]; exact H) | exact H
        have Ny316 := Aside0.mk hy316
        clear hy316
        have H' := Aside0.mk H
        clear H
        go_wp2_with (first | ((with_reducible refine gate_dst (N := 38) rfl ?_); refine Kd.R_lit (Kd.int .i64) _ 2 ?hg (N := 38) ?hd (xs := ([] : List Int)) (inner := []) (ok := fun _ => True) (okp := fun _ => True) ?hr ?hp (fun _ hk => hk) trivial (Below.refl _ _) (Nat.le_refl _) (by simp) ?_; (case hd => rfl); (case hg => rfl); (case hr => first | (go_simp; done) | (go_simp; rfl)); (case hp => exact (Reps.none _ _)); intro v317 w21 ho22 hb hg_ hnew_; clear hg_ hnew_; (first | rw [← Ny316.out] at ho22 | (simp only [Int.reduceToNat] at ho22; rw [← Ny316.out] at ho22)); have n0_ := Aside0.mk (Kd.R_lower ho22 (below_size (by repeat (first | (with_reducible first | exact HB.out | apply below_alloc | apply pw_below_drewN | apply below_drew1) | exact HB.out)))); have n1_ := Aside0.mk (below_step (by repeat (first | (with_reducible first | exact HB.out | apply below_alloc | apply pw_below_drewN | apply below_drew1) | exact HB.out)) hb); clear HB; have HO318 := n0_; have HB := n1_; clear n0_ n1_; clear hb ho22))
        go_loopg [8, 9] kj4 (fun kq v8 v9 w' => ∃ (x8_2 : List Int) (x9_2 : Int), v9 = .int .i64 x9_2 ∧ Aside0 (variorumlaw20_BlockRows.l0 kq a0 a1 a2 t313 x8_2 x9_2 = some r) ∧ Aside0 (kq ≤ kj4) ∧ Aside0 (Kd.R (Kd.int .i64) 2 w' w.heap.size (fun _ => True) v8 x8_2) ∧ Aside0 (Below w.heap.size w w'))
        case atStart => exact ⟨(y316), (0), (by first | rfl | (simp; done) | (simp [*]; done)), H', ⟨Nat.le_refl _⟩, ⟨by (with_reducible repeat (first | apply Kd.R_alloc | apply Kd.R_drewN | apply Kd.R_drew)); exact HO318.out⟩, ⟨by repeat (first | (with_reducible first | exact HB.out | apply below_alloc | apply pw_below_drewN | apply below_drew1) | exact HB.out)⟩⟩
        case round =>
          clear H'
          try clear c1
          try clear p2
          try clear c6
          try clear c7
          try clear c8
          try clear c8b0
          try clear c8b1
          try clear c10
          try clear c10b0
          try clear c11
          try clear c12
          try clear c12b0
          try clear c14
          try clear c14b0
          try clear c18
          try clear p2
          obtain ⟨x8_2, x9_2, rfl, HA, HK2, HO_8, HB⟩ := hrel
          cases gk with
          | zero => exact absurd HA.out (by simp [variorumlaw20_BlockRows.l0])
          | succ k2 =>
            have H := HA.out
            clear HA
            simp only [variorumlaw20_BlockRows.l0] at H
            by_cases c23 : x9_2 < a1
            · rw [if_pos c23] at H
              have c23b0 : decide (x9_2 < a1) = true := decide_eq_true c23
              clear c23
              by_cases c24 : x8_2.length < 17592186044416
              · rw [if_pos c24] at H
                have LMc24 := Aside0.mk c24
                clear c24
                obtain ⟨y319, hy319⟩ : ∃ y_ : List Int, y_ = (x8_2 ++ [a2]) := ⟨_, rfl⟩
                replace H : (variorumlaw20_BlockRows.l0 k2 a0 a1 a2 t313 y319 (wrap64 (x9_2 + 1))) = some r := by first | (rw [hy319]; with_reducible exact H) | (have H2_ := (Option.bind_some _ _).symm.trans H; rw [hy319]; with_reducible exact H2_) | (have H2_ := (Option.bind_some _ _).symm.trans H; with_reducible exact H2_) | with_reducible exact H | (rw [hy319]; exact H) | exact H
                have Ny319 := Aside0.mk hy319
                clear hy319
                have H' := Aside0.mk H
                clear H
                go_wp2_with (first | ((with_reducible refine gate_builtin (b := .append) (xs := #[.tmp 44, .tmp 46]) rfl ?_); at_builtin; refine Kd.R_append (Kd.int .i64) (w0 := w) w.heap.size rfl (.tmp 44) (.tmp 46) 22 2 (.int .i64 0) 8 rfl Try.underlying22 info2 rfl (by decide) (by omega) u8 x8_2 a2 [.int .i64 a2] (fun _ => True) (fun _ => False) rfl rfl ?aP (fun _ hk => hk.elim) ?aF ?aO ?aB ?aS ?aL ?_; (case aP => exact rfl); (case aB => exact (by repeat (first | (with_reducible first | exact HB.out | apply below_alloc | apply pw_below_drewN | apply below_drew1) | exact HB.out))); (case aF => exact (fun _ _ => trivial)); (case aO => exact (by (with_reducible repeat (first | apply Kd.R_alloc | apply Kd.R_drewN | apply Kd.R_drew)); exact HO_8.out)); (case aS => exact (below_size (by repeat (first | (with_reducible first | exact HB.out | apply below_alloc | apply pw_below_drewN | apply below_drew1) | exact HB.out)))); (case aL => have := LMc24.out; omega); intro v320 w25 ho hb hg hat; rw [← Ny319.out] at ho; have n0_ := Aside0.mk (hb); have n1_ := Aside0.mk (ho); clear HB; clear HO_8; have HB := n0_; have HO321 := n1_; clear n0_ n1_; clear ho hb hg hat))
                go_roundg k2
                case measure => have := HJ4.out; have := HK2.out; omega
                case rel => exact ⟨(y319), (wrap64 (x9_2 + 1)), (by first | rfl | (simp; done) | (simp [*]; done)), H', ⟨by have := HJ4.out; have := HK2.out; omega⟩, ⟨by (with_reducible repeat (first | apply Kd.R_alloc | apply Kd.R_drewN | apply Kd.R_drew)); exact HO321.out⟩, ⟨by repeat (first | (with_reducible first | exact HB.out | apply below_alloc | apply pw_below_drewN | apply below_drew1) | exact HB.out)⟩⟩
              · rw [if_neg c24] at H
                exact absurd H (by simp)
            · rw [if_neg c23] at H
              have c23b0 : decide (x9_2 < a1) = false := decide_eq_false c23
              clear c23
              replace H := Option.bind_eq_some_iff.mp H
              obtain ⟨⟨t322, t323, t324⟩, A260, H⟩ := H
              replace H : (if t324 = true then (if t313 = 0 then (none) else (some (t323 == (wrap64 (a2 * (wrap64 (Int.tdiv (wrap64 ((wrap64 (a1 + t313)) - 1)) t313))))))) else (none)) = some r := H
              have A26 := Aside0.mk A260
              clear A260
              by_cases c27 : t324 = true
              · subst c27
                have H1 : (if t313 = 0 then (none) else (some (t323 == (wrap64 (a2 * (wrap64 (Int.tdiv (wrap64 ((wrap64 (a1 + t313)) - 1)) t313))))))) = some r := by rw [if_pos rfl] at H; exact H
                clear H
                have H := H1
                clear H1
                by_cases c28 : t313 = 0
                · rw [if_pos c28] at H
                  exact absurd H (by simp)
                · rw [if_neg c28] at H
                  have c28b0 : (t313 == 0) = false := beq_eq_false_iff_ne.mpr c28
                  have c28b1 : (t313 != 0) = true := bne_iff_ne.mpr c28
                  obtain rfl := Option.some.inj H
                  obtain ⟨Ao29, co29, eo29⟩ := Kd.R_slice HO_8.out
                  subst eo29
                  go_wp2_with (first | ((with_reducible refine gate_callee (f := 8) rfl ?_); refine goesL_ (some 51) rfl rfl Try.func8 (by kernel_rfl) rfl #[.int .i64 a0, .slice Ao29 x8_2.length co29] rfl (by (try simp only [List.map_toArray, List.map_cons, List.map_nil]); first | done | rfl | (simp only [List.length_drop, List.length_take]; rfl) | (simp only [*]; first | done | rfl)) ?_; (with_reducible refine (block_Place.calls k2 a0 _ _ x8_2 t322 t323 true _ ?side1 ?side2 A26.out).mono ?_); (case side1 => repeat (first | exact (Kd.R_reads' HO_8.out).2.2 | (with_reducible refine Kd.C_alloc ?_ _) | (with_reducible refine Kd.C_drewN ?_ _) | (with_reducible refine Kd.C_drew ?_))); (case side2 => exact (Kd.R_reads' HO_8.out).2.1); rintro e w30 ⟨v325, rfl, ho0, hb⟩; refine ⟨_, rfl, ?_⟩; have n0_ := Aside0.mk (Kd.R_below (by (with_reducible repeat (first | apply Kd.R_alloc | apply Kd.R_drewN | apply Kd.R_drew)); exact HO_8.out) hb); have n1_ := Aside0.mk (Kd.R_lower ho0 (below_size (by repeat (first | (with_reducible first | exact HB.out | apply below_alloc | apply pw_below_drewN | apply below_drew1) | exact HB.out)))); have n2_ := Aside0.mk (below_step (by repeat (first | (with_reducible first | exact HB.out | apply below_alloc | apply pw_below_drewN | apply below_drew1) | exact HB.out)) hb); clear HO_8; clear HB; have HO_8 := n0_; have HO326 := n1_; have HB := n2_; clear n0_ n1_ n2_; (try clear hb); (try clear hb2); (try clear hk); (try clear hi); (try clear ho0)))
                  go_ret
                  exact ⟨by first | rfl | (simp [errW_none, errW_some] <;> rfl) | (simp [*, errW_none, errW_some] <;> rfl), by repeat (first | (with_reducible first | exact HB.out | apply below_alloc | apply pw_below_drewN | apply below_drew1) | exact HB.out)⟩
              · replace c27 := Bool.eq_false_iff.mpr c27
                subst c27
                have H1 : (none) = some r := by rw [if_neg (show ¬ (false = true) by decide)] at H; exact H
                clear H
                have H := H1
                clear H1
                exact absurd H (by simp)

/-- The one statement about numbers and lists that is left of the law. -/
def variorumlaw20_BlockRows.Pure : Prop := ∀ (x0 : Int) (x1 : Int) (x2 : Int), (Lit.int .i64 x0).wf = true → (Lit.int .i64 x1).wf = true → (Lit.int .i64 x2).wf = true → ∃ k, variorumlaw20_BlockRows.f k x0 x1 x2 = some true

end Go.Proofs.Ytmhnccjdhhcjoaa.PAll

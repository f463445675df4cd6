/- Written by a program of this session: functions of the given program as plain Lean functions, the walks that show it, and the row of each law, for every input that its statement speaks of. -/
import Derived.Test.YtbdaaiagpknaoaaPUbx0
import Derived.Test.YtbdaaiagpknaoaaPUbx6
import Derived.Test.YtbdaaiagpknaoaaPUbx7
namespace Go.Proofs.Ytbdaaiagpknaoaa.PUb
open Go.RowKit Go.Proofs.YtbdaaiagpknaoaaW.PrintWords Go.Proofs.YtbdaaiagpknaoaaW.PrintLast Go.Proofs.YtbdaaiagpknaoaaW.PrintMore
attribute [local go_sem] max2_int min2_int max_two min_two max_three min_three max_four min_four   -- for this text's walks alone
set_option linter.unusedVariables false
set_option linter.unusedSimpArgs false

/-! ### variorumref09_Right: function 23 -/
mutual
def variorumref09_Right.j0 : Nat → Bool → Int → Int → Int → Int → Int → Int → Bool → Int → Int → Int → Int → Int → Int → Option (Bool)
 | 0, _, _, _, _, _, _, _, _, _, _, _, _, _, _ => none
 | k + 1, x4, x135000, x135001, x135002, x135003, x135004, x135005, x135006, x135007, x135008, x136000, x136001, x136002, x136003 => if x4 = true then (if x136001 = 0 then (if x136002 = 0 then (variorumref09_Right.j1 k (x136003 == 0) x135000 x135001 x135002 x135003 x135004 x135005 x135006 x135007 x135008 x136000 x136001 x136002 x136003) else (variorumref09_Right.j1 k false x135000 x135001 x135002 x135003 x135004 x135005 x135006 x135007 x135008 x136000 x136001 x136002 x136003)) else (variorumref09_Right.j1 k false x135000 x135001 x135002 x135003 x135004 x135005 x135006 x135007 x135008 x136000 x136001 x136002 x136003)) else (variorumref09_Right.j1 k false x135000 x135001 x135002 x135003 x135004 x135005 x135006 x135007 x135008 x136000 x136001 x136002 x136003)
def variorumref09_Right.j1 : Nat → Bool → Int → Int → Int → Int → Int → Int → Bool → Int → Int → Int → Int → Int → Int → Option (Bool)
 | 0, _, _, _, _, _, _, _, _, _, _, _, _, _, _ => none
 | k + 1, x5, x135000, x135001, x135002, x135003, x135004, x135005, x135006, x135007, x135008, x136000, x136001, x136002, x136003 => if x135000 = 0 then (if x5 = true then (if x135005 = 0 then (if x135006 = true then (some false) else (if x135007 ≥ 0 then (some (decide (x135008 ≥ 0))) else (some false))) else (some false)) else (some false)) else (if x135007 = 0 then (variorumref09_Right.j2 k x5 (x135008 != 0) x135000 x135001 x135002 x135003 x135004 x135005 x135006 x135007 x135008 x136000 x136001 x136002 x136003) else (variorumref09_Right.j2 k x5 true x135000 x135001 x135002 x135003 x135004 x135005 x135006 x135007 x135008 x136000 x136001 x136002 x136003))
def variorumref09_Right.j2 : Nat → Bool → Bool → Int → Int → Int → Int → Int → Int → Bool → Int → Int → Int → Int → Int → Int → Option (Bool)
 | 0, _, _, _, _, _, _, _, _, _, _, _, _, _, _, _ => none
 | k + 1, x5, x63, x135000, x135001, x135002, x135003, x135004, x135005, x135006, x135007, x135008, x136000, x136001, x136002, x136003 => if x63 = true then (some false) else (if x135000 = 1 then ((variorumref03_May.f k (([(⟨x136000, x136001, x136002, x136003⟩ : S23)] : List (S23)))).bind fun t140 => (if t140 = true then (if x136000 ≥ x136002 then (if x135005 = 0 then (some (!x135006)) else (some false)) else (some false)) else (some false))) else (if x135000 = 2 then (if x5 = true then (if x135005 ≥ (-10000) then (some (decide (x135005 ≤ 10000))) else (some false)) else (some false)) else (some false)))
end
def variorumref09_Right.f (k : Nat) (a0_0 : Int) (a0_1 : Int) (a0_2 : Int) (a0_3 : Int) (a0_4 : Int) (a0_5 : Int) (a0_6 : Bool) (a0_7 : Int) (a0_8 : Int) : Option (Bool) := if a0_1 ≥ 0 then ((variorumref02_Fits.f a0_1).bind fun t136 => (variorumref09_Right.j0 k t136 a0_0 a0_1 a0_2 a0_3 a0_4 a0_5 a0_6 a0_7 a0_8 a0_1 a0_2 a0_3 a0_4)) else (variorumref09_Right.j0 k false a0_0 a0_1 a0_2 a0_3 a0_4 a0_5 a0_6 a0_7 a0_8 a0_1 a0_2 a0_3 a0_4)
theorem variorumref09_Right.mono_l : ∀ k, (∀ y0 y1 y2 y3 y4 y5 y6 y7 y8 y9 y10 y11 y12 y13, LeO (variorumref09_Right.j0 k y0 y1 y2 y3 y4 y5 y6 y7 y8 y9 y10 y11 y12 y13) (variorumref09_Right.j0 (k + 1) y0 y1 y2 y3 y4 y5 y6 y7 y8 y9 y10 y11 y12 y13)) ∧ (∀ y0 y1 y2 y3 y4 y5 y6 y7 y8 y9 y10 y11 y12 y13, LeO (variorumref09_Right.j1 k y0 y1 y2 y3 y4 y5 y6 y7 y8 y9 y10 y11 y12 y13) (variorumref09_Right.j1 (k + 1) y0 y1 y2 y3 y4 y5 y6 y7 y8 y9 y10 y11 y12 y13)) ∧ (∀ y0 y1 y2 y3 y4 y5 y6 y7 y8 y9 y10 y11 y12 y13 y14, LeO (variorumref09_Right.j2 k y0 y1 y2 y3 y4 y5 y6 y7 y8 y9 y10 y11 y12 y13 y14) (variorumref09_Right.j2 (k + 1) y0 y1 y2 y3 y4 y5 y6 y7 y8 y9 y10 y11 y12 y13 y14))
 | 0 => ⟨fun _ _ _ _ _ _ _ _ _ _ _ _ _ _ r h => by simp [variorumref09_Right.j0] at h, fun _ _ _ _ _ _ _ _ _ _ _ _ _ _ r h => by simp [variorumref09_Right.j1] at h, fun _ _ _ _ _ _ _ _ _ _ _ _ _ _ _ r h => by simp [variorumref09_Right.j2] at h⟩
 | k + 1 => by
  obtain ⟨ih0, ih1, ih2⟩ := variorumref09_Right.mono_l k
  refine ⟨?_, ?_, ?_⟩
  ·intro y0 y1 y2 y3 y4 y5 y6 y7 y8 y9 y10 y11 y12 y13
   unfold variorumref09_Right.j0
   repeat' first
   | (with_reducible exact ih0 _ _ _ _ _ _ _ _ _ _ _ _ _ _)
   | (with_reducible exact ih1 _ _ _ _ _ _ _ _ _ _ _ _ _ _)
   | (with_reducible exact ih2 _ _ _ _ _ _ _ _ _ _ _ _ _ _ _)
   | (with_reducible exact variorumref03_May.mono _ _)
   | (with_reducible exact LeO.refl _)
   | (with_reducible exact LeO.none _)
   | (with_reducible refine LeO.ite ?_ ?_)
   | (with_reducible refine LeO.bind ?_ (fun _ => ?_))
   | exact ih0 _ _ _ _ _ _ _ _ _ _ _ _ _ _
   | exact ih1 _ _ _ _ _ _ _ _ _ _ _ _ _ _
   | exact ih2 _ _ _ _ _ _ _ _ _ _ _ _ _ _ _
   | exact variorumref03_May.mono _ _
   | exact LeO.none _
   | refine LeO.ite ?_ ?_
   | refine LeO.bind ?_ (fun _ => ?_)
  ·intro y0 y1 y2 y3 y4 y5 y6 y7 y8 y9 y10 y11 y12 y13
   unfold variorumref09_Right.j1
   repeat' first
   | (with_reducible exact ih0 _ _ _ _ _ _ _ _ _ _ _ _ _ _)
   | (with_reducible exact ih1 _ _ _ _ _ _ _ _ _ _ _ _ _ _)
   | (with_reducible exact ih2 _ _ _ _ _ _ _ _ _ _ _ _ _ _ _)
   | (with_reducible exact variorumref03_May.mono _ _)
   | (with_reducible exact LeO.refl _)
   | (with_reducible exact LeO.none _)
   | (with_reducible refine LeO.ite ?_ ?_)
   | (with_reducible refine LeO.bind ?_ (fun _ => ?_))
   | exact ih0 _ _ _ _ _ _ _ _ _ _ _ _ _ _
   | exact ih1 _ _ _ _ _ _ _ _ _ _ _ _ _ _
   | exact ih2 _ _ _ _ _ _ _ _ _ _ _ _ _ _ _
   | exact variorumref03_May.mono _ _
   | exact LeO.none _
   | refine LeO.ite ?_ ?_
   | refine LeO.bind ?_ (fun _ => ?_)
  ·intro y0 y1 y2 y3 y4 y5 y6 y7 y8 y9 y10 y11 y12 y13 y14
   unfold variorumref09_Right.j2
   repeat' first
   | (with_reducible exact ih0 _ _ _ _ _ _ _ _ _ _ _ _ _ _)
   | (with_reducible exact ih1 _ _ _ _ _ _ _ _ _ _ _ _ _ _)
   | (with_reducible exact ih2 _ _ _ _ _ _ _ _ _ _ _ _ _ _ _)
   | (with_reducible exact variorumref03_May.mono _ _)
   | (with_reducible exact LeO.refl _)
   | (with_reducible exact LeO.none _)
   | (with_reducible refine LeO.ite ?_ ?_)
   | (with_reducible refine LeO.bind ?_ (fun _ => ?_))
   | exact ih0 _ _ _ _ _ _ _ _ _ _ _ _ _ _
   | exact ih1 _ _ _ _ _ _ _ _ _ _ _ _ _ _
   | exact ih2 _ _ _ _ _ _ _ _ _ _ _ _ _ _ _
   | exact variorumref03_May.mono _ _
   | exact LeO.none _
   | refine LeO.ite ?_ ?_
   | refine LeO.bind ?_ (fun _ => ?_)
theorem variorumref09_Right.mono : ∀ a0 a1 a2 a3 a4 a5 a6 a7 a8 k, LeO (variorumref09_Right.f k a0 a1 a2 a3 a4 a5 a6 a7 a8) (variorumref09_Right.f (k + 1) a0 a1 a2 a3 a4 a5 a6 a7 a8) := by
 intro a0 a1 a2 a3 a4 a5 a6 a7 a8 k
 obtain ⟨ih0, ih1, ih2⟩ := variorumref09_Right.mono_l k
 unfold variorumref09_Right.f
 repeat' first
   | (with_reducible exact ih0 _ _ _ _ _ _ _ _ _ _ _ _ _ _)
   | (with_reducible exact ih1 _ _ _ _ _ _ _ _ _ _ _ _ _ _)
   | (with_reducible exact ih2 _ _ _ _ _ _ _ _ _ _ _ _ _ _ _)
   | (with_reducible exact variorumref03_May.mono _ _)
   | (with_reducible exact LeO.refl _)
   | (with_reducible exact LeO.none _)
   | (with_reducible refine LeO.ite ?_ ?_)
   | (with_reducible refine LeO.bind ?_ (fun _ => ?_))
   | exact ih0 _ _ _ _ _ _ _ _ _ _ _ _ _ _
   | exact ih1 _ _ _ _ _ _ _ _ _ _ _ _ _ _
   | exact ih2 _ _ _ _ _ _ _ _ _ _ _ _ _ _ _
   | exact variorumref03_May.mono _ _
   | exact LeO.none _
   | refine LeO.ite ?_ ?_
   | refine LeO.bind ?_ (fun _ => ?_)
set_option maxHeartbeats 8000000 in
set_option maxRecDepth 100000 in
theorem variorumref09_Right.calls (k : Nat) (a0_0 : Int) (a0_1 : Int) (a0_2 : Int) (a0_3 : Int) (a0_4 : Int) (a0_5 : Int) (a0_6 : Bool) (a0_7 : Int) (a0_8 : Int) (r : Bool) (w : World) (h : variorumref09_Right.f k a0_0 a0_1 a0_2 a0_3 a0_4 a0_5 a0_6 a0_7 a0_8 = some r) :
  Calls Try.prog 23 #[.agg #[.int .i64 a0_0, .int .i64 a0_1, .int .i64 a0_2, .int .i64 a0_3, .int .i64 a0_4, .int .i64 a0_5, .bool a0_6, .int .i64 a0_7, .int .i64 a0_8]] w fun e w' => e = .returned (.bool r) ∧ Below w.heap.size w w' := by
 have hu45 := Try.underlying45
 have hu23 := Try.underlying23
 have HB := Aside0.mk (Below.refl w.heap.size w)
 have H : (if a0_1 ≥ 0 then ((variorumref02_Fits.f a0_1).bind fun t136 => (variorumref09_Right.j0 k t136 a0_0 a0_1 a0_2 a0_3 a0_4 a0_5 a0_6 a0_7 a0_8 a0_1 a0_2 a0_3 a0_4)) else (variorumref09_Right.j0 k false a0_0 a0_1 a0_2 a0_3 a0_4 a0_5 a0_6 a0_7 a0_8 a0_1 a0_2 a0_3 a0_4)) = some r := h
 clear h
 have HC2 := Aside0.mk H
 clear H
 go_enter Try.func23, Try.ntmps23
 go_upto_region 2 with (first | ((with_reducible refine gate_dst (N := 1) rfl ?_); refine box_event ?hg (N := 1) ?hd (cs := #[.int .i64 a0_0, .int .i64 a0_1, .int .i64 a0_2, .int .i64 a0_3, .int .i64 a0_4, .int .i64 a0_5, .bool a0_6, .int .i64 a0_7, .int .i64 a0_8]) (t := 45) ?hr ?_; (case hd => rfl); (case hg => rfl); (case hr => first | (go_simp; done) | (go_simp; rfl)); intro gb134 hg w3 hbox hb; have n0_ := Aside0.mk (below_step (by repeat (first | (with_reducible first | exact HB.out | apply below_alloc | apply pw_below_drewN | apply below_drew1) | exact HB.out)) hb); have n1_ := Aside0.mk (hbox); have n2_ := Aside0.mk ((by rw [hg]; exact (below_size (by repeat (first | (with_reducible first | exact HB.out | apply below_alloc | apply pw_below_drewN | apply below_drew1) | exact HB.out))) : w.heap.size ≤ gb134)); have n3_ := Aside0.mk ((by rw [hg]; exact (below_size (by repeat (first | (with_reducible first | exact HB.out | apply below_alloc | apply pw_below_drewN | apply below_drew1) | exact HB.out))) : w.heap.size ≤ gb134)); clear HB; have HB := n0_; have BK134 := n1_; have GW134 := n2_; have GE134 := n3_; clear n0_ n1_ n2_ n3_; clear hb hbox hg; have hcz4_0 : w3.cell? ⟨gb134, 0, none⟩ = some (.int .i64 a0_0) := (blk_cell BK134.out 0).trans rfl; have hcz4_1 : w3.cell? ⟨gb134, 1, none⟩ = some (.int .i64 a0_1) := (blk_cell BK134.out 1).trans rfl; have hcz4_2 : w3.cell? ⟨gb134, 2, none⟩ = some (.int .i64 a0_2) := (blk_cell BK134.out 2).trans rfl; have hcz4_3 : w3.cell? ⟨gb134, 3, none⟩ = some (.int .i64 a0_3) := (blk_cell BK134.out 3).trans rfl; have hcz4_4 : w3.cell? ⟨gb134, 4, none⟩ = some (.int .i64 a0_4) := (blk_cell BK134.out 4).trans rfl; have hcz4_5 : w3.cell? ⟨gb134, 5, none⟩ = some (.int .i64 a0_5) := (blk_cell BK134.out 5).trans rfl; have hcz4_6 : w3.cell? ⟨gb134, 6, none⟩ = some (.bool a0_6) := (blk_cell BK134.out 6).trans rfl; have hcz4_7 : w3.cell? ⟨gb134, 7, none⟩ = some (.int .i64 a0_7) := (blk_cell BK134.out 7).trans rfl; have hcz4_8 : w3.cell? ⟨gb134, 8, none⟩ = some (.int .i64 a0_8) := (blk_cell BK134.out 8).trans rfl; have hfz4_0 := blk_frozen BK134.out 0; have hfz4_1 := blk_frozen BK134.out 1; have hfz4_2 := blk_frozen BK134.out 2; have hfz4_3 := blk_frozen BK134.out 3; have hfz4_4 := blk_frozen BK134.out 4; have hfz4_5 := blk_frozen BK134.out 5; have hfz4_6 := blk_frozen BK134.out 6; have hfz4_7 := blk_frozen BK134.out 7; have hfz4_8 := blk_frozen BK134.out 8) | ((with_reducible refine gate_dst (N := 3) rfl ?_); refine box_event ?hg (N := 3) ?hd (cs := #[.int .i64 0, .int .i64 0, .int .i64 0, .int .i64 0]) (t := 23) ?hr ?_; (case hd => rfl); (case hg => rfl); (case hr => first | (go_simp; done) | (go_simp; rfl)); intro gb135 hg w5 hbox hb; have n0_ := Aside0.mk (blk_below (g := gb134) (o := .cells #[.int .i64 a0_0, .int .i64 a0_1, .int .i64 a0_2, .int .i64 a0_3, .int .i64 a0_4, .int .i64 a0_5, .bool a0_6, .int .i64 a0_7, .int .i64 a0_8] 45 (0, 0)) (by (with_reducible repeat (first | refine blk_drewN ?_ _ | refine blk_drew ?_ | refine blk_alloc ?_ _)); exact BK134.out) hb); have n1_ := Aside0.mk (below_step (by repeat (first | (with_reducible first | exact HB.out | apply below_alloc | apply pw_below_drewN | apply below_drew1 | refine below_set ?_ GE134.out) | exact HB.out)) hb); have n2_ := Aside0.mk (hbox); have n3_ := Aside0.mk ((by rw [hg]; exact (below_size (by repeat (first | (with_reducible first | exact HB.out | apply below_alloc | apply pw_below_drewN | apply below_drew1 | refine below_set ?_ GE134.out) | exact HB.out))) : w.heap.size ≤ gb135)); have n4_ := Aside0.mk ((by rw [hg]; exact (below_size (by repeat (first | (with_reducible first | exact HB.out | apply below_alloc | apply pw_below_drewN | apply below_drew1 | refine below_set ?_ GE134.out) | exact HB.out))) : w.heap.size ≤ gb135)); have n5_ := Aside0.mk ((by rw [hg]; exact Nat.ne_of_lt (blk_lt (g := gb134) (o := .cells #[.int .i64 a0_0, .int .i64 a0_1, .int .i64 a0_2, .int .i64 a0_3, .int .i64 a0_4, .int .i64 a0_5, .bool a0_6, .int .i64 a0_7, .int .i64 a0_8] 45 (0, 0)) (by (with_reducible repeat (first | refine blk_drewN ?_ _ | refine blk_drew ?_ | refine blk_alloc ?_ _)); exact BK134.out)) : gb134 ≠ gb135)); have n6_ := Aside0.mk ((by rw [hg]; exact Nat.ne_of_gt (blk_lt (g := gb134) (o := .cells #[.int .i64 a0_0, .int .i64 a0_1, .int .i64 a0_2, .int .i64 a0_3, .int .i64 a0_4, .int .i64 a0_5, .bool a0_6, .int .i64 a0_7, .int .i64 a0_8] 45 (0, 0)) (by (with_reducible repeat (first | refine blk_drewN ?_ _ | refine blk_drew ?_ | refine blk_alloc ?_ _)); exact BK134.out)) : gb135 ≠ gb134)); clear BK134; clear HB; have BK134 := n0_; have HB := n1_; have BK135 := n2_; have GW135 := n3_; have GE135 := n4_; have NB134_135 := n5_; have NB135_134 := n6_; clear n0_ n1_ n2_ n3_ n4_ n5_ n6_; clear hb hbox hg; have hnb6 := NB135_134.out; have hnc6 := NB134_135.out; have hcz7_0 : w5.cell? ⟨gb135, 0, none⟩ = some (.int .i64 0) := (blk_cell BK135.out 0).trans rfl; have hcz7_1 : w5.cell? ⟨gb135, 1, none⟩ = some (.int .i64 0) := (blk_cell BK135.out 1).trans rfl; have hcz7_2 : w5.cell? ⟨gb135, 2, none⟩ = some (.int .i64 0) := (blk_cell BK135.out 2).trans rfl; have hcz7_3 : w5.cell? ⟨gb135, 3, none⟩ = some (.int .i64 0) := (blk_cell BK135.out 3).trans rfl; have hfz7_0 := blk_frozen BK135.out 0; have hfz7_1 := blk_frozen BK135.out 1; have hfz7_2 := blk_frozen BK135.out 2; have hfz7_3 := blk_frozen BK135.out 3))
 (try simp only [Act.put, List.setIfInBounds_toArray, List.set_cons_zero, List.set_cons_succ])
 go_cut [4] (fun v4 wc => ∃ (kq : Nat) (x4_1 : Bool), v4 = .bool x4_1 ∧ Aside0 (variorumref09_Right.j0 kq x4_1 a0_0 a0_1 a0_2 a0_3 a0_4 a0_5 a0_6 a0_7 a0_8 a0_1 a0_2 a0_3 a0_4 = some r) ∧ Aside0 (kq ≤ k) ∧ Aside0 (wc.heap[gb134]? = some (.cells #[.int .i64 a0_0, .int .i64 a0_1, .int .i64 a0_2, .int .i64 a0_3, .int .i64 a0_4, .int .i64 a0_5, .bool a0_6, .int .i64 a0_7, .int .i64 a0_8] 45 (0, 0))) ∧ Aside0 (wc.heap[gb135]? = some (.cells #[.int .i64 a0_1, .int .i64 a0_2, .int .i64 a0_3, .int .i64 a0_4] 23 (0, 0))) ∧ Aside0 (Below w.heap.size w wc))
 case first =>
  have H := HC2.out
  clear HC2
  by_cases c8 : a0_1 ≥ 0
  ·rw [if_pos c8] at H
   have c8b0 : decide (0 ≤ a0_1) = true := decide_eq_true c8
   clear c8
   (first | rw [c8b0] | (simp only [i64_w, i32_w]; rw [c8b0]) | skip)
   replace H := Option.bind_eq_some_iff.mp H
   obtain ⟨t136, A90, H⟩ := H
   replace H : (variorumref09_Right.j0 k t136 a0_0 a0_1 a0_2 a0_3 a0_4 a0_5 a0_6 a0_7 a0_8 a0_1 a0_2 a0_3 a0_4) = some r := H
   have A9 := Aside0.mk A90
   clear A90
   have H' := Aside0.mk H
   clear H
   have hnb10 := NB135_134.out
   have hnc10 := NB134_135.out
   have hcz11_0 : w5.cell? ⟨gb135, 0, none⟩ = some (.int .i64 0) := (blk_cell BK135.out 0).trans rfl
   have hcz11_1 : w5.cell? ⟨gb135, 1, none⟩ = some (.int .i64 0) := (blk_cell BK135.out 1).trans rfl
   have hcz11_2 : w5.cell? ⟨gb135, 2, none⟩ = some (.int .i64 0) := (blk_cell BK135.out 2).trans rfl
   have hcz11_3 : w5.cell? ⟨gb135, 3, none⟩ = some (.int .i64 0) := (blk_cell BK135.out 3).trans rfl
   have hfz11_0 := blk_frozen BK135.out 0
   have hfz11_1 := blk_frozen BK135.out 1
   have hfz11_2 := blk_frozen BK135.out 2
   have hfz11_3 := blk_frozen BK135.out 3
   go_wp2_with (first | (go_at_call 29; (with_reducible refine (variorumref02_Fits.calls a0_1 t136 _ A9.out).mono ?_); rintro e w' ⟨rfl, ⟨nd, rfl⟩⟩))
   go_meet
   case rel => exact ⟨_, (t136), (by first | rfl | (simp; done) | (simp [*]; done)), H', ⟨by first | omega | exact Nat.le_refl _⟩, ⟨by (with_reducible repeat (first | refine blk_drewN ?_ _ | refine blk_drew ?_ | refine blk_alloc ?_ _)); refine blk_far ?_ NB134_135.out _; (with_reducible repeat (first | refine blk_drewN ?_ _ | refine blk_drew ?_ | refine blk_alloc ?_ _)); refine blk_far ?_ NB134_135.out _; (with_reducible repeat (first | refine blk_drewN ?_ _ | refine blk_drew ?_ | refine blk_alloc ?_ _)); refine blk_far ?_ NB134_135.out _; (with_reducible repeat (first | refine blk_drewN ?_ _ | refine blk_drew ?_ | refine blk_alloc ?_ _)); refine blk_far ?_ NB134_135.out _; (with_reducible repeat (first | refine blk_drewN ?_ _ | refine blk_drew ?_ | refine blk_alloc ?_ _)); exact BK134.out⟩, ⟨by (with_reducible repeat (first | refine blk_drewN ?_ _ | refine blk_drew ?_ | refine blk_alloc ?_ _)); refine blk_put (cs := #[.int .i64 a0_1, .int .i64 a0_2, .int .i64 a0_3, .int .i64 0]) ?_ 3 _ rfl; (with_reducible repeat (first | refine blk_drewN ?_ _ | refine blk_drew ?_ | refine blk_alloc ?_ _)); refine blk_put (cs := #[.int .i64 a0_1, .int .i64 a0_2, .int .i64 0, .int .i64 0]) ?_ 2 _ rfl; (with_reducible repeat (first | refine blk_drewN ?_ _ | refine blk_drew ?_ | refine blk_alloc ?_ _)); refine blk_put (cs := #[.int .i64 a0_1, .int .i64 0, .int .i64 0, .int .i64 0]) ?_ 1 _ rfl; (with_reducible repeat (first | refine blk_drewN ?_ _ | refine blk_drew ?_ | refine blk_alloc ?_ _)); refine blk_put (cs := #[.int .i64 0, .int .i64 0, .int .i64 0, .int .i64 0]) ?_ 0 _ rfl; (with_reducible repeat (first | refine blk_drewN ?_ _ | refine blk_drew ?_ | refine blk_alloc ?_ _)); exact BK135.out⟩, ⟨by repeat (first | (with_reducible first | exact HB.out | apply below_alloc | apply pw_below_drewN | apply below_drew1 | refine below_set ?_ GE134.out | refine below_set ?_ GE135.out) | exact HB.out)⟩⟩
  ·rw [if_neg c8] at H
   have c8b0 : decide (0 ≤ a0_1) = false := decide_eq_false c8
   clear c8
   (first | rw [c8b0] | (simp only [i64_w, i32_w]; rw [c8b0]) | skip)
   have H' := Aside0.mk H
   clear H
   have hnb12 := NB135_134.out
   have hnc12 := NB134_135.out
   have hcz13_0 : w5.cell? ⟨gb135, 0, none⟩ = some (.int .i64 0) := (blk_cell BK135.out 0).trans rfl
   have hcz13_1 : w5.cell? ⟨gb135, 1, none⟩ = some (.int .i64 0) := (blk_cell BK135.out 1).trans rfl
   have hcz13_2 : w5.cell? ⟨gb135, 2, none⟩ = some (.int .i64 0) := (blk_cell BK135.out 2).trans rfl
   have hcz13_3 : w5.cell? ⟨gb135, 3, none⟩ = some (.int .i64 0) := (blk_cell BK135.out 3).trans rfl
   have hfz13_0 := blk_frozen BK135.out 0
   have hfz13_1 := blk_frozen BK135.out 1
   have hfz13_2 := blk_frozen BK135.out 2
   have hfz13_3 := blk_frozen BK135.out 3
   go_wp2
   go_meet
   case rel => exact ⟨_, (false), (by first | rfl | (simp; done) | (simp [*]; done)), H', ⟨by first | omega | exact Nat.le_refl _⟩, ⟨by (with_reducible repeat (first | refine blk_drewN ?_ _ | refine blk_drew ?_ | refine blk_alloc ?_ _)); refine blk_far ?_ NB134_135.out _; (with_reducible repeat (first | refine blk_drewN ?_ _ | refine blk_drew ?_ | refine blk_alloc ?_ _)); refine blk_far ?_ NB134_135.out _; (with_reducible repeat (first | refine blk_drewN ?_ _ | refine blk_drew ?_ | refine blk_alloc ?_ _)); refine blk_far ?_ NB134_135.out _; (with_reducible repeat (first | refine blk_drewN ?_ _ | refine blk_drew ?_ | refine blk_alloc ?_ _)); refine blk_far ?_ NB134_135.out _; (with_reducible repeat (first | refine blk_drewN ?_ _ | refine blk_drew ?_ | refine blk_alloc ?_ _)); exact BK134.out⟩, ⟨by (with_reducible repeat (first | refine blk_drewN ?_ _ | refine blk_drew ?_ | refine blk_alloc ?_ _)); refine blk_put (cs := #[.int .i64 a0_1, .int .i64 a0_2, .int .i64 a0_3, .int .i64 0]) ?_ 3 _ rfl; (with_reducible repeat (first | refine blk_drewN ?_ _ | refine blk_drew ?_ | refine blk_alloc ?_ _)); refine blk_put (cs := #[.int .i64 a0_1, .int .i64 a0_2, .int .i64 0, .int .i64 0]) ?_ 2 _ rfl; (with_reducible repeat (first | refine blk_drewN ?_ _ | refine blk_drew ?_ | refine blk_alloc ?_ _)); refine blk_put (cs := #[.int .i64 a0_1, .int .i64 0, .int .i64 0, .int .i64 0]) ?_ 1 _ rfl; (with_reducible repeat (first | refine blk_drewN ?_ _ | refine blk_drew ?_ | refine blk_alloc ?_ _)); refine blk_put (cs := #[.int .i64 0, .int .i64 0, .int .i64 0, .int .i64 0]) ?_ 0 _ rfl; (with_reducible repeat (first | refine blk_drewN ?_ _ | refine blk_drew ?_ | refine blk_alloc ?_ _)); exact BK135.out⟩, ⟨by repeat (first | (with_reducible first | exact HB.out | apply below_alloc | apply pw_below_drewN | apply below_drew1 | refine below_set ?_ GE134.out | refine below_set ?_ GE135.out) | exact HB.out)⟩⟩
 case rest =>
  clear HC2
  try clear c1
  try clear c2
  try clear p2
  try clear c6
  try clear c8
  try clear c8b0
  try clear c10
  try clear c12
  try clear hcz11_0
  try clear hcz11_1
  try clear hcz11_2
  try clear hcz11_3
  try clear hcz13_0
  try clear hcz13_1
  try clear hcz13_2
  try clear hcz13_3
  try clear hcz4_0
  try clear hcz4_1
  try clear hcz4_2
  try clear hcz4_3
  try clear hcz4_4
  try clear hcz4_5
  try clear hcz4_6
  try clear hcz4_7
  try clear hcz4_8
  try clear hcz7_0
  try clear hcz7_1
  try clear hcz7_2
  try clear hcz7_3
  try clear hfz11_0
  try clear hfz11_1
  try clear hfz11_2
  try clear hfz11_3
  try clear hfz13_0
  try clear hfz13_1
  try clear hfz13_2
  try clear hfz13_3
  try clear hfz4_0
  try clear hfz4_1
  try clear hfz4_2
  try clear hfz4_3
  try clear hfz4_4
  try clear hfz4_5
  try clear hfz4_6
  try clear hfz4_7
  try clear hfz4_8
  try clear hfz7_0
  try clear hfz7_1
  try clear hfz7_2
  try clear hfz7_3
  obtain ⟨kq, x4_1, rfl, HA, HJ1, BK134, BK135, HB⟩ := hcut
  cases kq with
  | zero => exact absurd HA.out (by simp [variorumref09_Right.j0])
  | succ kj1 =>
   have H := HA.out
   clear HA
   simp only [variorumref09_Right.j0] at H
   have HC14 := Aside0.mk H
   clear H
   go_upto_region 3 with (fail)
   go_cut [5] (fun v5 wc => ∃ (kq : Nat) (x5_13 : Bool), v5 = .bool x5_13 ∧ Aside0 (variorumref09_Right.j1 kq x5_13 a0_0 a0_1 a0_2 a0_3 a0_4 a0_5 a0_6 a0_7 a0_8 a0_1 a0_2 a0_3 a0_4 = some r) ∧ Aside0 (kq ≤ kj1) ∧ Aside0 (wc.heap[gb134]? = some (.cells #[.int .i64 a0_0, .int .i64 a0_1, .int .i64 a0_2, .int .i64 a0_3, .int .i64 a0_4, .int .i64 a0_5, .bool a0_6, .int .i64 a0_7, .int .i64 a0_8] 45 (0, 0))) ∧ Aside0 (wc.heap[gb135]? = some (.cells #[.int .i64 a0_1, .int .i64 a0_2, .int .i64 a0_3, .int .i64 a0_4] 23 (0, 0))) ∧ Aside0 (Below w.heap.size w wc))
   case first =>
    have H := HC14.out
    clear HC14
    by_cases c15 : x4_1 = true
    ·subst c15
     have H1 : (if a0_2 = 0 then (if a0_3 = 0 then (variorumref09_Right.j1 kj1 (a0_4 == 0) a0_0 a0_1 a0_2 a0_3 a0_4 a0_5 a0_6 a0_7 a0_8 a0_1 a0_2 a0_3 a0_4) else (variorumref09_Right.j1 kj1 false a0_0 a0_1 a0_2 a0_3 a0_4 a0_5 a0_6 a0_7 a0_8 a0_1 a0_2 a0_3 a0_4)) else (variorumref09_Right.j1 kj1 false a0_0 a0_1 a0_2 a0_3 a0_4 a0_5 a0_6 a0_7 a0_8 a0_1 a0_2 a0_3 a0_4)) = some r := by rw [if_pos rfl] at H; exact H
     clear H
     have H := H1
     clear H1
     by_cases c16 : a0_2 = 0
     ·rw [if_pos c16] at H
      have c16b0 : (a0_2 == 0) = true := beq_iff_eq.mpr c16
      have c16b1 : (a0_2 != 0) = false := bne_eq_false_iff_eq.mpr c16
      clear c16
      (first | rw [c16b0] | (simp only [i64_w, i32_w]; rw [c16b0]) | skip)
      by_cases c17 : a0_3 = 0
      ·rw [if_pos c17] at H
       have c17b0 : (a0_3 == 0) = true := beq_iff_eq.mpr c17
       have c17b1 : (a0_3 != 0) = false := bne_eq_false_iff_eq.mpr c17
       clear c17
       have H' := Aside0.mk H
       clear H
       have hnb18 := NB135_134.out
       have hnc18 := NB134_135.out
       have hcz19_0 : wc.cell? ⟨gb135, 0, none⟩ = some (.int .i64 a0_1) := (blk_cell BK135.out 0).trans rfl
       have hcz19_1 : wc.cell? ⟨gb135, 1, none⟩ = some (.int .i64 a0_2) := (blk_cell BK135.out 1).trans rfl
       have hcz19_2 : wc.cell? ⟨gb135, 2, none⟩ = some (.int .i64 a0_3) := (blk_cell BK135.out 2).trans rfl
       have hcz19_3 : wc.cell? ⟨gb135, 3, none⟩ = some (.int .i64 a0_4) := (blk_cell BK135.out 3).trans rfl
       have hfz19_0 := blk_frozen BK135.out 0
       have hfz19_1 := blk_frozen BK135.out 1
       have hfz19_2 := blk_frozen BK135.out 2
       have hfz19_3 := blk_frozen BK135.out 3
       go_wp2
       go_meet
       case rel => exact ⟨_, ((a0_4 == 0)), (by first | rfl | (simp; done) | (simp [*]; done)), H', ⟨by have := HJ1.out; first | omega | exact Nat.le_refl _⟩, ⟨by (with_reducible repeat (first | refine blk_drewN ?_ _ | refine blk_drew ?_ | refine blk_alloc ?_ _)); exact BK134.out⟩, ⟨by (with_reducible repeat (first | refine blk_drewN ?_ _ | refine blk_drew ?_ | refine blk_alloc ?_ _)); exact BK135.out⟩, ⟨by repeat (first | (with_reducible first | exact HB.out | apply below_alloc | apply pw_below_drewN | apply below_drew1 | refine below_set ?_ GE134.out | refine below_set ?_ GE135.out) | exact HB.out)⟩⟩
      ·rw [if_neg c17] at H
       have c17b0 : (a0_3 == 0) = false := beq_eq_false_iff_ne.mpr c17
       have c17b1 : (a0_3 != 0) = true := bne_iff_ne.mpr c17
       have H' := Aside0.mk H
       clear H
       have hnb20 := NB135_134.out
       have hnc20 := NB134_135.out
       have hcz21_0 : wc.cell? ⟨gb135, 0, none⟩ = some (.int .i64 a0_1) := (blk_cell BK135.out 0).trans rfl
       have hcz21_1 : wc.cell? ⟨gb135, 1, none⟩ = some (.int .i64 a0_2) := (blk_cell BK135.out 1).trans rfl
       have hcz21_2 : wc.cell? ⟨gb135, 2, none⟩ = some (.int .i64 a0_3) := (blk_cell BK135.out 2).trans rfl
       have hcz21_3 : wc.cell? ⟨gb135, 3, none⟩ = some (.int .i64 a0_4) := (blk_cell BK135.out 3).trans rfl
       have hfz21_0 := blk_frozen BK135.out 0
       have hfz21_1 := blk_frozen BK135.out 1
       have hfz21_2 := blk_frozen BK135.out 2
       have hfz21_3 := blk_frozen BK135.out 3
       go_wp2
       go_meet
       case rel => exact ⟨_, (false), (by first | rfl | (simp; done) | (simp [*]; done)), H', ⟨by have := HJ1.out; first | omega | exact Nat.le_refl _⟩, ⟨by (with_reducible repeat (first | refine blk_drewN ?_ _ | refine blk_drew ?_ | refine blk_alloc ?_ _)); exact BK134.out⟩, ⟨by (with_reducible repeat (first | refine blk_drewN ?_ _ | refine blk_drew ?_ | refine blk_alloc ?_ _)); exact BK135.out⟩, ⟨by repeat (first | (with_reducible first | exact HB.out | apply below_alloc | apply pw_below_drewN | apply below_drew1 | refine below_set ?_ GE134.out | refine below_set ?_ GE135.out) | exact HB.out)⟩⟩
     ·rw [if_neg c16] at H
      have c16b0 : (a0_2 == 0) = false := beq_eq_false_iff_ne.mpr c16
      have c16b1 : (a0_2 != 0) = true := bne_iff_ne.mpr c16
      (first | rw [c16b0] | (simp only [i64_w, i32_w]; rw [c16b0]) | skip)
      have H' := Aside0.mk H
      clear H
      have hnb22 := NB135_134.out
      have hnc22 := NB134_135.out
      have hcz23_0 : wc.cell? ⟨gb135, 0, none⟩ = some (.int .i64 a0_1) := (blk_cell BK135.out 0).trans rfl
      have hcz23_1 : wc.cell? ⟨gb135, 1, none⟩ = some (.int .i64 a0_2) := (blk_cell BK135.out 1).trans rfl
      have hcz23_2 : wc.cell? ⟨gb135, 2, none⟩ = some (.int .i64 a0_3) := (blk_cell BK135.out 2).trans rfl
      have hcz23_3 : wc.cell? ⟨gb135, 3, none⟩ = some (.int .i64 a0_4) := (blk_cell BK135.out 3).trans rfl
      have hfz23_0 := blk_frozen BK135.out 0
      have hfz23_1 := blk_frozen BK135.out 1
      have hfz23_2 := blk_frozen BK135.out 2
      have hfz23_3 := blk_frozen BK135.out 3
      go_wp2
      go_meet
      case rel => exact ⟨_, (false), (by first | rfl | (simp; done) | (simp [*]; done)), H', ⟨by have := HJ1.out; first | omega | exact Nat.le_refl _⟩, ⟨by (with_reducible repeat (first | refine blk_drewN ?_ _ | refine blk_drew ?_ | refine blk_alloc ?_ _)); exact BK134.out⟩, ⟨by (with_reducible repeat (first | refine blk_drewN ?_ _ | refine blk_drew ?_ | refine blk_alloc ?_ _)); exact BK135.out⟩, ⟨by repeat (first | (with_reducible first | exact HB.out | apply below_alloc | apply pw_below_drewN | apply below_drew1 | refine below_set ?_ GE134.out | refine below_set ?_ GE135.out) | exact HB.out)⟩⟩
    ·replace c15 := Bool.eq_false_iff.mpr c15
     subst c15
     have H1 : (variorumref09_Right.j1 kj1 false a0_0 a0_1 a0_2 a0_3 a0_4 a0_5 a0_6 a0_7 a0_8 a0_1 a0_2 a0_3 a0_4) = some r := by rw [if_neg (show ¬ (false = true) by decide)] at H; exact H
     clear H
     have H := H1
     clear H1
     have H' := Aside0.mk H
     clear H
     go_wp2
     go_meet
     case rel => exact ⟨_, (false), (by first | rfl | (simp; done) | (simp [*]; done)), H', ⟨by have := HJ1.out; first | omega | exact Nat.le_refl _⟩, ⟨by (with_reducible repeat (first | refine blk_drewN ?_ _ | refine blk_drew ?_ | refine blk_alloc ?_ _)); exact BK134.out⟩, ⟨by (with_reducible repeat (first | refine blk_drewN ?_ _ | refine blk_drew ?_ | refine blk_alloc ?_ _)); exact BK135.out⟩, ⟨by repeat (first | (with_reducible first | exact HB.out | apply below_alloc | apply pw_below_drewN | apply below_drew1 | refine below_set ?_ GE134.out | refine below_set ?_ GE135.out) | exact HB.out)⟩⟩
   case rest =>
    clear HC14
    try clear c1
    try clear c2
    try clear p2
    try clear c6
    try clear c8
    try clear c8b0
    try clear c10
    try clear c12
    try clear c15
    try clear c16
    try clear c16b0
    try clear c16b1
    try clear c17
    try clear c17b0
    try clear c17b1
    try clear c18
    try clear c20
    try clear c22
    try clear c23
    try clear hcz11_0
    try clear hcz11_1
    try clear hcz11_2
    try clear hcz11_3
    try clear hcz13_0
    try clear hcz13_1
    try clear hcz13_2
    try clear hcz13_3
    try clear hcz19_0
    try clear hcz19_1
    try clear hcz19_2
    try clear hcz19_3
    try clear hcz21_0
    try clear hcz21_1
    try clear hcz21_2
    try clear hcz21_3
    try clear hcz23_0
    try clear hcz23_1
    try clear hcz23_2
    try clear hcz23_3
    try clear hcz4_0
    try clear hcz4_1
    try clear hcz4_2
    try clear hcz4_3
    try clear hcz4_4
    try clear hcz4_5
    try clear hcz4_6
    try clear hcz4_7
    try clear hcz4_8
    try clear hcz7_0
    try clear hcz7_1
    try clear hcz7_2
    try clear hcz7_3
    try clear hfz11_0
    try clear hfz11_1
    try clear hfz11_2
    try clear hfz11_3
    try clear hfz13_0
    try clear hfz13_1
    try clear hfz13_2
    try clear hfz13_3
    try clear hfz19_0
    try clear hfz19_1
    try clear hfz19_2
    try clear hfz19_3
    try clear hfz21_0
    try clear hfz21_1
    try clear hfz21_2
    try clear hfz21_3
    try clear hfz23_0
    try clear hfz23_1
    try clear hfz23_2
    try clear hfz23_3
    try clear hfz4_0
    try clear hfz4_1
    try clear hfz4_2
    try clear hfz4_3
    try clear hfz4_4
    try clear hfz4_5
    try clear hfz4_6
    try clear hfz4_7
    try clear hfz4_8
    try clear hfz7_0
    try clear hfz7_1
    try clear hfz7_2
    try clear hfz7_3
    try clear p2
    obtain ⟨kq, x5_13, rfl, HA, HJ13, BK134, BK135, HB⟩ := hcut
    cases kq with
    | zero => exact absurd HA.out (by simp [variorumref09_Right.j1])
    | succ kj13 =>
     have H := HA.out
     clear HA
     simp only [variorumref09_Right.j1] at H
     by_cases c24 : a0_0 = 0
     ·rw [if_pos c24] at H
      have c24b0 : (a0_0 == 0) = true := beq_iff_eq.mpr c24
      have c24b1 : (a0_0 != 0) = false := bne_eq_false_iff_eq.mpr c24
      clear c24
      by_cases c25 : x5_13 = true
      ·subst c25
       have H1 : (if a0_5 = 0 then (if a0_6 = true then (some false) else (if a0_7 ≥ 0 then (some (decide (a0_8 ≥ 0))) else (some false))) else (some false)) = some r := by rw [if_pos rfl] at H; exact H
       clear H
       have H := H1
       clear H1
       by_cases c26 : a0_5 = 0
       ·rw [if_pos c26] at H
        have c26b0 : (a0_5 == 0) = true := beq_iff_eq.mpr c26
        have c26b1 : (a0_5 != 0) = false := bne_eq_false_iff_eq.mpr c26
        clear c26
        by_cases c27 : a0_6 = true
        ·subst c27
         have H1 : (some false) = some r := by rw [if_pos rfl] at H; exact H
         clear H
         have H := H1
         clear H1
         obtain rfl := Option.some.inj H
         have hnb28 := NB134_135.out
         have hnc28 := NB135_134.out
         have hcz29_0 : wc.cell? ⟨gb134, 0, none⟩ = some (.int .i64 a0_0) := (blk_cell BK134.out 0).trans rfl
         have hcz29_1 : wc.cell? ⟨gb134, 1, none⟩ = some (.int .i64 a0_1) := (blk_cell BK134.out 1).trans rfl
         have hcz29_2 : wc.cell? ⟨gb134, 2, none⟩ = some (.int .i64 a0_2) := (blk_cell BK134.out 2).trans rfl
         have hcz29_3 : wc.cell? ⟨gb134, 3, none⟩ = some (.int .i64 a0_3) := (blk_cell BK134.out 3).trans rfl
         have hcz29_4 : wc.cell? ⟨gb134, 4, none⟩ = some (.int .i64 a0_4) := (blk_cell BK134.out 4).trans rfl
         have hcz29_5 : wc.cell? ⟨gb134, 5, none⟩ = some (.int .i64 a0_5) := (blk_cell BK134.out 5).trans rfl
         have hcz29_6 : wc.cell? ⟨gb134, 6, none⟩ = some (.bool true) := (blk_cell BK134.out 6).trans rfl
         have hcz29_7 : wc.cell? ⟨gb134, 7, none⟩ = some (.int .i64 a0_7) := (blk_cell BK134.out 7).trans rfl
         have hcz29_8 : wc.cell? ⟨gb134, 8, none⟩ = some (.int .i64 a0_8) := (blk_cell BK134.out 8).trans rfl
         have hfz29_0 := blk_frozen BK134.out 0
         have hfz29_1 := blk_frozen BK134.out 1
         have hfz29_2 := blk_frozen BK134.out 2
         have hfz29_3 := blk_frozen BK134.out 3
         have hfz29_4 := blk_frozen BK134.out 4
         have hfz29_5 := blk_frozen BK134.out 5
         have hfz29_6 := blk_frozen BK134.out 6
         have hfz29_7 := blk_frozen BK134.out 7
         have hfz29_8 := blk_frozen BK134.out 8
         go_wp2
         go_ret
         exact ⟨by first | rfl | (simp [errW_none, errW_some] <;> rfl) | (simp [*, errW_none, errW_some] <;> rfl), by repeat (first | (with_reducible first | exact HB.out | apply below_alloc | apply pw_below_drewN | apply below_drew1 | refine below_set ?_ GE134.out | refine below_set ?_ GE135.out) | exact HB.out)⟩
        ·replace c27 := Bool.eq_false_iff.mpr c27
         subst c27
         have H1 : (if a0_7 ≥ 0 then (some (decide (a0_8 ≥ 0))) else (some false)) = some r := by rw [if_neg (show ¬ (false = true) by decide)] at H; exact H
         clear H
         have H := H1
         clear H1
         by_cases c30 : a0_7 ≥ 0
         ·rw [if_pos c30] at H
          have c30b0 : decide (0 ≤ a0_7) = true := decide_eq_true c30
          clear c30
          obtain rfl := Option.some.inj H
          have hnb31 := NB134_135.out
          have hnc31 := NB135_134.out
          have hcz32_0 : wc.cell? ⟨gb134, 0, none⟩ = some (.int .i64 a0_0) := (blk_cell BK134.out 0).trans rfl
          have hcz32_1 : wc.cell? ⟨gb134, 1, none⟩ = some (.int .i64 a0_1) := (blk_cell BK134.out 1).trans rfl
          have hcz32_2 : wc.cell? ⟨gb134, 2, none⟩ = some (.int .i64 a0_2) := (blk_cell BK134.out 2).trans rfl
          have hcz32_3 : wc.cell? ⟨gb134, 3, none⟩ = some (.int .i64 a0_3) := (blk_cell BK134.out 3).trans rfl
          have hcz32_4 : wc.cell? ⟨gb134, 4, none⟩ = some (.int .i64 a0_4) := (blk_cell BK134.out 4).trans rfl
          have hcz32_5 : wc.cell? ⟨gb134, 5, none⟩ = some (.int .i64 a0_5) := (blk_cell BK134.out 5).trans rfl
          have hcz32_6 : wc.cell? ⟨gb134, 6, none⟩ = some (.bool false) := (blk_cell BK134.out 6).trans rfl
          have hcz32_7 : wc.cell? ⟨gb134, 7, none⟩ = some (.int .i64 a0_7) := (blk_cell BK134.out 7).trans rfl
          have hcz32_8 : wc.cell? ⟨gb134, 8, none⟩ = some (.int .i64 a0_8) := (blk_cell BK134.out 8).trans rfl
          have hfz32_0 := blk_frozen BK134.out 0
          have hfz32_1 := blk_frozen BK134.out 1
          have hfz32_2 := blk_frozen BK134.out 2
          have hfz32_3 := blk_frozen BK134.out 3
          have hfz32_4 := blk_frozen BK134.out 4
          have hfz32_5 := blk_frozen BK134.out 5
          have hfz32_6 := blk_frozen BK134.out 6
          have hfz32_7 := blk_frozen BK134.out 7
          have hfz32_8 := blk_frozen BK134.out 8
          go_wp2
          go_ret
          exact ⟨by first | rfl | (simp [errW_none, errW_some] <;> rfl) | (simp [*, errW_none, errW_some] <;> rfl), by repeat (first | (with_reducible first | exact HB.out | apply below_alloc | apply pw_below_drewN | apply below_drew1 | refine below_set ?_ GE134.out | refine below_set ?_ GE135.out) | exact HB.out)⟩
         ·rw [if_neg c30] at H
          have c30b0 : decide (0 ≤ a0_7) = false := decide_eq_false c30
          clear c30
          obtain rfl := Option.some.inj H
          have hnb33 := NB134_135.out
          have hnc33 := NB135_134.out
          have hcz34_0 : wc.cell? ⟨gb134, 0, none⟩ = some (.int .i64 a0_0) := (blk_cell BK134.out 0).trans rfl
          have hcz34_1 : wc.cell? ⟨gb134, 1, none⟩ = some (.int .i64 a0_1) := (blk_cell BK134.out 1).trans rfl
          have hcz34_2 : wc.cell? ⟨gb134, 2, none⟩ = some (.int .i64 a0_2) := (blk_cell BK134.out 2).trans rfl
          have hcz34_3 : wc.cell? ⟨gb134, 3, none⟩ = some (.int .i64 a0_3) := (blk_cell BK134.out 3).trans rfl
          have hcz34_4 : wc.cell? ⟨gb134, 4, none⟩ = some (.int .i64 a0_4) := (blk_cell BK134.out 4).trans rfl
          have hcz34_5 : wc.cell? ⟨gb134, 5, none⟩ = some (.int .i64 a0_5) := (blk_cell BK134.out 5).trans rfl
          have hcz34_6 : wc.cell? ⟨gb134, 6, none⟩ = some (.bool false) := (blk_cell BK134.out 6).trans rfl
          have hcz34_7 : wc.cell? ⟨gb134, 7, none⟩ = some (.int .i64 a0_7) := (blk_cell BK134.out 7).trans rfl
          have hcz34_8 : wc.cell? ⟨gb134, 8, none⟩ = some (.int .i64 a0_8) := (blk_cell BK134.out 8).trans rfl
          have hfz34_0 := blk_frozen BK134.out 0
          have hfz34_1 := blk_frozen BK134.out 1
          have hfz34_2 := blk_frozen BK134.out 2
          have hfz34_3 := blk_frozen BK134.out 3
          have hfz34_4 := blk_frozen BK134.out 4
          have hfz34_5 := blk_frozen BK134.out 5
          have hfz34_6 := blk_frozen BK134.out 6
          have hfz34_7 := blk_frozen BK134.out 7
          have hfz34_8 := blk_frozen BK134.out 8
          go_wp2
          go_ret
          exact ⟨by first | rfl | (simp [errW_none, errW_some] <;> rfl) | (simp [*, errW_none, errW_some] <;> rfl), by repeat (first | (with_reducible first | exact HB.out | apply below_alloc | apply pw_below_drewN | apply below_drew1 | refine below_set ?_ GE134.out | refine below_set ?_ GE135.out) | exact HB.out)⟩
       ·rw [if_neg c26] at H
        have c26b0 : (a0_5 == 0) = false := beq_eq_false_iff_ne.mpr c26
        have c26b1 : (a0_5 != 0) = true := bne_iff_ne.mpr c26
        obtain rfl := Option.some.inj H
        have hnb35 := NB134_135.out
        have hnc35 := NB135_134.out
        have hcz36_0 : wc.cell? ⟨gb134, 0, none⟩ = some (.int .i64 a0_0) := (blk_cell BK134.out 0).trans rfl
        have hcz36_1 : wc.cell? ⟨gb134, 1, none⟩ = some (.int .i64 a0_1) := (blk_cell BK134.out 1).trans rfl
        have hcz36_2 : wc.cell? ⟨gb134, 2, none⟩ = some (.int .i64 a0_2) := (blk_cell BK134.out 2).trans rfl
        have hcz36_3 : wc.cell? ⟨gb134, 3, none⟩ = some (.int .i64 a0_3) := (blk_cell BK134.out 3).trans rfl
        have hcz36_4 : wc.cell? ⟨gb134, 4, none⟩ = some (.int .i64 a0_4) := (blk_cell BK134.out 4).trans rfl
        have hcz36_5 : wc.cell? ⟨gb134, 5, none⟩ = some (.int .i64 a0_5) := (blk_cell BK134.out 5).trans rfl
        have hcz36_6 : wc.cell? ⟨gb134, 6, none⟩ = some (.bool a0_6) := (blk_cell BK134.out 6).trans rfl
        have hcz36_7 : wc.cell? ⟨gb134, 7, none⟩ = some (.int .i64 a0_7) := (blk_cell BK134.out 7).trans rfl
        have hcz36_8 : wc.cell? ⟨gb134, 8, none⟩ = some (.int .i64 a0_8) := (blk_cell BK134.out 8).trans rfl
        have hfz36_0 := blk_frozen BK134.out 0
        have hfz36_1 := blk_frozen BK134.out 1
        have hfz36_2 := blk_frozen BK134.out 2
        have hfz36_3 := blk_frozen BK134.out 3
        have hfz36_4 := blk_frozen BK134.out 4
        have hfz36_5 := blk_frozen BK134.out 5
        have hfz36_6 := blk_frozen BK134.out 6
        have hfz36_7 := blk_frozen BK134.out 7
        have hfz36_8 := blk_frozen BK134.out 8
        go_wp2
        go_ret
        exact ⟨by first | rfl | (simp [errW_none, errW_some] <;> rfl) | (simp [*, errW_none, errW_some] <;> rfl), by repeat (first | (with_reducible first | exact HB.out | apply below_alloc | apply pw_below_drewN | apply below_drew1 | refine below_set ?_ GE134.out | refine below_set ?_ GE135.out) | exact HB.out)⟩
      ·replace c25 := Bool.eq_false_iff.mpr c25
       subst c25
       have H1 : (some false) = some r := by rw [if_neg (show ¬ (false = true) by decide)] at H; exact H
       clear H
       have H := H1
       clear H1
       obtain rfl := Option.some.inj H
       have hnb37 := NB134_135.out
       have hnc37 := NB135_134.out
       have hcz38_0 : wc.cell? ⟨gb134, 0, none⟩ = some (.int .i64 a0_0) := (blk_cell BK134.out 0).trans rfl
       have hcz38_1 : wc.cell? ⟨gb134, 1, none⟩ = some (.int .i64 a0_1) := (blk_cell BK134.out 1).trans rfl
       have hcz38_2 : wc.cell? ⟨gb134, 2, none⟩ = some (.int .i64 a0_2) := (blk_cell BK134.out 2).trans rfl
       have hcz38_3 : wc.cell? ⟨gb134, 3, none⟩ = some (.int .i64 a0_3) := (blk_cell BK134.out 3).trans rfl
       have hcz38_4 : wc.cell? ⟨gb134, 4, none⟩ = some (.int .i64 a0_4) := (blk_cell BK134.out 4).trans rfl
       have hcz38_5 : wc.cell? ⟨gb134, 5, none⟩ = some (.int .i64 a0_5) := (blk_cell BK134.out 5).trans rfl
       have hcz38_6 : wc.cell? ⟨gb134, 6, none⟩ = some (.bool a0_6) := (blk_cell BK134.out 6).trans rfl
       have hcz38_7 : wc.cell? ⟨gb134, 7, none⟩ = some (.int .i64 a0_7) := (blk_cell BK134.out 7).trans rfl
       have hcz38_8 : wc.cell? ⟨gb134, 8, none⟩ = some (.int .i64 a0_8) := (blk_cell BK134.out 8).trans rfl
       have hfz38_0 := blk_frozen BK134.out 0
       have hfz38_1 := blk_frozen BK134.out 1
       have hfz38_2 := blk_frozen BK134.out 2
       have hfz38_3 := blk_frozen BK134.out 3
       have hfz38_4 := blk_frozen BK134.out 4
       have hfz38_5 := blk_frozen BK134.out 5
       have hfz38_6 := blk_frozen BK134.out 6
       have hfz38_7 := blk_frozen BK134.out 7
       have hfz38_8 := blk_frozen BK134.out 8
       go_wp2
       go_ret
       exact ⟨by first | rfl | (simp [errW_none, errW_some] <;> rfl) | (simp [*, errW_none, errW_some] <;> rfl), by repeat (first | (with_reducible first | exact HB.out | apply below_alloc | apply pw_below_drewN | apply below_drew1 | refine below_set ?_ GE134.out | refine below_set ?_ GE135.out) | exact HB.out)⟩
     ·rw [if_neg c24] at H
      have c24b0 : (a0_0 == 0) = false := beq_eq_false_iff_ne.mpr c24
      have c24b1 : (a0_0 != 0) = true := bne_iff_ne.mpr c24
      have HC39 := Aside0.mk H
      clear H
      have hnb40 := NB134_135.out
      have hnc40 := NB135_134.out
      have hcz41_0 : wc.cell? ⟨gb134, 0, none⟩ = some (.int .i64 a0_0) := (blk_cell BK134.out 0).trans rfl
      have hcz41_1 : wc.cell? ⟨gb134, 1, none⟩ = some (.int .i64 a0_1) := (blk_cell BK134.out 1).trans rfl
      have hcz41_2 : wc.cell? ⟨gb134, 2, none⟩ = some (.int .i64 a0_2) := (blk_cell BK134.out 2).trans rfl
      have hcz41_3 : wc.cell? ⟨gb134, 3, none⟩ = some (.int .i64 a0_3) := (blk_cell BK134.out 3).trans rfl
      have hcz41_4 : wc.cell? ⟨gb134, 4, none⟩ = some (.int .i64 a0_4) := (blk_cell BK134.out 4).trans rfl
      have hcz41_5 : wc.cell? ⟨gb134, 5, none⟩ = some (.int .i64 a0_5) := (blk_cell BK134.out 5).trans rfl
      have hcz41_6 : wc.cell? ⟨gb134, 6, none⟩ = some (.bool a0_6) := (blk_cell BK134.out 6).trans rfl
      have hcz41_7 : wc.cell? ⟨gb134, 7, none⟩ = some (.int .i64 a0_7) := (blk_cell BK134.out 7).trans rfl
      have hcz41_8 : wc.cell? ⟨gb134, 8, none⟩ = some (.int .i64 a0_8) := (blk_cell BK134.out 8).trans rfl
      have hfz41_0 := blk_frozen BK134.out 0
      have hfz41_1 := blk_frozen BK134.out 1
      have hfz41_2 := blk_frozen BK134.out 2
      have hfz41_3 := blk_frozen BK134.out 3
      have hfz41_4 := blk_frozen BK134.out 4
      have hfz41_5 := blk_frozen BK134.out 5
      have hfz41_6 := blk_frozen BK134.out 6
      have hfz41_7 := blk_frozen BK134.out 7
      have hfz41_8 := blk_frozen BK134.out 8
      go_upto_region 6 with (fail)
      go_cut [63] (fun v63 wc => ∃ (kq : Nat) (x63_38 : Bool), v63 = .bool x63_38 ∧ Aside0 (variorumref09_Right.j2 kq x5_13 x63_38 a0_0 a0_1 a0_2 a0_3 a0_4 a0_5 a0_6 a0_7 a0_8 a0_1 a0_2 a0_3 a0_4 = some r) ∧ Aside0 (kq ≤ kj13) ∧ Aside0 (wc.heap[gb134]? = some (.cells #[.int .i64 a0_0, .int .i64 a0_1, .int .i64 a0_2, .int .i64 a0_3, .int .i64 a0_4, .int .i64 a0_5, .bool a0_6, .int .i64 a0_7, .int .i64 a0_8] 45 (0, 0))) ∧ Aside0 (wc.heap[gb135]? = some (.cells #[.int .i64 a0_1, .int .i64 a0_2, .int .i64 a0_3, .int .i64 a0_4] 23 (0, 0))) ∧ Aside0 (Below w.heap.size w wc))
      case first =>
       have H := HC39.out
       clear HC39
       by_cases c42 : a0_7 = 0
       ·rw [if_pos c42] at H
        have c42b0 : (a0_7 == 0) = true := beq_iff_eq.mpr c42
        have c42b1 : (a0_7 != 0) = false := bne_eq_false_iff_eq.mpr c42
        clear c42
        (first | rw [c42b0] | (simp only [i64_w, i32_w]; rw [c42b0]) | skip)
        have H' := Aside0.mk H
        clear H
        have hnb43 := NB134_135.out
        have hnc43 := NB135_134.out
        have hcz44_0 : wc.cell? ⟨gb134, 0, none⟩ = some (.int .i64 a0_0) := (blk_cell BK134.out 0).trans rfl
        have hcz44_1 : wc.cell? ⟨gb134, 1, none⟩ = some (.int .i64 a0_1) := (blk_cell BK134.out 1).trans rfl
        have hcz44_2 : wc.cell? ⟨gb134, 2, none⟩ = some (.int .i64 a0_2) := (blk_cell BK134.out 2).trans rfl
        have hcz44_3 : wc.cell? ⟨gb134, 3, none⟩ = some (.int .i64 a0_3) := (blk_cell BK134.out 3).trans rfl
        have hcz44_4 : wc.cell? ⟨gb134, 4, none⟩ = some (.int .i64 a0_4) := (blk_cell BK134.out 4).trans rfl
        have hcz44_5 : wc.cell? ⟨gb134, 5, none⟩ = some (.int .i64 a0_5) := (blk_cell BK134.out 5).trans rfl
        have hcz44_6 : wc.cell? ⟨gb134, 6, none⟩ = some (.bool a0_6) := (blk_cell BK134.out 6).trans rfl
        have hcz44_7 : wc.cell? ⟨gb134, 7, none⟩ = some (.int .i64 a0_7) := (blk_cell BK134.out 7).trans rfl
        have hcz44_8 : wc.cell? ⟨gb134, 8, none⟩ = some (.int .i64 a0_8) := (blk_cell BK134.out 8).trans rfl
        have hfz44_0 := blk_frozen BK134.out 0
        have hfz44_1 := blk_frozen BK134.out 1
        have hfz44_2 := blk_frozen BK134.out 2
        have hfz44_3 := blk_frozen BK134.out 3
        have hfz44_4 := blk_frozen BK134.out 4
        have hfz44_5 := blk_frozen BK134.out 5
        have hfz44_6 := blk_frozen BK134.out 6
        have hfz44_7 := blk_frozen BK134.out 7
        have hfz44_8 := blk_frozen BK134.out 8
        go_wp2
        go_meet
        case rel => exact ⟨_, ((a0_8 != 0)), (by first | rfl | (simp; done) | (simp [*]; done)), H', ⟨by have := HJ1.out; have := HJ13.out; first | omega | exact Nat.le_refl _⟩, ⟨by (with_reducible repeat (first | refine blk_drewN ?_ _ | refine blk_drew ?_ | refine blk_alloc ?_ _)); exact BK134.out⟩, ⟨by (with_reducible repeat (first | refine blk_drewN ?_ _ | refine blk_drew ?_ | refine blk_alloc ?_ _)); exact BK135.out⟩, ⟨by repeat (first | (with_reducible first | exact HB.out | apply below_alloc | apply pw_below_drewN | apply below_drew1 | refine below_set ?_ GE134.out | refine below_set ?_ GE135.out) | exact HB.out)⟩⟩
       ·rw [if_neg c42] at H
        have c42b0 : (a0_7 == 0) = false := beq_eq_false_iff_ne.mpr c42
        have c42b1 : (a0_7 != 0) = true := bne_iff_ne.mpr c42
        (first | rw [c42b0] | (simp only [i64_w, i32_w]; rw [c42b0]) | skip)
        have H' := Aside0.mk H
        clear H
        have hnb45 := NB134_135.out
        have hnc45 := NB135_134.out
        have hcz46_0 : wc.cell? ⟨gb134, 0, none⟩ = some (.int .i64 a0_0) := (blk_cell BK134.out 0).trans rfl
        have hcz46_1 : wc.cell? ⟨gb134, 1, none⟩ = some (.int .i64 a0_1) := (blk_cell BK134.out 1).trans rfl
        have hcz46_2 : wc.cell? ⟨gb134, 2, none⟩ = some (.int .i64 a0_2) := (blk_cell BK134.out 2).trans rfl
        have hcz46_3 : wc.cell? ⟨gb134, 3, none⟩ = some (.int .i64 a0_3) := (blk_cell BK134.out 3).trans rfl
        have hcz46_4 : wc.cell? ⟨gb134, 4, none⟩ = some (.int .i64 a0_4) := (blk_cell BK134.out 4).trans rfl
        have hcz46_5 : wc.cell? ⟨gb134, 5, none⟩ = some (.int .i64 a0_5) := (blk_cell BK134.out 5).trans rfl
        have hcz46_6 : wc.cell? ⟨gb134, 6, none⟩ = some (.bool a0_6) := (blk_cell BK134.out 6).trans rfl
        have hcz46_7 : wc.cell? ⟨gb134, 7, none⟩ = some (.int .i64 a0_7) := (blk_cell BK134.out 7).trans rfl
        have hcz46_8 : wc.cell? ⟨gb134, 8, none⟩ = some (.int .i64 a0_8) := (blk_cell BK134.out 8).trans rfl
        have hfz46_0 := blk_frozen BK134.out 0
        have hfz46_1 := blk_frozen BK134.out 1
        have hfz46_2 := blk_frozen BK134.out 2
        have hfz46_3 := blk_frozen BK134.out 3
        have hfz46_4 := blk_frozen BK134.out 4
        have hfz46_5 := blk_frozen BK134.out 5
        have hfz46_6 := blk_frozen BK134.out 6
        have hfz46_7 := blk_frozen BK134.out 7
        have hfz46_8 := blk_frozen BK134.out 8
        go_wp2
        go_meet
        case rel => exact ⟨_, (true), (by first | rfl | (simp; done) | (simp [*]; done)), H', ⟨by have := HJ1.out; have := HJ13.out; first | omega | exact Nat.le_refl _⟩, ⟨by (with_reducible repeat (first | refine blk_drewN ?_ _ | refine blk_drew ?_ | refine blk_alloc ?_ _)); exact BK134.out⟩, ⟨by (with_reducible repeat (first | refine blk_drewN ?_ _ | refine blk_drew ?_ | refine blk_alloc ?_ _)); exact BK135.out⟩, ⟨by repeat (first | (with_reducible first | exact HB.out | apply below_alloc | apply pw_below_drewN | apply below_drew1 | refine below_set ?_ GE134.out | refine below_set ?_ GE135.out) | exact HB.out)⟩⟩
      case rest =>
       clear HC39
       try clear c1
       try clear c2
       try clear p2
       try clear c3
       try clear c4
       try clear c6
       try clear c8
       try clear c8b0
       try clear c10
       try clear c12
       try clear c15
       try clear c16
       try clear c16b0
       try clear c16b1
       try clear c17
       try clear c17b0
       try clear c17b1
       try clear c18
       try clear c20
       try clear c22
       try clear c23
       try clear c24
       try clear c24b0
       try clear c24b1
       try clear c25
       try clear c26
       try clear c26b0
       try clear c26b1
       try clear c27
       try clear c28
       try clear c30
       try clear c30b0
       try clear c31
       try clear c33
       try clear c35
       try clear c37
       try clear c40
       try clear c42
       try clear c42b0
       try clear c42b1
       try clear c43
       try clear c45
       try clear hcz11_0
       try clear hcz11_1
       try clear hcz11_2
       try clear hcz11_3
       try clear hcz13_0
       try clear hcz13_1
       try clear hcz13_2
       try clear hcz13_3
       try clear hcz19_0
       try clear hcz19_1
       try clear hcz19_2
       try clear hcz19_3
       try clear hcz21_0
       try clear hcz21_1
       try clear hcz21_2
       try clear hcz21_3
       try clear hcz23_0
       try clear hcz23_1
       try clear hcz23_2
       try clear hcz23_3
       try clear hcz29_0
       try clear hcz29_1
       try clear hcz29_2
       try clear hcz29_3
       try clear hcz29_4
       try clear hcz29_5
       try clear hcz29_6
       try clear hcz29_7
       try clear hcz29_8
       try clear hcz32_0
       try clear hcz32_1
       try clear hcz32_2
       try clear hcz32_3
       try clear hcz32_4
       try clear hcz32_5
       try clear hcz32_6
       try clear hcz32_7
       try clear hcz32_8
       try clear hcz34_0
       try clear hcz34_1
       try clear hcz34_2
       try clear hcz34_3
       try clear hcz34_4
       try clear hcz34_5
       try clear hcz34_6
       try clear hcz34_7
       try clear hcz34_8
       try clear hcz36_0
       try clear hcz36_1
       try clear hcz36_2
       try clear hcz36_3
       try clear hcz36_4
       try clear hcz36_5
       try clear hcz36_6
       try clear hcz36_7
       try clear hcz36_8
       try clear hcz38_0
       try clear hcz38_1
       try clear hcz38_2
       try clear hcz38_3
       try clear hcz38_4
       try clear hcz38_5
       try clear hcz38_6
       try clear hcz38_7
       try clear hcz38_8
       try clear hcz41_0
       try clear hcz41_1
       try clear hcz41_2
       try clear hcz41_3
       try clear hcz41_4
       try clear hcz41_5
       try clear hcz41_6
       try clear hcz41_7
       try clear hcz41_8
       try clear hcz44_0
       try clear hcz44_1
       try clear hcz44_2
       try clear hcz44_3
       try clear hcz44_4
       try clear hcz44_5
       try clear hcz44_6
       try clear hcz44_7
       try clear hcz44_8
       try clear hcz46_0
       try clear hcz46_1
       try clear hcz46_2
       try clear hcz46_3
       try clear hcz46_4
       try clear hcz46_5
       try clear hcz46_6
       try clear hcz46_7
       try clear hcz46_8
       try clear hcz4_0
       try clear hcz4_1
       try clear hcz4_2
       try clear hcz4_3
       try clear hcz4_4
       try clear hcz4_5
       try clear hcz4_6
       try clear hcz4_7
       try clear hcz4_8
       try clear hcz7_0
       try clear hcz7_1
       try clear hcz7_2
       try clear hcz7_3
       try clear hfz11_0
       try clear hfz11_1
       try clear hfz11_2
       try clear hfz11_3
       try clear hfz13_0
       try clear hfz13_1
       try clear hfz13_2
       try clear hfz13_3
       try clear hfz19_0
       try clear hfz19_1
       try clear hfz19_2
       try clear hfz19_3
       try clear hfz21_0
       try clear hfz21_1
       try clear hfz21_2
       try clear hfz21_3
       try clear hfz23_0
       try clear hfz23_1
       try clear hfz23_2
       try clear hfz23_3
       try clear hfz29_0
       try clear hfz29_1
       try clear hfz29_2
       try clear hfz29_3
       try clear hfz29_4
       try clear hfz29_5
       try clear hfz29_6
       try clear hfz29_7
       try clear hfz29_8
       try clear hfz32_0
       try clear hfz32_1
       try clear hfz32_2
       try clear hfz32_3
       try clear hfz32_4
       try clear hfz32_5
       try clear hfz32_6
       try clear hfz32_7
       try clear hfz32_8
       try clear hfz34_0
       try clear hfz34_1
       try clear hfz34_2
       try clear hfz34_3
       try clear hfz34_4
       try clear hfz34_5
       try clear hfz34_6
       try clear hfz34_7
       try clear hfz34_8
       try clear hfz36_0
       try clear hfz36_1
       try clear hfz36_2
       try clear hfz36_3
       try clear hfz36_4
       try clear hfz36_5
       try clear hfz36_6
       try clear hfz36_7
       try clear hfz36_8
       try clear hfz38_0
       try clear hfz38_1
       try clear hfz38_2
       try clear hfz38_3
       try clear hfz38_4
       try clear hfz38_5
       try clear hfz38_6
       try clear hfz38_7
       try clear hfz38_8
       try clear hfz41_0
       try clear hfz41_1
       try clear hfz41_2
       try clear hfz41_3
       try clear hfz41_4
       try clear hfz41_5
       try clear hfz41_6
       try clear hfz41_7
       try clear hfz41_8
       try clear hfz44_0
       try clear hfz44_1
       try clear hfz44_2
       try clear hfz44_3
       try clear hfz44_4
       try clear hfz44_5
       try clear hfz44_6
       try clear hfz44_7
       try clear hfz44_8
       try clear hfz46_0
       try clear hfz46_1
       try clear hfz46_2
       try clear hfz46_3
       try clear hfz46_4
       try clear hfz46_5
       try clear hfz46_6
       try clear hfz46_7
       try clear hfz46_8
       try clear hfz4_0
       try clear hfz4_1
       try clear hfz4_2
       try clear hfz4_3
       try clear hfz4_4
       try clear hfz4_5
       try clear hfz4_6
       try clear hfz4_7
       try clear hfz4_8
       try clear hfz7_0
       try clear hfz7_1
       try clear hfz7_2
       try clear hfz7_3
       try clear p2
       obtain ⟨kq, x63_38, rfl, HA, HJ38, BK134, BK135, HB⟩ := hcut
       cases kq with
       | zero => exact absurd HA.out (by simp [variorumref09_Right.j2])
       | succ kj38 =>
        have H := HA.out
        clear HA
        simp only [variorumref09_Right.j2] at H
        by_cases c47 : x63_38 = true
        ·subst c47
         have H1 : (some false) = some r := by rw [if_pos rfl] at H; exact H
         clear H
         have H := H1
         clear H1
         obtain rfl := Option.some.inj H
         go_wp2
         go_ret
         exact ⟨by first | rfl | (simp [errW_none, errW_some] <;> rfl) | (simp [*, errW_none, errW_some] <;> rfl), by repeat (first | (with_reducible first | exact HB.out | apply below_alloc | apply pw_below_drewN | apply below_drew1 | refine below_set ?_ GE134.out | refine below_set ?_ GE135.out) | exact HB.out)⟩
        ·replace c47 := Bool.eq_false_iff.mpr c47
         subst c47
         have H1 : (if a0_0 = 1 then ((variorumref03_May.f kj38 (([(⟨a0_1, a0_2, a0_3, a0_4⟩ : S23)] : List (S23)))).bind fun t140 => (if t140 = true then (if a0_1 ≥ a0_3 then (if a0_5 = 0 then (some (!a0_6)) else (some false)) else (some false)) else (some false))) else (if a0_0 = 2 then (if x5_13 = true then (if a0_5 ≥ (-10000) then (some (decide (a0_5 ≤ 10000))) else (some false)) else (some false)) else (some false))) = some r := by rw [if_neg (show ¬ (false = true) by decide)] at H; exact H
         clear H
         have H := H1
         clear H1
         by_cases c48 : a0_0 = 1
         ·rw [if_pos c48] at H
          have c48b0 : (a0_0 == 1) = true := beq_iff_eq.mpr c48
          have c48b1 : (a0_0 != 1) = false := bne_eq_false_iff_eq.mpr c48
          clear c48
          obtain ⟨y137, hy137⟩ : ∃ y_ : List (S23), y_ = (([(⟨a0_1, a0_2, a0_3, a0_4⟩ : S23)] : List (S23))) := ⟨_, rfl⟩
          replace H : ((variorumref03_May.f kj38 y137).bind fun t140 => (if t140 = true then (if a0_1 ≥ a0_3 then (if a0_5 = 0 then (some (!a0_6)) else (some false)) else (some false)) else (some false))) = some r := by first | (rw [hy137]; with_reducible exact H) | (have H2_ := (Option.bind_some _ _).symm.trans H; rw [hy137]; with_reducible exact H2_) | (have H2_ := (Option.bind_some _ _).symm.trans H; with_reducible exact H2_) | with_reducible exact H | (rw [hy137]; exact H) | exact H
          have Ny137 := Aside0.mk hy137
          clear hy137
          replace H := Option.bind_eq_some_iff.mp H
          obtain ⟨t140, A490, H⟩ := H
          replace H : (if t140 = true then (if a0_1 ≥ a0_3 then (if a0_5 = 0 then (some (!a0_6)) else (some false)) else (some false)) else (some false)) = some r := H
          have A49 := Aside0.mk A490
          clear A490
          by_cases c50 : t140 = true
          ·subst c50
           have H1 : (if a0_1 ≥ a0_3 then (if a0_5 = 0 then (some (!a0_6)) else (some false)) else (some false)) = some r := by rw [if_pos rfl] at H; exact H
           clear H
           have H := H1
           clear H1
           by_cases c51 : a0_1 ≥ a0_3
           ·rw [if_pos c51] at H
            have c51b0 : decide (a0_3 ≤ a0_1) = true := decide_eq_true c51
            clear c51
            by_cases c52 : a0_5 = 0
            ·rw [if_pos c52] at H
             have c52b0 : (a0_5 == 0) = true := beq_iff_eq.mpr c52
             have c52b1 : (a0_5 != 0) = false := bne_eq_false_iff_eq.mpr c52
             clear c52
             obtain rfl := Option.some.inj H
             have hnb53 := NB134_135.out
             have hnc53 := NB135_134.out
             have hcz54_0 : wc.cell? ⟨gb134, 0, none⟩ = some (.int .i64 a0_0) := (blk_cell BK134.out 0).trans rfl
             have hcz54_1 : wc.cell? ⟨gb134, 1, none⟩ = some (.int .i64 a0_1) := (blk_cell BK134.out 1).trans rfl
             have hcz54_2 : wc.cell? ⟨gb134, 2, none⟩ = some (.int .i64 a0_2) := (blk_cell BK134.out 2).trans rfl
             have hcz54_3 : wc.cell? ⟨gb134, 3, none⟩ = some (.int .i64 a0_3) := (blk_cell BK134.out 3).trans rfl
             have hcz54_4 : wc.cell? ⟨gb134, 4, none⟩ = some (.int .i64 a0_4) := (blk_cell BK134.out 4).trans rfl
             have hcz54_5 : wc.cell? ⟨gb134, 5, none⟩ = some (.int .i64 a0_5) := (blk_cell BK134.out 5).trans rfl
             have hcz54_6 : wc.cell? ⟨gb134, 6, none⟩ = some (.bool a0_6) := (blk_cell BK134.out 6).trans rfl
             have hcz54_7 : wc.cell? ⟨gb134, 7, none⟩ = some (.int .i64 a0_7) := (blk_cell BK134.out 7).trans rfl
             have hcz54_8 : wc.cell? ⟨gb134, 8, none⟩ = some (.int .i64 a0_8) := (blk_cell BK134.out 8).trans rfl
             have hfz54_0 := blk_frozen BK134.out 0
             have hfz54_1 := blk_frozen BK134.out 1
             have hfz54_2 := blk_frozen BK134.out 2
             have hfz54_3 := blk_frozen BK134.out 3
             have hfz54_4 := blk_frozen BK134.out 4
             have hfz54_5 := blk_frozen BK134.out 5
             have hfz54_6 := blk_frozen BK134.out 6
             have hfz54_7 := blk_frozen BK134.out 7
             have hfz54_8 := blk_frozen BK134.out 8
             have hcz55_0 : wc.cell? ⟨gb135, 0, none⟩ = some (.int .i64 a0_1) := (blk_cell BK135.out 0).trans rfl
             have hcz55_1 : wc.cell? ⟨gb135, 1, none⟩ = some (.int .i64 a0_2) := (blk_cell BK135.out 1).trans rfl
             have hcz55_2 : wc.cell? ⟨gb135, 2, none⟩ = some (.int .i64 a0_3) := (blk_cell BK135.out 2).trans rfl
             have hcz55_3 : wc.cell? ⟨gb135, 3, none⟩ = some (.int .i64 a0_4) := (blk_cell BK135.out 3).trans rfl
             have hfz55_0 := blk_frozen BK135.out 0
             have hfz55_1 := blk_frozen BK135.out 1
             have hfz55_2 := blk_frozen BK135.out 2
             have hfz55_3 := blk_frozen BK135.out 3
             go_wp2_with (first | ((with_reducible refine gate_dst (N := 68) rfl ?_); refine Kd.R_lit k23 _ 23 ?hg (N := 68) ?hd (xs := ([(⟨a0_1, a0_2, a0_3, a0_4⟩ : S23)] : List (S23))) (inner := [.int .i64 a0_1, .int .i64 a0_2, .int .i64 a0_3, .int .i64 a0_4]) (ok := fun _ => True) (okp := fun _ => True) ?hr ?hp (fun _ hk => hk) trivial (Below.refl _ _) (Nat.le_refl _) (by simp) ?_; (case hd => rfl); (case hg => rfl); (case hr => first | (go_simp; done) | (go_simp; rfl)); (case hp => exact (Reps.c4 (show Kd.M k23 _ _ _ (⟨a0_1, a0_2, a0_3, a0_4⟩ : S23) [.int .i64 a0_1, .int .i64 a0_2, .int .i64 a0_3, .int .i64 a0_4] from (k23_mkM _ _ _ (⟨a0_1, a0_2, a0_3, a0_4⟩ : S23) )) (Reps.none _ _))); intro v138 w56 ho57 hb hg_ hnew_; clear hg_ hnew_; (first | rw [← Ny137.out] at ho57 | (simp only [Int.reduceToNat] at ho57; rw [← Ny137.out] at ho57)); have n0_ := Aside0.mk (Kd.R_lower (Kd.R_newB ho57 (g := gb135) (o := .cells #[.int .i64 a0_1, .int .i64 a0_2, .int .i64 a0_3, .int .i64 a0_4] 23 (0, 0)) (by (with_reducible repeat (first | refine blk_drewN ?_ _ | refine blk_drew ?_ | refine blk_alloc ?_ _)); exact BK135.out)) (below_size (by repeat (first | (with_reducible first | exact HB.out | apply below_alloc | apply pw_below_drewN | apply below_drew1 | refine below_set ?_ GE134.out | refine below_set ?_ GE135.out) | exact HB.out)))); have n1_ := Aside0.mk (blk_below (g := gb134) (o := .cells #[.int .i64 a0_0, .int .i64 a0_1, .int .i64 a0_2, .int .i64 a0_3, .int .i64 a0_4, .int .i64 a0_5, .bool a0_6, .int .i64 a0_7, .int .i64 a0_8] 45 (0, 0)) (by (with_reducible repeat (first | refine blk_drewN ?_ _ | refine blk_drew ?_ | refine blk_alloc ?_ _)); exact BK134.out) hb); have n2_ := Aside0.mk (blk_below (g := gb135) (o := .cells #[.int .i64 a0_1, .int .i64 a0_2, .int .i64 a0_3, .int .i64 a0_4] 23 (0, 0)) (by (with_reducible repeat (first | refine blk_drewN ?_ _ | refine blk_drew ?_ | refine blk_alloc ?_ _)); exact BK135.out) hb); have n3_ := Aside0.mk (below_step (by repeat (first | (with_reducible first | exact HB.out | apply below_alloc | apply pw_below_drewN | apply below_drew1 | refine below_set ?_ GE134.out | refine below_set ?_ GE135.out) | exact HB.out)) hb); clear BK134; clear BK135; clear HB; have HO139 := n0_; have BK134 := n1_; have BK135 := n2_; have HB := n3_; clear n0_ n1_ n2_ n3_; clear hb ho57; obtain ⟨Ao58, co58, eo58⟩ := Kd.R_slice HO139.out; subst eo58) | ((with_reducible refine gate_callee (f := 24) rfl ?_); refine goesL_ (some 69) rfl rfl Try.func24 (by kernel_rfl) rfl #[.slice Ao58 y137.length co58] rfl (by (try simp only [List.map_toArray, List.map_cons, List.map_nil]); first | done | rfl | (simp only [List.length_drop, List.length_take]; rfl) | (simp only [*]; first | done | rfl)) ?_; (with_reducible refine (variorumref03_May.calls kj38 _ _ y137 true _ ?side1 ?side2 A49.out).mono ?_); (case side1 => repeat (first | exact (Kd.R_reads' HO139.out).2.2 | (with_reducible refine Kd.C_alloc ?_ _) | (with_reducible refine Kd.C_drewN ?_ _) | (with_reducible refine Kd.C_drew ?_))); (case side2 => exact (Kd.R_reads' HO139.out).2.1); rintro e w59 ⟨rfl, hb⟩; refine ⟨_, rfl, ?_⟩; have n0_ := Aside0.mk (Kd.R_below (by (with_reducible repeat (first | apply Kd.R_alloc | apply Kd.R_drewN | apply Kd.R_drew)); exact HO139.out) hb); have n1_ := Aside0.mk (blk_below (g := gb134) (o := .cells #[.int .i64 a0_0, .int .i64 a0_1, .int .i64 a0_2, .int .i64 a0_3, .int .i64 a0_4, .int .i64 a0_5, .bool a0_6, .int .i64 a0_7, .int .i64 a0_8] 45 (0, 0)) (by (with_reducible repeat (first | refine blk_drewN ?_ _ | refine blk_drew ?_ | refine blk_alloc ?_ _)); exact BK134.out) hb); have n2_ := Aside0.mk (blk_below (g := gb135) (o := .cells #[.int .i64 a0_1, .int .i64 a0_2, .int .i64 a0_3, .int .i64 a0_4] 23 (0, 0)) (by (with_reducible repeat (first | refine blk_drewN ?_ _ | refine blk_drew ?_ | refine blk_alloc ?_ _)); exact BK135.out) hb); have n3_ := Aside0.mk (below_step (by repeat (first | (with_reducible first | exact HB.out | apply below_alloc | apply pw_below_drewN | apply below_drew1 | refine below_set ?_ GE134.out | refine below_set ?_ GE135.out) | exact HB.out)) hb); clear HO139; clear BK134; clear BK135; clear HB; have HO139 := n0_; have BK134 := n1_; have BK135 := n2_; have HB := n3_; clear n0_ n1_ n2_ n3_; (try clear hb); (try clear hb2); (try clear hk); (try clear hi); have hcz60_0 : w59.cell? ⟨gb135, 0, none⟩ = some (.int .i64 a0_1) := (blk_cell BK135.out 0).trans rfl; have hcz60_1 : w59.cell? ⟨gb135, 1, none⟩ = some (.int .i64 a0_2) := (blk_cell BK135.out 1).trans rfl; have hcz60_2 : w59.cell? ⟨gb135, 2, none⟩ = some (.int .i64 a0_3) := (blk_cell BK135.out 2).trans rfl; have hcz60_3 : w59.cell? ⟨gb135, 3, none⟩ = some (.int .i64 a0_4) := (blk_cell BK135.out 3).trans rfl; have hfz60_0 := blk_frozen BK135.out 0; have hfz60_1 := blk_frozen BK135.out 1; have hfz60_2 := blk_frozen BK135.out 2; have hfz60_3 := blk_frozen BK135.out 3; have hcz61_0 : w59.cell? ⟨gb134, 0, none⟩ = some (.int .i64 a0_0) := (blk_cell BK134.out 0).trans rfl; have hcz61_1 : w59.cell? ⟨gb134, 1, none⟩ = some (.int .i64 a0_1) := (blk_cell BK134.out 1).trans rfl; have hcz61_2 : w59.cell? ⟨gb134, 2, none⟩ = some (.int .i64 a0_2) := (blk_cell BK134.out 2).trans rfl; have hcz61_3 : w59.cell? ⟨gb134, 3, none⟩ = some (.int .i64 a0_3) := (blk_cell BK134.out 3).trans rfl; have hcz61_4 : w59.cell? ⟨gb134, 4, none⟩ = some (.int .i64 a0_4) := (blk_cell BK134.out 4).trans rfl; have hcz61_5 : w59.cell? ⟨gb134, 5, none⟩ = some (.int .i64 a0_5) := (blk_cell BK134.out 5).trans rfl; have hcz61_6 : w59.cell? ⟨gb134, 6, none⟩ = some (.bool a0_6) := (blk_cell BK134.out 6).trans rfl; have hcz61_7 : w59.cell? ⟨gb134, 7, none⟩ = some (.int .i64 a0_7) := (blk_cell BK134.out 7).trans rfl; have hcz61_8 : w59.cell? ⟨gb134, 8, none⟩ = some (.int .i64 a0_8) := (blk_cell BK134.out 8).trans rfl; have hfz61_0 := blk_frozen BK134.out 0; have hfz61_1 := blk_frozen BK134.out 1; have hfz61_2 := blk_frozen BK134.out 2; have hfz61_3 := blk_frozen BK134.out 3; have hfz61_4 := blk_frozen BK134.out 4; have hfz61_5 := blk_frozen BK134.out 5; have hfz61_6 := blk_frozen BK134.out 6; have hfz61_7 := blk_frozen BK134.out 7; have hfz61_8 := blk_frozen BK134.out 8))
             go_ret
             exact ⟨by first | rfl | (simp [errW_none, errW_some] <;> rfl) | (simp [*, errW_none, errW_some] <;> rfl), by repeat (first | (with_reducible first | exact HB.out | apply below_alloc | apply pw_below_drewN | apply below_drew1 | refine below_set ?_ GE134.out | refine below_set ?_ GE135.out) | exact HB.out)⟩
            ·rw [if_neg c52] at H
             have c52b0 : (a0_5 == 0) = false := beq_eq_false_iff_ne.mpr c52
             have c52b1 : (a0_5 != 0) = true := bne_iff_ne.mpr c52
             obtain rfl := Option.some.inj H
             have hnb62 := NB134_135.out
             have hnc62 := NB135_134.out
             have hcz63_0 : wc.cell? ⟨gb134, 0, none⟩ = some (.int .i64 a0_0) := (blk_cell BK134.out 0).trans rfl
             have hcz63_1 : wc.cell? ⟨gb134, 1, none⟩ = some (.int .i64 a0_1) := (blk_cell BK134.out 1).trans rfl
             have hcz63_2 : wc.cell? ⟨gb134, 2, none⟩ = some (.int .i64 a0_2) := (blk_cell BK134.out 2).trans rfl
             have hcz63_3 : wc.cell? ⟨gb134, 3, none⟩ = some (.int .i64 a0_3) := (blk_cell BK134.out 3).trans rfl
             have hcz63_4 : wc.cell? ⟨gb134, 4, none⟩ = some (.int .i64 a0_4) := (blk_cell BK134.out 4).trans rfl
             have hcz63_5 : wc.cell? ⟨gb134, 5, none⟩ = some (.int .i64 a0_5) := (blk_cell BK134.out 5).trans rfl
             have hcz63_6 : wc.cell? ⟨gb134, 6, none⟩ = some (.bool a0_6) := (blk_cell BK134.out 6).trans rfl
             have hcz63_7 : wc.cell? ⟨gb134, 7, none⟩ = some (.int .i64 a0_7) := (blk_cell BK134.out 7).trans rfl
             have hcz63_8 : wc.cell? ⟨gb134, 8, none⟩ = some (.int .i64 a0_8) := (blk_cell BK134.out 8).trans rfl
             have hfz63_0 := blk_frozen BK134.out 0
             have hfz63_1 := blk_frozen BK134.out 1
             have hfz63_2 := blk_frozen BK134.out 2
             have hfz63_3 := blk_frozen BK134.out 3
             have hfz63_4 := blk_frozen BK134.out 4
             have hfz63_5 := blk_frozen BK134.out 5
             have hfz63_6 := blk_frozen BK134.out 6
             have hfz63_7 := blk_frozen BK134.out 7
             have hfz63_8 := blk_frozen BK134.out 8
             have hcz64_0 : wc.cell? ⟨gb135, 0, none⟩ = some (.int .i64 a0_1) := (blk_cell BK135.out 0).trans rfl
             have hcz64_1 : wc.cell? ⟨gb135, 1, none⟩ = some (.int .i64 a0_2) := (blk_cell BK135.out 1).trans rfl
             have hcz64_2 : wc.cell? ⟨gb135, 2, none⟩ = some (.int .i64 a0_3) := (blk_cell BK135.out 2).trans rfl
             have hcz64_3 : wc.cell? ⟨gb135, 3, none⟩ = some (.int .i64 a0_4) := (blk_cell BK135.out 3).trans rfl
             have hfz64_0 := blk_frozen BK135.out 0
             have hfz64_1 := blk_frozen BK135.out 1
             have hfz64_2 := blk_frozen BK135.out 2
             have hfz64_3 := blk_frozen BK135.out 3
             go_wp2_with (first | ((with_reducible refine gate_dst (N := 68) rfl ?_); refine Kd.R_lit k23 _ 23 ?hg (N := 68) ?hd (xs := ([(⟨a0_1, a0_2, a0_3, a0_4⟩ : S23)] : List (S23))) (inner := [.int .i64 a0_1, .int .i64 a0_2, .int .i64 a0_3, .int .i64 a0_4]) (ok := fun _ => True) (okp := fun _ => True) ?hr ?hp (fun _ hk => hk) trivial (Below.refl _ _) (Nat.le_refl _) (by simp) ?_; (case hd => rfl); (case hg => rfl); (case hr => first | (go_simp; done) | (go_simp; rfl)); (case hp => exact (Reps.c4 (show Kd.M k23 _ _ _ (⟨a0_1, a0_2, a0_3, a0_4⟩ : S23) [.int .i64 a0_1, .int .i64 a0_2, .int .i64 a0_3, .int .i64 a0_4] from (k23_mkM _ _ _ (⟨a0_1, a0_2, a0_3, a0_4⟩ : S23) )) (Reps.none _ _))); intro v138 w65 ho66 hb hg_ hnew_; clear hg_ hnew_; (first | rw [← Ny137.out] at ho66 | (simp only [Int.reduceToNat] at ho66; rw [← Ny137.out] at ho66)); have n0_ := Aside0.mk (Kd.R_lower (Kd.R_newB ho66 (g := gb135) (o := .cells #[.int .i64 a0_1, .int .i64 a0_2, .int .i64 a0_3, .int .i64 a0_4] 23 (0, 0)) (by (with_reducible repeat (first | refine blk_drewN ?_ _ | refine blk_drew ?_ | refine blk_alloc ?_ _)); exact BK135.out)) (below_size (by repeat (first | (with_reducible first | exact HB.out | apply below_alloc | apply pw_below_drewN | apply below_drew1 | refine below_set ?_ GE134.out | refine below_set ?_ GE135.out) | exact HB.out)))); have n1_ := Aside0.mk (blk_below (g := gb134) (o := .cells #[.int .i64 a0_0, .int .i64 a0_1, .int .i64 a0_2, .int .i64 a0_3, .int .i64 a0_4, .int .i64 a0_5, .bool a0_6, .int .i64 a0_7, .int .i64 a0_8] 45 (0, 0)) (by (with_reducible repeat (first | refine blk_drewN ?_ _ | refine blk_drew ?_ | refine blk_alloc ?_ _)); exact BK134.out) hb); have n2_ := Aside0.mk (blk_below (g := gb135) (o := .cells #[.int .i64 a0_1, .int .i64 a0_2, .int .i64 a0_3, .int .i64 a0_4] 23 (0, 0)) (by (with_reducible repeat (first | refine blk_drewN ?_ _ | refine blk_drew ?_ | refine blk_alloc ?_ _)); exact BK135.out) hb); have n3_ := Aside0.mk (below_step (by repeat (first | (with_reducible first | exact HB.out | apply below_alloc | apply pw_below_drewN | apply below_drew1 | refine below_set ?_ GE134.out | refine below_set ?_ GE135.out) | exact HB.out)) hb); clear BK134; clear BK135; clear HB; have HO139 := n0_; have BK134 := n1_; have BK135 := n2_; have HB := n3_; clear n0_ n1_ n2_ n3_; clear hb ho66; obtain ⟨Ao67, co67, eo67⟩ := Kd.R_slice HO139.out; subst eo67) | ((with_reducible refine gate_callee (f := 24) rfl ?_); refine goesL_ (some 69) rfl rfl Try.func24 (by kernel_rfl) rfl #[.slice Ao67 y137.length co67] rfl (by (try simp only [List.map_toArray, List.map_cons, List.map_nil]); first | done | rfl | (simp only [List.length_drop, List.length_take]; rfl) | (simp only [*]; first | done | rfl)) ?_; (with_reducible refine (variorumref03_May.calls kj38 _ _ y137 true _ ?side1 ?side2 A49.out).mono ?_); (case side1 => repeat (first | exact (Kd.R_reads' HO139.out).2.2 | (with_reducible refine Kd.C_alloc ?_ _) | (with_reducible refine Kd.C_drewN ?_ _) | (with_reducible refine Kd.C_drew ?_))); (case side2 => exact (Kd.R_reads' HO139.out).2.1); rintro e w68 ⟨rfl, hb⟩; refine ⟨_, rfl, ?_⟩; have n0_ := Aside0.mk (Kd.R_below (by (with_reducible repeat (first | apply Kd.R_alloc | apply Kd.R_drewN | apply Kd.R_drew)); exact HO139.out) hb); have n1_ := Aside0.mk (blk_below (g := gb134) (o := .cells #[.int .i64 a0_0, .int .i64 a0_1, .int .i64 a0_2, .int .i64 a0_3, .int .i64 a0_4, .int .i64 a0_5, .bool a0_6, .int .i64 a0_7, .int .i64 a0_8] 45 (0, 0)) (by (with_reducible repeat (first | refine blk_drewN ?_ _ | refine blk_drew ?_ | refine blk_alloc ?_ _)); exact BK134.out) hb); have n2_ := Aside0.mk (blk_below (g := gb135) (o := .cells #[.int .i64 a0_1, .int .i64 a0_2, .int .i64 a0_3, .int .i64 a0_4] 23 (0, 0)) (by (with_reducible repeat (first | refine blk_drewN ?_ _ | refine blk_drew ?_ | refine blk_alloc ?_ _)); exact BK135.out) hb); have n3_ := Aside0.mk (below_step (by repeat (first | (with_reducible first | exact HB.out | apply below_alloc | apply pw_below_drewN | apply below_drew1 | refine below_set ?_ GE134.out | refine below_set ?_ GE135.out) | exact HB.out)) hb); clear HO139; clear BK134; clear BK135; clear HB; have HO139 := n0_; have BK134 := n1_; have BK135 := n2_; have HB := n3_; clear n0_ n1_ n2_ n3_; (try clear hb); (try clear hb2); (try clear hk); (try clear hi); have hcz69_0 : w68.cell? ⟨gb135, 0, none⟩ = some (.int .i64 a0_1) := (blk_cell BK135.out 0).trans rfl; have hcz69_1 : w68.cell? ⟨gb135, 1, none⟩ = some (.int .i64 a0_2) := (blk_cell BK135.out 1).trans rfl; have hcz69_2 : w68.cell? ⟨gb135, 2, none⟩ = some (.int .i64 a0_3) := (blk_cell BK135.out 2).trans rfl; have hcz69_3 : w68.cell? ⟨gb135, 3, none⟩ = some (.int .i64 a0_4) := (blk_cell BK135.out 3).trans rfl; have hfz69_0 := blk_frozen BK135.out 0; have hfz69_1 := blk_frozen BK135.out 1; have hfz69_2 := blk_frozen BK135.out 2; have hfz69_3 := blk_frozen BK135.out 3; have hcz70_0 : w68.cell? ⟨gb134, 0, none⟩ = some (.int .i64 a0_0) := (blk_cell BK134.out 0).trans rfl; have hcz70_1 : w68.cell? ⟨gb134, 1, none⟩ = some (.int .i64 a0_1) := (blk_cell BK134.out 1).trans rfl; have hcz70_2 : w68.cell? ⟨gb134, 2, none⟩ = some (.int .i64 a0_2) := (blk_cell BK134.out 2).trans rfl; have hcz70_3 : w68.cell? ⟨gb134, 3, none⟩ = some (.int .i64 a0_3) := (blk_cell BK134.out 3).trans rfl; have hcz70_4 : w68.cell? ⟨gb134, 4, none⟩ = some (.int .i64 a0_4) := (blk_cell BK134.out 4).trans rfl; have hcz70_5 : w68.cell? ⟨gb134, 5, none⟩ = some (.int .i64 a0_5) := (blk_cell BK134.out 5).trans rfl; have hcz70_6 : w68.cell? ⟨gb134, 6, none⟩ = some (.bool a0_6) := (blk_cell BK134.out 6).trans rfl; have hcz70_7 : w68.cell? ⟨gb134, 7, none⟩ = some (.int .i64 a0_7) := (blk_cell BK134.out 7).trans rfl; have hcz70_8 : w68.cell? ⟨gb134, 8, none⟩ = some (.int .i64 a0_8) := (blk_cell BK134.out 8).trans rfl; have hfz70_0 := blk_frozen BK134.out 0; have hfz70_1 := blk_frozen BK134.out 1; have hfz70_2 := blk_frozen BK134.out 2; have hfz70_3 := blk_frozen BK134.out 3; have hfz70_4 := blk_frozen BK134.out 4; have hfz70_5 := blk_frozen BK134.out 5; have hfz70_6 := blk_frozen BK134.out 6; have hfz70_7 := blk_frozen BK134.out 7; have hfz70_8 := blk_frozen BK134.out 8))
             go_ret
             exact ⟨by first | rfl | (simp [errW_none, errW_some] <;> rfl) | (simp [*, errW_none, errW_some] <;> rfl), by repeat (first | (with_reducible first | exact HB.out | apply below_alloc | apply pw_below_drewN | apply below_drew1 | refine below_set ?_ GE134.out | refine below_set ?_ GE135.out) | exact HB.out)⟩
           ·rw [if_neg c51] at H
            have c51b0 : decide (a0_3 ≤ a0_1) = false := decide_eq_false c51
            clear c51
            obtain rfl := Option.some.inj H
            have hnb71 := NB134_135.out
            have hnc71 := NB135_134.out
            have hcz72_0 : wc.cell? ⟨gb134, 0, none⟩ = some (.int .i64 a0_0) := (blk_cell BK134.out 0).trans rfl
            have hcz72_1 : wc.cell? ⟨gb134, 1, none⟩ = some (.int .i64 a0_1) := (blk_cell BK134.out 1).trans rfl
            have hcz72_2 : wc.cell? ⟨gb134, 2, none⟩ = some (.int .i64 a0_2) := (blk_cell BK134.out 2).trans rfl
            have hcz72_3 : wc.cell? ⟨gb134, 3, none⟩ = some (.int .i64 a0_3) := (blk_cell BK134.out 3).trans rfl
            have hcz72_4 : wc.cell? ⟨gb134, 4, none⟩ = some (.int .i64 a0_4) := (blk_cell BK134.out 4).trans rfl
            have hcz72_5 : wc.cell? ⟨gb134, 5, none⟩ = some (.int .i64 a0_5) := (blk_cell BK134.out 5).trans rfl
            have hcz72_6 : wc.cell? ⟨gb134, 6, none⟩ = some (.bool a0_6) := (blk_cell BK134.out 6).trans rfl
            have hcz72_7 : wc.cell? ⟨gb134, 7, none⟩ = some (.int .i64 a0_7) := (blk_cell BK134.out 7).trans rfl
            have hcz72_8 : wc.cell? ⟨gb134, 8, none⟩ = some (.int .i64 a0_8) := (blk_cell BK134.out 8).trans rfl
            have hfz72_0 := blk_frozen BK134.out 0
            have hfz72_1 := blk_frozen BK134.out 1
            have hfz72_2 := blk_frozen BK134.out 2
            have hfz72_3 := blk_frozen BK134.out 3
            have hfz72_4 := blk_frozen BK134.out 4
            have hfz72_5 := blk_frozen BK134.out 5
            have hfz72_6 := blk_frozen BK134.out 6
            have hfz72_7 := blk_frozen BK134.out 7
            have hfz72_8 := blk_frozen BK134.out 8
            have hcz73_0 : wc.cell? ⟨gb135, 0, none⟩ = some (.int .i64 a0_1) := (blk_cell BK135.out 0).trans rfl
            have hcz73_1 : wc.cell? ⟨gb135, 1, none⟩ = some (.int .i64 a0_2) := (blk_cell BK135.out 1).trans rfl
            have hcz73_2 : wc.cell? ⟨gb135, 2, none⟩ = some (.int .i64 a0_3) := (blk_cell BK135.out 2).trans rfl
            have hcz73_3 : wc.cell? ⟨gb135, 3, none⟩ = some (.int .i64 a0_4) := (blk_cell BK135.out 3).trans rfl
            have hfz73_0 := blk_frozen BK135.out 0
            have hfz73_1 := blk_frozen BK135.out 1
            have hfz73_2 := blk_frozen BK135.out 2
            have hfz73_3 := blk_frozen BK135.out 3
            go_wp2_with (first | ((with_reducible refine gate_dst (N := 68) rfl ?_); refine Kd.R_lit k23 _ 23 ?hg (N := 68) ?hd (xs := ([(⟨a0_1, a0_2, a0_3, a0_4⟩ : S23)] : List (S23))) (inner := [.int .i64 a0_1, .int .i64 a0_2, .int .i64 a0_3, .int .i64 a0_4]) (ok := fun _ => True) (okp := fun _ => True) ?hr ?hp (fun _ hk => hk) trivial (Below.refl _ _) (Nat.le_refl _) (by simp) ?_; (case hd => rfl); (case hg => rfl); (case hr => first | (go_simp; done) | (go_simp; rfl)); (case hp => exact (Reps.c4 (show Kd.M k23 _ _ _ (⟨a0_1, a0_2, a0_3, a0_4⟩ : S23) [.int .i64 a0_1, .int .i64 a0_2, .int .i64 a0_3, .int .i64 a0_4] from (k23_mkM _ _ _ (⟨a0_1, a0_2, a0_3, a0_4⟩ : S23) )) (Reps.none _ _))); intro v138 w74 ho75 hb hg_ hnew_; clear hg_ hnew_; (first | rw [← Ny137.out] at ho75 | (simp only [Int.reduceToNat] at ho75; rw [← Ny137.out] at ho75)); have n0_ := Aside0.mk (Kd.R_lower (Kd.R_newB ho75 (g := gb135) (o := .cells #[.int .i64 a0_1, .int .i64 a0_2, .int .i64 a0_3, .int .i64 a0_4] 23 (0, 0)) (by (with_reducible repeat (first | refine blk_drewN ?_ _ | refine blk_drew ?_ | refine blk_alloc ?_ _)); exact BK135.out)) (below_size (by repeat (first | (with_reducible first | exact HB.out | apply below_alloc | apply pw_below_drewN | apply below_drew1 | refine below_set ?_ GE134.out | refine below_set ?_ GE135.out) | exact HB.out)))); have n1_ := Aside0.mk (blk_below (g := gb134) (o := .cells #[.int .i64 a0_0, .int .i64 a0_1, .int .i64 a0_2, .int .i64 a0_3, .int .i64 a0_4, .int .i64 a0_5, .bool a0_6, .int .i64 a0_7, .int .i64 a0_8] 45 (0, 0)) (by (with_reducible repeat (first | refine blk_drewN ?_ _ | refine blk_drew ?_ | refine blk_alloc ?_ _)); exact BK134.out) hb); have n2_ := Aside0.mk (blk_below (g := gb135) (o := .cells #[.int .i64 a0_1, .int .i64 a0_2, .int .i64 a0_3, .int .i64 a0_4] 23 (0, 0)) (by (with_reducible repeat (first | refine blk_drewN ?_ _ | refine blk_drew ?_ | refine blk_alloc ?_ _)); exact BK135.out) hb); have n3_ := Aside0.mk (below_step (by repeat (first | (with_reducible first | exact HB.out | apply below_alloc | apply pw_below_drewN | apply below_drew1 | refine below_set ?_ GE134.out | refine below_set ?_ GE135.out) | exact HB.out)) hb); clear BK134; clear BK135; clear HB; have HO139 := n0_; have BK134 := n1_; have BK135 := n2_; have HB := n3_; clear n0_ n1_ n2_ n3_; clear hb ho75; obtain ⟨Ao76, co76, eo76⟩ := Kd.R_slice HO139.out; subst eo76) | ((with_reducible refine gate_callee (f := 24) rfl ?_); refine goesL_ (some 69) rfl rfl Try.func24 (by kernel_rfl) rfl #[.slice Ao76 y137.length co76] rfl (by (try simp only [List.map_toArray, List.map_cons, List.map_nil]); first | done | rfl | (simp only [List.length_drop, List.length_take]; rfl) | (simp only [*]; first | done | rfl)) ?_; (with_reducible refine (variorumref03_May.calls kj38 _ _ y137 true _ ?side1 ?side2 A49.out).mono ?_); (case side1 => repeat (first | exact (Kd.R_reads' HO139.out).2.2 | (with_reducible refine Kd.C_alloc ?_ _) | (with_reducible refine Kd.C_drewN ?_ _) | (with_reducible refine Kd.C_drew ?_))); (case side2 => exact (Kd.R_reads' HO139.out).2.1); rintro e w77 ⟨rfl, hb⟩; refine ⟨_, rfl, ?_⟩; have n0_ := Aside0.mk (Kd.R_below (by (with_reducible repeat (first | apply Kd.R_alloc | apply Kd.R_drewN | apply Kd.R_drew)); exact HO139.out) hb); have n1_ := Aside0.mk (blk_below (g := gb134) (o := .cells #[.int .i64 a0_0, .int .i64 a0_1, .int .i64 a0_2, .int .i64 a0_3, .int .i64 a0_4, .int .i64 a0_5, .bool a0_6, .int .i64 a0_7, .int .i64 a0_8] 45 (0, 0)) (by (with_reducible repeat (first | refine blk_drewN ?_ _ | refine blk_drew ?_ | refine blk_alloc ?_ _)); exact BK134.out) hb); have n2_ := Aside0.mk (blk_below (g := gb135) (o := .cells #[.int .i64 a0_1, .int .i64 a0_2, .int .i64 a0_3, .int .i64 a0_4] 23 (0, 0)) (by (with_reducible repeat (first | refine blk_drewN ?_ _ | refine blk_drew ?_ | refine blk_alloc ?_ _)); exact BK135.out) hb); have n3_ := Aside0.mk (below_step (by repeat (first | (with_reducible first | exact HB.out | apply below_alloc | apply pw_below_drewN | apply below_drew1 | refine below_set ?_ GE134.out | refine below_set ?_ GE135.out) | exact HB.out)) hb); clear HO139; clear BK134; clear BK135; clear HB; have HO139 := n0_; have BK134 := n1_; have BK135 := n2_; have HB := n3_; clear n0_ n1_ n2_ n3_; (try clear hb); (try clear hb2); (try clear hk); (try clear hi); have hcz78_0 : w77.cell? ⟨gb135, 0, none⟩ = some (.int .i64 a0_1) := (blk_cell BK135.out 0).trans rfl; have hcz78_1 : w77.cell? ⟨gb135, 1, none⟩ = some (.int .i64 a0_2) := (blk_cell BK135.out 1).trans rfl; have hcz78_2 : w77.cell? ⟨gb135, 2, none⟩ = some (.int .i64 a0_3) := (blk_cell BK135.out 2).trans rfl; have hcz78_3 : w77.cell? ⟨gb135, 3, none⟩ = some (.int .i64 a0_4) := (blk_cell BK135.out 3).trans rfl; have hfz78_0 := blk_frozen BK135.out 0; have hfz78_1 := blk_frozen BK135.out 1; have hfz78_2 := blk_frozen BK135.out 2; have hfz78_3 := blk_frozen BK135.out 3))
            go_ret
            exact ⟨by first | rfl | (simp [errW_none, errW_some] <;> rfl) | (simp [*, errW_none, errW_some] <;> rfl), by repeat (first | (with_reducible first | exact HB.out | apply below_alloc | apply pw_below_drewN | apply below_drew1 | refine below_set ?_ GE134.out | refine below_set ?_ GE135.out) | exact HB.out)⟩
          ·replace c50 := Bool.eq_false_iff.mpr c50
           subst c50
           have H1 : (some false) = some r := by rw [if_neg (show ¬ (false = true) by decide)] at H; exact H
           clear H
           have H := H1
           clear H1
           obtain rfl := Option.some.inj H
           have hnb79 := NB134_135.out
           have hnc79 := NB135_134.out
           have hcz80_0 : wc.cell? ⟨gb134, 0, none⟩ = some (.int .i64 a0_0) := (blk_cell BK134.out 0).trans rfl
           have hcz80_1 : wc.cell? ⟨gb134, 1, none⟩ = some (.int .i64 a0_1) := (blk_cell BK134.out 1).trans rfl
           have hcz80_2 : wc.cell? ⟨gb134, 2, none⟩ = some (.int .i64 a0_2) := (blk_cell BK134.out 2).trans rfl
           have hcz80_3 : wc.cell? ⟨gb134, 3, none⟩ = some (.int .i64 a0_3) := (blk_cell BK134.out 3).trans rfl
           have hcz80_4 : wc.cell? ⟨gb134, 4, none⟩ = some (.int .i64 a0_4) := (blk_cell BK134.out 4).trans rfl
           have hcz80_5 : wc.cell? ⟨gb134, 5, none⟩ = some (.int .i64 a0_5) := (blk_cell BK134.out 5).trans rfl
           have hcz80_6 : wc.cell? ⟨gb134, 6, none⟩ = some (.bool a0_6) := (blk_cell BK134.out 6).trans rfl
           have hcz80_7 : wc.cell? ⟨gb134, 7, none⟩ = some (.int .i64 a0_7) := (blk_cell BK134.out 7).trans rfl
           have hcz80_8 : wc.cell? ⟨gb134, 8, none⟩ = some (.int .i64 a0_8) := (blk_cell BK134.out 8).trans rfl
           have hfz80_0 := blk_frozen BK134.out 0
           have hfz80_1 := blk_frozen BK134.out 1
           have hfz80_2 := blk_frozen BK134.out 2
           have hfz80_3 := blk_frozen BK134.out 3
           have hfz80_4 := blk_frozen BK134.out 4
           have hfz80_5 := blk_frozen BK134.out 5
           have hfz80_6 := blk_frozen BK134.out 6
           have hfz80_7 := blk_frozen BK134.out 7
           have hfz80_8 := blk_frozen BK134.out 8
           have hcz81_0 : wc.cell? ⟨gb135, 0, none⟩ = some (.int .i64 a0_1) := (blk_cell BK135.out 0).trans rfl
           have hcz81_1 : wc.cell? ⟨gb135, 1, none⟩ = some (.int .i64 a0_2) := (blk_cell BK135.out 1).trans rfl
           have hcz81_2 : wc.cell? ⟨gb135, 2, none⟩ = some (.int .i64 a0_3) := (blk_cell BK135.out 2).trans rfl
           have hcz81_3 : wc.cell? ⟨gb135, 3, none⟩ = some (.int .i64 a0_4) := (blk_cell BK135.out 3).trans rfl
           have hfz81_0 := blk_frozen BK135.out 0
           have hfz81_1 := blk_frozen BK135.out 1
           have hfz81_2 := blk_frozen BK135.out 2
           have hfz81_3 := blk_frozen BK135.out 3
           go_wp2_with (first | ((with_reducible refine gate_dst (N := 68) rfl ?_); refine Kd.R_lit k23 _ 23 ?hg (N := 68) ?hd (xs := ([(⟨a0_1, a0_2, a0_3, a0_4⟩ : S23)] : List (S23))) (inner := [.int .i64 a0_1, .int .i64 a0_2, .int .i64 a0_3, .int .i64 a0_4]) (ok := fun _ => True) (okp := fun _ => True) ?hr ?hp (fun _ hk => hk) trivial (Below.refl _ _) (Nat.le_refl _) (by simp) ?_; (case hd => rfl); (case hg => rfl); (case hr => first | (go_simp; done) | (go_simp; rfl)); (case hp => exact (Reps.c4 (show Kd.M k23 _ _ _ (⟨a0_1, a0_2, a0_3, a0_4⟩ : S23) [.int .i64 a0_1, .int .i64 a0_2, .int .i64 a0_3, .int .i64 a0_4] from (k23_mkM _ _ _ (⟨a0_1, a0_2, a0_3, a0_4⟩ : S23) )) (Reps.none _ _))); intro v138 w82 ho83 hb hg_ hnew_; clear hg_ hnew_; (first | rw [← Ny137.out] at ho83 | (simp only [Int.reduceToNat] at ho83; rw [← Ny137.out] at ho83)); have n0_ := Aside0.mk (Kd.R_lower (Kd.R_newB ho83 (g := gb135) (o := .cells #[.int .i64 a0_1, .int .i64 a0_2, .int .i64 a0_3, .int .i64 a0_4] 23 (0, 0)) (by (with_reducible repeat (first | refine blk_drewN ?_ _ | refine blk_drew ?_ | refine blk_alloc ?_ _)); exact BK135.out)) (below_size (by repeat (first | (with_reducible first | exact HB.out | apply below_alloc | apply pw_below_drewN | apply below_drew1 | refine below_set ?_ GE134.out | refine below_set ?_ GE135.out) | exact HB.out)))); have n1_ := Aside0.mk (blk_below (g := gb134) (o := .cells #[.int .i64 a0_0, .int .i64 a0_1, .int .i64 a0_2, .int .i64 a0_3, .int .i64 a0_4, .int .i64 a0_5, .bool a0_6, .int .i64 a0_7, .int .i64 a0_8] 45 (0, 0)) (by (with_reducible repeat (first | refine blk_drewN ?_ _ | refine blk_drew ?_ | refine blk_alloc ?_ _)); exact BK134.out) hb); have n2_ := Aside0.mk (blk_below (g := gb135) (o := .cells #[.int .i64 a0_1, .int .i64 a0_2, .int .i64 a0_3, .int .i64 a0_4] 23 (0, 0)) (by (with_reducible repeat (first | refine blk_drewN ?_ _ | refine blk_drew ?_ | refine blk_alloc ?_ _)); exact BK135.out) hb); have n3_ := Aside0.mk (below_step (by repeat (first | (with_reducible first | exact HB.out | apply below_alloc | apply pw_below_drewN | apply below_drew1 | refine below_set ?_ GE134.out | refine below_set ?_ GE135.out) | exact HB.out)) hb); clear BK134; clear BK135; clear HB; have HO139 := n0_; have BK134 := n1_; have BK135 := n2_; have HB := n3_; clear n0_ n1_ n2_ n3_; clear hb ho83; obtain ⟨Ao84, co84, eo84⟩ := Kd.R_slice HO139.out; subst eo84) | ((with_reducible refine gate_callee (f := 24) rfl ?_); refine goesL_ (some 69) rfl rfl Try.func24 (by kernel_rfl) rfl #[.slice Ao84 y137.length co84] rfl (by (try simp only [List.map_toArray, List.map_cons, List.map_nil]); first | done | rfl | (simp only [List.length_drop, List.length_take]; rfl) | (simp only [*]; first | done | rfl)) ?_; (with_reducible refine (variorumref03_May.calls kj38 _ _ y137 false _ ?side1 ?side2 A49.out).mono ?_); (case side1 => repeat (first | exact (Kd.R_reads' HO139.out).2.2 | (with_reducible refine Kd.C_alloc ?_ _) | (with_reducible refine Kd.C_drewN ?_ _) | (with_reducible refine Kd.C_drew ?_))); (case side2 => exact (Kd.R_reads' HO139.out).2.1); rintro e w85 ⟨rfl, hb⟩; refine ⟨_, rfl, ?_⟩; have n0_ := Aside0.mk (Kd.R_below (by (with_reducible repeat (first | apply Kd.R_alloc | apply Kd.R_drewN | apply Kd.R_drew)); exact HO139.out) hb); have n1_ := Aside0.mk (blk_below (g := gb134) (o := .cells #[.int .i64 a0_0, .int .i64 a0_1, .int .i64 a0_2, .int .i64 a0_3, .int .i64 a0_4, .int .i64 a0_5, .bool a0_6, .int .i64 a0_7, .int .i64 a0_8] 45 (0, 0)) (by (with_reducible repeat (first | refine blk_drewN ?_ _ | refine blk_drew ?_ | refine blk_alloc ?_ _)); exact BK134.out) hb); have n2_ := Aside0.mk (blk_below (g := gb135) (o := .cells #[.int .i64 a0_1, .int .i64 a0_2, .int .i64 a0_3, .int .i64 a0_4] 23 (0, 0)) (by (with_reducible repeat (first | refine blk_drewN ?_ _ | refine blk_drew ?_ | refine blk_alloc ?_ _)); exact BK135.out) hb); have n3_ := Aside0.mk (below_step (by repeat (first | (with_reducible first | exact HB.out | apply below_alloc | apply pw_below_drewN | apply below_drew1 | refine below_set ?_ GE134.out | refine below_set ?_ GE135.out) | exact HB.out)) hb); clear HO139; clear BK134; clear BK135; clear HB; have HO139 := n0_; have BK134 := n1_; have BK135 := n2_; have HB := n3_; clear n0_ n1_ n2_ n3_; (try clear hb); (try clear hb2); (try clear hk); (try clear hi)))
           go_ret
           exact ⟨by first | rfl | (simp [errW_none, errW_some] <;> rfl) | (simp [*, errW_none, errW_some] <;> rfl), by repeat (first | (with_reducible first | exact HB.out | apply below_alloc | apply pw_below_drewN | apply below_drew1 | refine below_set ?_ GE134.out | refine below_set ?_ GE135.out) | exact HB.out)⟩
         ·rw [if_neg c48] at H
          have c48b0 : (a0_0 == 1) = false := beq_eq_false_iff_ne.mpr c48
          have c48b1 : (a0_0 != 1) = true := bne_iff_ne.mpr c48
          by_cases c86 : a0_0 = 2
          ·rw [if_pos c86] at H
           have c86b0 : (a0_0 == 2) = true := beq_iff_eq.mpr c86
           have c86b1 : (a0_0 != 2) = false := bne_eq_false_iff_eq.mpr c86
           clear c86
           by_cases c87 : x5_13 = true
           ·subst c87
            have H1 : (if a0_5 ≥ (-10000) then (some (decide (a0_5 ≤ 10000))) else (some false)) = some r := by rw [if_pos rfl] at H; exact H
            clear H
            have H := H1
            clear H1
            by_cases c88 : a0_5 ≥ (-10000)
            ·rw [if_pos c88] at H
             have c88b0 : decide ((-10000) ≤ a0_5) = true := decide_eq_true c88
             clear c88
             obtain rfl := Option.some.inj H
             have hnb89 := NB134_135.out
             have hnc89 := NB135_134.out
             have hcz90_0 : wc.cell? ⟨gb134, 0, none⟩ = some (.int .i64 a0_0) := (blk_cell BK134.out 0).trans rfl
             have hcz90_1 : wc.cell? ⟨gb134, 1, none⟩ = some (.int .i64 a0_1) := (blk_cell BK134.out 1).trans rfl
             have hcz90_2 : wc.cell? ⟨gb134, 2, none⟩ = some (.int .i64 a0_2) := (blk_cell BK134.out 2).trans rfl
             have hcz90_3 : wc.cell? ⟨gb134, 3, none⟩ = some (.int .i64 a0_3) := (blk_cell BK134.out 3).trans rfl
             have hcz90_4 : wc.cell? ⟨gb134, 4, none⟩ = some (.int .i64 a0_4) := (blk_cell BK134.out 4).trans rfl
             have hcz90_5 : wc.cell? ⟨gb134, 5, none⟩ = some (.int .i64 a0_5) := (blk_cell BK134.out 5).trans rfl
             have hcz90_6 : wc.cell? ⟨gb134, 6, none⟩ = some (.bool a0_6) := (blk_cell BK134.out 6).trans rfl
             have hcz90_7 : wc.cell? ⟨gb134, 7, none⟩ = some (.int .i64 a0_7) := (blk_cell BK134.out 7).trans rfl
             have hcz90_8 : wc.cell? ⟨gb134, 8, none⟩ = some (.int .i64 a0_8) := (blk_cell BK134.out 8).trans rfl
             have hfz90_0 := blk_frozen BK134.out 0
             have hfz90_1 := blk_frozen BK134.out 1
             have hfz90_2 := blk_frozen BK134.out 2
             have hfz90_3 := blk_frozen BK134.out 3
             have hfz90_4 := blk_frozen BK134.out 4
             have hfz90_5 := blk_frozen BK134.out 5
             have hfz90_6 := blk_frozen BK134.out 6
             have hfz90_7 := blk_frozen BK134.out 7
             have hfz90_8 := blk_frozen BK134.out 8
             go_wp2
             go_ret
             exact ⟨by first | rfl | (simp [errW_none, errW_some] <;> rfl) | (simp [*, errW_none, errW_some] <;> rfl), by repeat (first | (with_reducible first | exact HB.out | apply below_alloc | apply pw_below_drewN | apply below_drew1 | refine below_set ?_ GE134.out | refine below_set ?_ GE135.out) | exact HB.out)⟩
            ·rw [if_neg c88] at H
             have c88b0 : decide ((-10000) ≤ a0_5) = false := decide_eq_false c88
             clear c88
             obtain rfl := Option.some.inj H
             have hnb91 := NB134_135.out
             have hnc91 := NB135_134.out
             have hcz92_0 : wc.cell? ⟨gb134, 0, none⟩ = some (.int .i64 a0_0) := (blk_cell BK134.out 0).trans rfl
             have hcz92_1 : wc.cell? ⟨gb134, 1, none⟩ = some (.int .i64 a0_1) := (blk_cell BK134.out 1).trans rfl
             have hcz92_2 : wc.cell? ⟨gb134, 2, none⟩ = some (.int .i64 a0_2) := (blk_cell BK134.out 2).trans rfl
             have hcz92_3 : wc.cell? ⟨gb134, 3, none⟩ = some (.int .i64 a0_3) := (blk_cell BK134.out 3).trans rfl
             have hcz92_4 : wc.cell? ⟨gb134, 4, none⟩ = some (.int .i64 a0_4) := (blk_cell BK134.out 4).trans rfl
             have hcz92_5 : wc.cell? ⟨gb134, 5, none⟩ = some (.int .i64 a0_5) := (blk_cell BK134.out 5).trans rfl
             have hcz92_6 : wc.cell? ⟨gb134, 6, none⟩ = some (.bool a0_6) := (blk_cell BK134.out 6).trans rfl
             have hcz92_7 : wc.cell? ⟨gb134, 7, none⟩ = some (.int .i64 a0_7) := (blk_cell BK134.out 7).trans rfl
             have hcz92_8 : wc.cell? ⟨gb134, 8, none⟩ = some (.int .i64 a0_8) := (blk_cell BK134.out 8).trans rfl
             have hfz92_0 := blk_frozen BK134.out 0
             have hfz92_1 := blk_frozen BK134.out 1
             have hfz92_2 := blk_frozen BK134.out 2
             have hfz92_3 := blk_frozen BK134.out 3
             have hfz92_4 := blk_frozen BK134.out 4
             have hfz92_5 := blk_frozen BK134.out 5
             have hfz92_6 := blk_frozen BK134.out 6
             have hfz92_7 := blk_frozen BK134.out 7
             have hfz92_8 := blk_frozen BK134.out 8
             go_wp2
             go_ret
             exact ⟨by first | rfl | (simp [errW_none, errW_some] <;> rfl) | (simp [*, errW_none, errW_some] <;> rfl), by repeat (first | (with_reducible first | exact HB.out | apply below_alloc | apply pw_below_drewN | apply below_drew1 | refine below_set ?_ GE134.out | refine below_set ?_ GE135.out) | exact HB.out)⟩
           ·replace c87 := Bool.eq_false_iff.mpr c87
            subst c87
            have H1 : (some false) = some r := by rw [if_neg (show ¬ (false = true) by decide)] at H; exact H
            clear H
            have H := H1
            clear H1
            obtain rfl := Option.some.inj H
            have hnb93 := NB134_135.out
            have hnc93 := NB135_134.out
            have hcz94_0 : wc.cell? ⟨gb134, 0, none⟩ = some (.int .i64 a0_0) := (blk_cell BK134.out 0).trans rfl
            have hcz94_1 : wc.cell? ⟨gb134, 1, none⟩ = some (.int .i64 a0_1) := (blk_cell BK134.out 1).trans rfl
            have hcz94_2 : wc.cell? ⟨gb134, 2, none⟩ = some (.int .i64 a0_2) := (blk_cell BK134.out 2).trans rfl
            have hcz94_3 : wc.cell? ⟨gb134, 3, none⟩ = some (.int .i64 a0_3) := (blk_cell BK134.out 3).trans rfl
            have hcz94_4 : wc.cell? ⟨gb134, 4, none⟩ = some (.int .i64 a0_4) := (blk_cell BK134.out 4).trans rfl
            have hcz94_5 : wc.cell? ⟨gb134, 5, none⟩ = some (.int .i64 a0_5) := (blk_cell BK134.out 5).trans rfl
            have hcz94_6 : wc.cell? ⟨gb134, 6, none⟩ = some (.bool a0_6) := (blk_cell BK134.out 6).trans rfl
            have hcz94_7 : wc.cell? ⟨gb134, 7, none⟩ = some (.int .i64 a0_7) := (blk_cell BK134.out 7).trans rfl
            have hcz94_8 : wc.cell? ⟨gb134, 8, none⟩ = some (.int .i64 a0_8) := (blk_cell BK134.out 8).trans rfl
            have hfz94_0 := blk_frozen BK134.out 0
            have hfz94_1 := blk_frozen BK134.out 1
            have hfz94_2 := blk_frozen BK134.out 2
            have hfz94_3 := blk_frozen BK134.out 3
            have hfz94_4 := blk_frozen BK134.out 4
            have hfz94_5 := blk_frozen BK134.out 5
            have hfz94_6 := blk_frozen BK134.out 6
            have hfz94_7 := blk_frozen BK134.out 7
            have hfz94_8 := blk_frozen BK134.out 8
            go_wp2
            go_ret
            exact ⟨by first | rfl | (simp [errW_none, errW_some] <;> rfl) | (simp [*, errW_none, errW_some] <;> rfl), by repeat (first | (with_reducible first | exact HB.out | apply below_alloc | apply pw_below_drewN | apply below_drew1 | refine below_set ?_ GE134.out | refine below_set ?_ GE135.out) | exact HB.out)⟩
          ·rw [if_neg c86] at H
           have c86b0 : (a0_0 == 2) = false := beq_eq_false_iff_ne.mpr c86
           have c86b1 : (a0_0 != 2) = true := bne_iff_ne.mpr c86
           obtain rfl := Option.some.inj H
           have hnb95 := NB134_135.out
           have hnc95 := NB135_134.out
           have hcz96_0 : wc.cell? ⟨gb134, 0, none⟩ = some (.int .i64 a0_0) := (blk_cell BK134.out 0).trans rfl
           have hcz96_1 : wc.cell? ⟨gb134, 1, none⟩ = some (.int .i64 a0_1) := (blk_cell BK134.out 1).trans rfl
           have hcz96_2 : wc.cell? ⟨gb134, 2, none⟩ = some (.int .i64 a0_2) := (blk_cell BK134.out 2).trans rfl
           have hcz96_3 : wc.cell? ⟨gb134, 3, none⟩ = some (.int .i64 a0_3) := (blk_cell BK134.out 3).trans rfl
           have hcz96_4 : wc.cell? ⟨gb134, 4, none⟩ = some (.int .i64 a0_4) := (blk_cell BK134.out 4).trans rfl
           have hcz96_5 : wc.cell? ⟨gb134, 5, none⟩ = some (.int .i64 a0_5) := (blk_cell BK134.out 5).trans rfl
           have hcz96_6 : wc.cell? ⟨gb134, 6, none⟩ = some (.bool a0_6) := (blk_cell BK134.out 6).trans rfl
           have hcz96_7 : wc.cell? ⟨gb134, 7, none⟩ = some (.int .i64 a0_7) := (blk_cell BK134.out 7).trans rfl
           have hcz96_8 : wc.cell? ⟨gb134, 8, none⟩ = some (.int .i64 a0_8) := (blk_cell BK134.out 8).trans rfl
           have hfz96_0 := blk_frozen BK134.out 0
           have hfz96_1 := blk_frozen BK134.out 1
           have hfz96_2 := blk_frozen BK134.out 2
           have hfz96_3 := blk_frozen BK134.out 3
           have hfz96_4 := blk_frozen BK134.out 4
           have hfz96_5 := blk_frozen BK134.out 5
           have hfz96_6 := blk_frozen BK134.out 6
           have hfz96_7 := blk_frozen BK134.out 7
           have hfz96_8 := blk_frozen BK134.out 8
           go_wp2
           go_ret
           exact ⟨by first | rfl | (simp [errW_none, errW_some] <;> rfl) | (simp [*, errW_none, errW_some] <;> rfl), by repeat (first | (with_reducible first | exact HB.out | apply below_alloc | apply pw_below_drewN | apply below_drew1 | refine below_set ?_ GE134.out | refine below_set ?_ GE135.out) | exact HB.out)⟩

end Go.Proofs.Ytbdaaiagpknaoaa.PUb

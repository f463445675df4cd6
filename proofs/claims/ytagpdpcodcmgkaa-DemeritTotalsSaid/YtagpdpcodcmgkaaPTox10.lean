/- Written by a program of this session: functions of the given program as plain Lean functions, the walks that show it, and the row of each law, for every input that its statement speaks of. -/
import Derived.Test.YtagpdpcodcmgkaaPTox0
import Derived.Test.YtagpdpcodcmgkaaPTox8
import Derived.Test.YtagpdpcodcmgkaaPTox9
namespace Go.Proofs.Ytagpdpcodcmgkaa.PTo
open Go.RowKit Go.Proofs.YtagpdpcodcmgkaaW.PrintWords Go.Proofs.YtagpdpcodcmgkaaW.PrintLast
set_option linter.unusedVariables false
set_option linter.unusedSimpArgs false

/-! ### variorumref03_Set: function 28 -/
def variorumref03_Set.j0 : Nat → Int → Bool → Int → Int → Int → Int → Int → Int → Int → Int → Int → Int → Option (Int × Int × Int × Int × Bool)
 | 0, _, _, _, _, _, _, _, _, _, _, _, _ => none
 | k + 1, x9, x31, x282000, x282001, x282002, x282003, x290000, x290001, x290002, x290003, x290004, x290005 => if x31 = true then (some (x282000, x282001, x282002, x282003, false)) else (if x9 = 0 then (some (x282000, x282001, x282002, x282003, true)) else (if x9 < 0 then ((variorumref03_Badness.f k (wrap64 (-x9)) x290001).bind fun t292 => (if x290001 < (wrap64 (-x9)) then (some ((-1), 0, x9, 1000000, true)) else (some ((-1), 0, x9, t292, true)))) else (if x290005 > 0 then (some (1, 3, x9, 0, true)) else (if x290004 > 0 then (some (1, 2, x9, 0, true)) else (if x290003 > 0 then (some (1, 1, x9, 0, true)) else (if x290002 > 0 then ((variorumref03_Badness.f k x9 x290002).bind fun t293 => (some (1, 0, x9, t293, true))) else (some (0, 0, x9, 10000, true))))))))
def variorumref03_Set.f (k : Nat) (l0 : List (S45)) (a1 : Int) : Option (Int × Int × Int × Int × Bool) := (variorumref03_Total.f k l0).bind fun bt282 => ((variorumref02_Sub.f a1 bt282.1).bind fun bt290 => (if bt282.2.2.2.2.2.2 = true then (variorumref03_Set.j0 k bt290.1 (!bt290.2) 0 0 0 0 bt282.1 bt282.2.1 bt282.2.2.1 bt282.2.2.2.1 bt282.2.2.2.2.1 bt282.2.2.2.2.2.1) else (variorumref03_Set.j0 k bt290.1 true 0 0 0 0 bt282.1 bt282.2.1 bt282.2.2.1 bt282.2.2.2.1 bt282.2.2.2.2.1 bt282.2.2.2.2.2.1)))
theorem variorumref03_Set.mono_l : ∀ k, (∀ y0 y1 y2 y3 y4 y5 y6 y7 y8 y9 y10 y11, LeO (variorumref03_Set.j0 k y0 y1 y2 y3 y4 y5 y6 y7 y8 y9 y10 y11) (variorumref03_Set.j0 (k + 1) y0 y1 y2 y3 y4 y5 y6 y7 y8 y9 y10 y11))
 | 0 => fun _ _ _ _ _ _ _ _ _ _ _ _ r h => by simp [variorumref03_Set.j0] at h
 | k + 1 => by
  have ih0 := variorumref03_Set.mono_l k
  ·intro y0 y1 y2 y3 y4 y5 y6 y7 y8 y9 y10 y11
   unfold variorumref03_Set.j0
   repeat' first
   | (with_reducible exact ih0 _ _ _ _ _ _ _ _ _ _ _ _)
   | (with_reducible exact variorumref03_Badness.mono _ _ _)
   | (with_reducible exact variorumref03_Total.mono _ _)
   | (with_reducible exact LeO.refl _)
   | (with_reducible exact LeO.none _)
   | (with_reducible refine LeO.ite ?_ ?_)
   | (with_reducible refine LeO.bind ?_ (fun _ => ?_))
   | exact ih0 _ _ _ _ _ _ _ _ _ _ _ _
   | exact variorumref03_Badness.mono _ _ _
   | exact variorumref03_Total.mono _ _
   | exact LeO.none _
   | refine LeO.ite ?_ ?_
   | refine LeO.bind ?_ (fun _ => ?_)
theorem variorumref03_Set.mono : ∀ a0 a1 k, LeO (variorumref03_Set.f k a0 a1) (variorumref03_Set.f (k + 1) a0 a1) := by
 intro a0 a1 k
 have ih0 := variorumref03_Set.mono_l k
 unfold variorumref03_Set.f
 repeat' first
   | (with_reducible exact ih0 _ _ _ _ _ _ _ _ _ _ _ _)
   | (with_reducible exact variorumref03_Badness.mono _ _ _)
   | (with_reducible exact variorumref03_Total.mono _ _)
   | (with_reducible exact LeO.refl _)
   | (with_reducible exact LeO.none _)
   | (with_reducible refine LeO.ite ?_ ?_)
   | (with_reducible refine LeO.bind ?_ (fun _ => ?_))
   | exact ih0 _ _ _ _ _ _ _ _ _ _ _ _
   | exact variorumref03_Badness.mono _ _ _
   | exact variorumref03_Total.mono _ _
   | exact LeO.none _
   | refine LeO.ite ?_ ?_
   | refine LeO.bind ?_ (fun _ => ?_)
set_option maxHeartbeats 8000000 in
set_option maxRecDepth 100000 in
theorem variorumref03_Set.calls (k : Nat) (A0 : Option Addr) (c0 : Nat) (l0 : List (S45)) (a1 : Int) (r1 : Int) (r2 : Int) (r3 : Int) (r4 : Int) (r5 : Bool) (w : World) (hr0 : Kd.C k45 w A0 l0.length l0) (hc0 : l0.length ≤ c0) (h : variorumref03_Set.f k l0 a1 = some (r1, r2, r3, r4, r5)) :
  Calls Try.prog 28 #[.slice A0 l0.length c0, .int .i64 a1] w fun e w' => e = .returned (.tuple #[.agg #[.int .i64 r1, .int .i64 r2, .int .i64 r3, .int .i64 r4], .bool r5]) ∧ Below w.heap.size w w' := by
 have hu40 := Try.underlying40
 have hu54 := Try.underlying54
 have HR0 := Aside0.mk hr0
 have HC0 := Aside0.mk hc0
 clear hr0 hc0
 have HB := Aside0.mk (Below.refl w.heap.size w)
 have H : ((variorumref03_Total.f k l0).bind fun bt282 => ((variorumref02_Sub.f a1 bt282.1).bind fun bt290 => (if bt282.2.2.2.2.2.2 = true then (variorumref03_Set.j0 k bt290.1 (!bt290.2) 0 0 0 0 bt282.1 bt282.2.1 bt282.2.2.1 bt282.2.2.2.1 bt282.2.2.2.2.1 bt282.2.2.2.2.2.1) else (variorumref03_Set.j0 k bt290.1 true 0 0 0 0 bt282.1 bt282.2.1 bt282.2.2.1 bt282.2.2.2.1 bt282.2.2.2.2.1 bt282.2.2.2.2.2.1)))) = some (r1, r2, r3, r4, r5) := h
 clear h
 replace H := Option.bind_eq_some_iff.mp H
 obtain ⟨⟨t282, t283, t284, t285, t286, t287, t288⟩, A30, H⟩ := H
 replace H : ((variorumref02_Sub.f a1 t282).bind fun bt290 => (if t288 = true then (variorumref03_Set.j0 k bt290.1 (!bt290.2) 0 0 0 0 t282 t283 t284 t285 t286 t287) else (variorumref03_Set.j0 k bt290.1 true 0 0 0 0 t282 t283 t284 t285 t286 t287))) = some (r1, r2, r3, r4, r5) := H
 have A3 := Aside0.mk A30
 clear A30
 replace H := Option.bind_eq_some_iff.mp H
 obtain ⟨⟨t290, t291⟩, A40, H⟩ := H
 replace H : (if t288 = true then (variorumref03_Set.j0 k t290 (!t291) 0 0 0 0 t282 t283 t284 t285 t286 t287) else (variorumref03_Set.j0 k t290 true 0 0 0 0 t282 t283 t284 t285 t286 t287)) = some (r1, r2, r3, r4, r5) := H
 have A4 := Aside0.mk A40
 clear A40
 have HC5 := Aside0.mk H
 clear H
 go_enter Try.func28, Try.ntmps28
 go_upto_region 4 with (first | ((with_reducible refine gate_dst (N := 4) rfl ?_); refine box_event ?hg (N := 4) ?hd (cs := #[.int .i64 0, .int .i64 0, .int .i64 0, .int .i64 0]) (t := 40) ?hr ?_; (case hd => rfl); (case hg => rfl); (case hr => first | (go_simp; done) | (go_simp; rfl)); intro gb280 hg w6 hbox hb; have n0_ := Aside0.mk (below_step (by repeat (first | (with_reducible first | exact HB.out | apply below_alloc | apply pw_below_drewN | apply below_drew1) | exact HB.out)) hb); have n1_ := Aside0.mk (hbox); have n2_ := Aside0.mk ((by rw [hg]; exact (below_size (by repeat (first | (with_reducible first | exact HB.out | apply below_alloc | apply pw_below_drewN | apply below_drew1) | exact HB.out))) : w.heap.size ≤ gb280)); have n3_ := Aside0.mk ((by rw [hg]; exact (below_size (by repeat (first | (with_reducible first | exact HB.out | apply below_alloc | apply pw_below_drewN | apply below_drew1) | exact HB.out))) : w.heap.size ≤ gb280)); clear HB; have HB := n0_; have BK280 := n1_; have GW280 := n2_; have GE280 := n3_; clear n0_ n1_ n2_ n3_; clear hb hbox hg) | ((with_reducible refine gate_dst (N := 6) rfl ?_); refine box_event ?hg (N := 6) ?hd (cs := #[.int .i64 0, .int .i64 0, .int .i64 0, .int .i64 0]) (t := 40) ?hr ?_; (case hd => rfl); (case hg => rfl); (case hr => first | (go_simp; done) | (go_simp; rfl)); intro gb281 hg w7 hbox hb; have n0_ := Aside0.mk (blk_below (g := gb280) (o := .cells #[.int .i64 0, .int .i64 0, .int .i64 0, .int .i64 0] 40 (0, 0)) (by (with_reducible repeat (first | refine blk_drewN ?_ _ | refine blk_drew ?_ | refine blk_alloc ?_ _)); exact BK280.out) hb); have n1_ := Aside0.mk (below_step (by repeat (first | (with_reducible first | exact HB.out | apply below_alloc | apply pw_below_drewN | apply below_drew1 | refine below_set ?_ GE280.out) | exact HB.out)) hb); have n2_ := Aside0.mk (hbox); have n3_ := Aside0.mk ((by rw [hg]; exact (below_size (by repeat (first | (with_reducible first | exact HB.out | apply below_alloc | apply pw_below_drewN | apply below_drew1 | refine below_set ?_ GE280.out) | exact HB.out))) : w.heap.size ≤ gb281)); have n4_ := Aside0.mk ((by rw [hg]; exact (below_size (by repeat (first | (with_reducible first | exact HB.out | apply below_alloc | apply pw_below_drewN | apply below_drew1 | refine below_set ?_ GE280.out) | exact HB.out))) : w.heap.size ≤ gb281)); have n5_ := Aside0.mk ((by rw [hg]; exact Nat.ne_of_lt (blk_lt (g := gb280) (o := .cells #[.int .i64 0, .int .i64 0, .int .i64 0, .int .i64 0] 40 (0, 0)) (by (with_reducible repeat (first | refine blk_drewN ?_ _ | refine blk_drew ?_ | refine blk_alloc ?_ _)); exact BK280.out)) : gb280 ≠ gb281)); have n6_ := Aside0.mk ((by rw [hg]; exact Nat.ne_of_gt (blk_lt (g := gb280) (o := .cells #[.int .i64 0, .int .i64 0, .int .i64 0, .int .i64 0] 40 (0, 0)) (by (with_reducible repeat (first | refine blk_drewN ?_ _ | refine blk_drew ?_ | refine blk_alloc ?_ _)); exact BK280.out)) : gb281 ≠ gb280)); clear BK280; clear HB; have BK280 := n0_; have HB := n1_; have BK281 := n2_; have GW281 := n3_; have GE281 := n4_; have NB280_281 := n5_; have NB281_280 := n6_; clear n0_ n1_ n2_ n3_ n4_ n5_ n6_; clear hb hbox hg; have hnb8 := NB281_280.out; have hnc8 := NB280_281.out; have hcz9_0 : w7.cell? ⟨gb281, 0, none⟩ = some (.int .i64 0) := (blk_cell BK281.out 0).trans rfl; have hcz9_1 : w7.cell? ⟨gb281, 1, none⟩ = some (.int .i64 0) := (blk_cell BK281.out 1).trans rfl; have hcz9_2 : w7.cell? ⟨gb281, 2, none⟩ = some (.int .i64 0) := (blk_cell BK281.out 2).trans rfl; have hcz9_3 : w7.cell? ⟨gb281, 3, none⟩ = some (.int .i64 0) := (blk_cell BK281.out 3).trans rfl; have hfz9_0 := blk_frozen BK281.out 0; have hfz9_1 := blk_frozen BK281.out 1; have hfz9_2 := blk_frozen BK281.out 2; have hfz9_3 := blk_frozen BK281.out 3) | ((with_reducible refine gate_callee (f := 33) rfl ?_); refine goesL_ (some 16) rfl rfl Try.func33 (by kernel_rfl) rfl #[.slice A0 l0.length c0] rfl (by (try simp only [List.map_toArray, List.map_cons, List.map_nil]); first | done | rfl | (simp only [List.length_drop, List.length_take]; rfl) | (simp only [*]; first | done | rfl)) ?_; (with_reducible refine (variorumref03_Total.calls k _ _ l0 t282 t283 t284 t285 t286 t287 t288 _ ?side1 ?side2 A3.out).mono ?_); (case side1 => exact Kd.C_below HR0.out (by repeat (first | (with_reducible first | exact HB.out | apply below_alloc | apply pw_below_drewN | apply below_drew1 | refine below_set ?_ GE280.out | refine below_set ?_ GE281.out) | exact HB.out))); (case side2 => exact HC0.out); rintro e w10 ⟨rfl, hb⟩; refine ⟨_, rfl, ?_⟩; have n0_ := Aside0.mk (blk_below (g := gb280) (o := .cells #[.int .i64 0, .int .i64 0, .int .i64 0, .int .i64 0] 40 (0, 0)) (by (with_reducible repeat (first | refine blk_drewN ?_ _ | refine blk_drew ?_ | refine blk_alloc ?_ _)); refine blk_far ?_ NB280_281.out _; (with_reducible repeat (first | refine blk_drewN ?_ _ | refine blk_drew ?_ | refine blk_alloc ?_ _)); refine blk_far ?_ NB280_281.out _; (with_reducible repeat (first | refine blk_drewN ?_ _ | refine blk_drew ?_ | refine blk_alloc ?_ _)); refine blk_far ?_ NB280_281.out _; (with_reducible repeat (first | refine blk_drewN ?_ _ | refine blk_drew ?_ | refine blk_alloc ?_ _)); refine blk_far ?_ NB280_281.out _; (with_reducible repeat (first | refine blk_drewN ?_ _ | refine blk_drew ?_ | refine blk_alloc ?_ _)); exact BK280.out) hb); have n1_ := Aside0.mk (blk_below (g := gb281) (o := .cells #[.int .i64 0, .int .i64 0, .int .i64 0, .int .i64 0] 40 (0, 0)) (by (with_reducible repeat (first | refine blk_drewN ?_ _ | refine blk_drew ?_ | refine blk_alloc ?_ _)); refine blk_put (cs := #[.int .i64 0, .int .i64 0, .int .i64 0, .int .i64 0]) ?_ 3 _ rfl; (with_reducible repeat (first | refine blk_drewN ?_ _ | refine blk_drew ?_ | refine blk_alloc ?_ _)); refine blk_put (cs := #[.int .i64 0, .int .i64 0, .int .i64 0, .int .i64 0]) ?_ 2 _ rfl; (with_reducible repeat (first | refine blk_drewN ?_ _ | refine blk_drew ?_ | refine blk_alloc ?_ _)); refine blk_put (cs := #[.int .i64 0, .int .i64 0, .int .i64 0, .int .i64 0]) ?_ 1 _ rfl; (with_reducible repeat (first | refine blk_drewN ?_ _ | refine blk_drew ?_ | refine blk_alloc ?_ _)); refine blk_put (cs := #[.int .i64 0, .int .i64 0, .int .i64 0, .int .i64 0]) ?_ 0 _ rfl; (with_reducible repeat (first | refine blk_drewN ?_ _ | refine blk_drew ?_ | refine blk_alloc ?_ _)); exact BK281.out) hb); have n2_ := Aside0.mk (below_step (by repeat (first | (with_reducible first | exact HB.out | apply below_alloc | apply pw_below_drewN | apply below_drew1 | refine below_set ?_ GE280.out | refine below_set ?_ GE281.out) | exact HB.out)) hb); clear BK280; clear BK281; clear HB; have BK280 := n0_; have BK281 := n1_; have HB := n2_; clear n0_ n1_ n2_; (try clear hb); (try clear hb2); (try clear hk); (try clear hi)) | ((with_reducible refine gate_dst (N := 7) rfl ?_); refine box_event ?hg (N := 7) ?hd (cs := #[.int .i64 0, .int .i64 0, .int .i64 0, .int .i64 0, .int .i64 0, .int .i64 0]) (t := 54) ?hr ?_; (case hd => rfl); (case hg => rfl); (case hr => first | (go_simp; done) | (go_simp; rfl)); intro gb289 hg w11 hbox hb; have n0_ := Aside0.mk (blk_below (g := gb280) (o := .cells #[.int .i64 0, .int .i64 0, .int .i64 0, .int .i64 0] 40 (0, 0)) (by (with_reducible repeat (first | refine blk_drewN ?_ _ | refine blk_drew ?_ | refine blk_alloc ?_ _)); exact BK280.out) hb); have n1_ := Aside0.mk (blk_below (g := gb281) (o := .cells #[.int .i64 0, .int .i64 0, .int .i64 0, .int .i64 0] 40 (0, 0)) (by (with_reducible repeat (first | refine blk_drewN ?_ _ | refine blk_drew ?_ | refine blk_alloc ?_ _)); exact BK281.out) hb); have n2_ := Aside0.mk (below_step (by repeat (first | (with_reducible first | exact HB.out | apply below_alloc | apply pw_below_drewN | apply below_drew1 | refine below_set ?_ GE280.out | refine below_set ?_ GE281.out) | exact HB.out)) hb); have n3_ := Aside0.mk (hbox); have n4_ := Aside0.mk ((by rw [hg]; exact (below_size (by repeat (first | (with_reducible first | exact HB.out | apply below_alloc | apply pw_below_drewN | apply below_drew1 | refine below_set ?_ GE280.out | refine below_set ?_ GE281.out) | exact HB.out))) : w.heap.size ≤ gb289)); have n5_ := Aside0.mk ((by rw [hg]; exact (below_size (by repeat (first | (with_reducible first | exact HB.out | apply below_alloc | apply pw_below_drewN | apply below_drew1 | refine below_set ?_ GE280.out | refine below_set ?_ GE281.out) | exact HB.out))) : w.heap.size ≤ gb289)); have n6_ := Aside0.mk ((by rw [hg]; exact Nat.ne_of_lt (blk_lt (g := gb280) (o := .cells #[.int .i64 0, .int .i64 0, .int .i64 0, .int .i64 0] 40 (0, 0)) (by (with_reducible repeat (first | refine blk_drewN ?_ _ | refine blk_drew ?_ | refine blk_alloc ?_ _)); exact BK280.out)) : gb280 ≠ gb289)); have n7_ := Aside0.mk ((by rw [hg]; exact Nat.ne_of_gt (blk_lt (g := gb280) (o := .cells #[.int .i64 0, .int .i64 0, .int .i64 0, .int .i64 0] 40 (0, 0)) (by (with_reducible repeat (first | refine blk_drewN ?_ _ | refine blk_drew ?_ | refine blk_alloc ?_ _)); exact BK280.out)) : gb289 ≠ gb280)); have n8_ := Aside0.mk ((by rw [hg]; exact Nat.ne_of_lt (blk_lt (g := gb281) (o := .cells #[.int .i64 0, .int .i64 0, .int .i64 0, .int .i64 0] 40 (0, 0)) (by (with_reducible repeat (first | refine blk_drewN ?_ _ | refine blk_drew ?_ | refine blk_alloc ?_ _)); exact BK281.out)) : gb281 ≠ gb289)); have n9_ := Aside0.mk ((by rw [hg]; exact Nat.ne_of_gt (blk_lt (g := gb281) (o := .cells #[.int .i64 0, .int .i64 0, .int .i64 0, .int .i64 0] 40 (0, 0)) (by (with_reducible repeat (first | refine blk_drewN ?_ _ | refine blk_drew ?_ | refine blk_alloc ?_ _)); exact BK281.out)) : gb289 ≠ gb281)); clear BK280; clear BK281; clear HB; have BK280 := n0_; have BK281 := n1_; have HB := n2_; have BK289 := n3_; have GW289 := n4_; have GE289 := n5_; have NB280_289 := n6_; have NB289_280 := n7_; have NB281_289 := n8_; have NB289_281 := n9_; clear n0_ n1_ n2_ n3_ n4_ n5_ n6_ n7_ n8_ n9_; clear hb hbox hg; have hnb12 := NB289_280.out; have hnc12 := NB280_289.out; have hnb13 := NB289_281.out; have hnc13 := NB281_289.out; have hcz14_0 : w11.cell? ⟨gb289, 0, none⟩ = some (.int .i64 0) := (blk_cell BK289.out 0).trans rfl; have hcz14_1 : w11.cell? ⟨gb289, 1, none⟩ = some (.int .i64 0) := (blk_cell BK289.out 1).trans rfl; have hcz14_2 : w11.cell? ⟨gb289, 2, none⟩ = some (.int .i64 0) := (blk_cell BK289.out 2).trans rfl; have hcz14_3 : w11.cell? ⟨gb289, 3, none⟩ = some (.int .i64 0) := (blk_cell BK289.out 3).trans rfl; have hcz14_4 : w11.cell? ⟨gb289, 4, none⟩ = some (.int .i64 0) := (blk_cell BK289.out 4).trans rfl; have hcz14_5 : w11.cell? ⟨gb289, 5, none⟩ = some (.int .i64 0) := (blk_cell BK289.out 5).trans rfl; have hfz14_0 := blk_frozen BK289.out 0; have hfz14_1 := blk_frozen BK289.out 1; have hfz14_2 := blk_frozen BK289.out 2; have hfz14_3 := blk_frozen BK289.out 3; have hfz14_4 := blk_frozen BK289.out 4; have hfz14_5 := blk_frozen BK289.out 5) | ((with_reducible refine gate_callee (f := 34) rfl ?_); refine goesL_ (some 23) rfl rfl Try.func34 (by kernel_rfl) rfl #[.int .i64 a1, .int .i64 t282] rfl (by (try simp only [List.map_toArray, List.map_cons, List.map_nil]); first | done | rfl | (simp only [List.length_drop, List.length_take]; rfl) | (simp only [*]; first | done | rfl)) ?_; (with_reducible refine (variorumref02_Sub.calls a1 t282 t290 t291 _ A4.out).mono ?_); rintro e w' ⟨rfl, ⟨nd, rfl⟩⟩; refine ⟨_, rfl, ?_⟩))
 (try simp only [Act.put, List.setIfInBounds_toArray, List.set_cons_zero, List.set_cons_succ])
 go_cut [31] (fun v31 wc => ∃ (kq : Nat) (x31_4 : Bool), v31 = .bool x31_4 ∧ Aside0 (variorumref03_Set.j0 kq t290 x31_4 0 0 0 0 t282 t283 t284 t285 t286 t287 = some (r1, r2, r3, r4, r5)) ∧ Aside0 (kq ≤ k) ∧ Aside0 (wc.heap[gb280]? = some (.cells #[.int .i64 0, .int .i64 0, .int .i64 0, .int .i64 0] 40 (0, 0))) ∧ Aside0 (wc.heap[gb281]? = some (.cells #[.int .i64 0, .int .i64 0, .int .i64 0, .int .i64 0] 40 (0, 0))) ∧ Aside0 (wc.heap[gb289]? = some (.cells #[.int .i64 t282, .int .i64 t283, .int .i64 t284, .int .i64 t285, .int .i64 t286, .int .i64 t287] 54 (0, 0))) ∧ Aside0 (Below w.heap.size w wc))
 case first =>
  have H := HC5.out
  clear HC5
  by_cases c15 : t288 = true
  ·subst c15
   have H1 : (variorumref03_Set.j0 k t290 (!t291) 0 0 0 0 t282 t283 t284 t285 t286 t287) = some (r1, r2, r3, r4, r5) := by rw [if_pos rfl] at H; exact H
   clear H
   have H := H1
   clear H1
   have H' := Aside0.mk H
   clear H
   go_wp2
   go_meet
   case rel => exact ⟨_, (!t291), (by first | rfl | (simp; done) | (simp [*]; done)), H', ⟨by first | omega | exact Nat.le_refl _⟩, ⟨by (with_reducible repeat (first | refine blk_drewN ?_ _ | refine blk_drew ?_ | refine blk_alloc ?_ _)); refine blk_far ?_ NB280_289.out _; (with_reducible repeat (first | refine blk_drewN ?_ _ | refine blk_drew ?_ | refine blk_alloc ?_ _)); refine blk_far ?_ NB280_289.out _; (with_reducible repeat (first | refine blk_drewN ?_ _ | refine blk_drew ?_ | refine blk_alloc ?_ _)); refine blk_far ?_ NB280_289.out _; (with_reducible repeat (first | refine blk_drewN ?_ _ | refine blk_drew ?_ | refine blk_alloc ?_ _)); refine blk_far ?_ NB280_289.out _; (with_reducible repeat (first | refine blk_drewN ?_ _ | refine blk_drew ?_ | refine blk_alloc ?_ _)); refine blk_far ?_ NB280_289.out _; (with_reducible repeat (first | refine blk_drewN ?_ _ | refine blk_drew ?_ | refine blk_alloc ?_ _)); refine blk_far ?_ NB280_289.out _; (with_reducible repeat (first | refine blk_drewN ?_ _ | refine blk_drew ?_ | refine blk_alloc ?_ _)); exact BK280.out⟩, ⟨by (with_reducible repeat (first | refine blk_drewN ?_ _ | refine blk_drew ?_ | refine blk_alloc ?_ _)); refine blk_far ?_ NB281_289.out _; (with_reducible repeat (first | refine blk_drewN ?_ _ | refine blk_drew ?_ | refine blk_alloc ?_ _)); refine blk_far ?_ NB281_289.out _; (with_reducible repeat (first | refine blk_drewN ?_ _ | refine blk_drew ?_ | refine blk_alloc ?_ _)); refine blk_far ?_ NB281_289.out _; (with_reducible repeat (first | refine blk_drewN ?_ _ | refine blk_drew ?_ | refine blk_alloc ?_ _)); refine blk_far ?_ NB281_289.out _; (with_reducible repeat (first | refine blk_drewN ?_ _ | refine blk_drew ?_ | refine blk_alloc ?_ _)); refine blk_far ?_ NB281_289.out _; (with_reducible repeat (first | refine blk_drewN ?_ _ | refine blk_drew ?_ | refine blk_alloc ?_ _)); refine blk_far ?_ NB281_289.out _; (with_reducible repeat (first | refine blk_drewN ?_ _ | refine blk_drew ?_ | refine blk_alloc ?_ _)); exact BK281.out⟩, ⟨by (with_reducible repeat (first | refine blk_drewN ?_ _ | refine blk_drew ?_ | refine blk_alloc ?_ _)); refine blk_put (cs := #[.int .i64 t282, .int .i64 t283, .int .i64 t284, .int .i64 t285, .int .i64 t286, .int .i64 0]) ?_ 5 _ rfl; (with_reducible repeat (first | refine blk_drewN ?_ _ | refine blk_drew ?_ | refine blk_alloc ?_ _)); refine blk_put (cs := #[.int .i64 t282, .int .i64 t283, .int .i64 t284, .int .i64 t285, .int .i64 0, .int .i64 0]) ?_ 4 _ rfl; (with_reducible repeat (first | refine blk_drewN ?_ _ | refine blk_drew ?_ | refine blk_alloc ?_ _)); refine blk_put (cs := #[.int .i64 t282, .int .i64 t283, .int .i64 t284, .int .i64 0, .int .i64 0, .int .i64 0]) ?_ 3 _ rfl; (with_reducible repeat (first | refine blk_drewN ?_ _ | refine blk_drew ?_ | refine blk_alloc ?_ _)); refine blk_put (cs := #[.int .i64 t282, .int .i64 t283, .int .i64 0, .int .i64 0, .int .i64 0, .int .i64 0]) ?_ 2 _ rfl; (with_reducible repeat (first | refine blk_drewN ?_ _ | refine blk_drew ?_ | refine blk_alloc ?_ _)); refine blk_put (cs := #[.int .i64 t282, .int .i64 0, .int .i64 0, .int .i64 0, .int .i64 0, .int .i64 0]) ?_ 1 _ rfl; (with_reducible repeat (first | refine blk_drewN ?_ _ | refine blk_drew ?_ | refine blk_alloc ?_ _)); refine blk_put (cs := #[.int .i64 0, .int .i64 0, .int .i64 0, .int .i64 0, .int .i64 0, .int .i64 0]) ?_ 0 _ rfl; (with_reducible repeat (first | refine blk_drewN ?_ _ | refine blk_drew ?_ | refine blk_alloc ?_ _)); exact BK289.out⟩, ⟨by repeat (first | (with_reducible first | exact HB.out | apply below_alloc | apply pw_below_drewN | apply below_drew1 | refine below_set ?_ GE280.out | refine below_set ?_ GE281.out | refine below_set ?_ GE289.out) | exact HB.out)⟩⟩
  ·replace c15 := Bool.eq_false_iff.mpr c15
   subst c15
   have H1 : (variorumref03_Set.j0 k t290 true 0 0 0 0 t282 t283 t284 t285 t286 t287) = some (r1, r2, r3, r4, r5) := by rw [if_neg (show ¬ (false = true) by decide)] at H; exact H
   clear H
   have H := H1
   clear H1
   have H' := Aside0.mk H
   clear H
   go_wp2
   go_meet
   case rel => exact ⟨_, (true), (by first | rfl | (simp; done) | (simp [*]; done)), H', ⟨by first | omega | exact Nat.le_refl _⟩, ⟨by (with_reducible repeat (first | refine blk_drewN ?_ _ | refine blk_drew ?_ | refine blk_alloc ?_ _)); refine blk_far ?_ NB280_289.out _; (with_reducible repeat (first | refine blk_drewN ?_ _ | refine blk_drew ?_ | refine blk_alloc ?_ _)); refine blk_far ?_ NB280_289.out _; (with_reducible repeat (first | refine blk_drewN ?_ _ | refine blk_drew ?_ | refine blk_alloc ?_ _)); refine blk_far ?_ NB280_289.out _; (with_reducible repeat (first | refine blk_drewN ?_ _ | refine blk_drew ?_ | refine blk_alloc ?_ _)); refine blk_far ?_ NB280_289.out _; (with_reducible repeat (first | refine blk_drewN ?_ _ | refine blk_drew ?_ | refine blk_alloc ?_ _)); refine blk_far ?_ NB280_289.out _; (with_reducible repeat (first | refine blk_drewN ?_ _ | refine blk_drew ?_ | refine blk_alloc ?_ _)); refine blk_far ?_ NB280_289.out _; (with_reducible repeat (first | refine blk_drewN ?_ _ | refine blk_drew ?_ | refine blk_alloc ?_ _)); exact BK280.out⟩, ⟨by (with_reducible repeat (first | refine blk_drewN ?_ _ | refine blk_drew ?_ | refine blk_alloc ?_ _)); refine blk_far ?_ NB281_289.out _; (with_reducible repeat (first | refine blk_drewN ?_ _ | refine blk_drew ?_ | refine blk_alloc ?_ _)); refine blk_far ?_ NB281_289.out _; (with_reducible repeat (first | refine blk_drewN ?_ _ | refine blk_drew ?_ | refine blk_alloc ?_ _)); refine blk_far ?_ NB281_289.out _; (with_reducible repeat (first | refine blk_drewN ?_ _ | refine blk_drew ?_ | refine blk_alloc ?_ _)); refine blk_far ?_ NB281_289.out _; (with_reducible repeat (first | refine blk_drewN ?_ _ | refine blk_drew ?_ | refine blk_alloc ?_ _)); refine blk_far ?_ NB281_289.out _; (with_reducible repeat (first | refine blk_drewN ?_ _ | refine blk_drew ?_ | refine blk_alloc ?_ _)); refine blk_far ?_ NB281_289.out _; (with_reducible repeat (first | refine blk_drewN ?_ _ | refine blk_drew ?_ | refine blk_alloc ?_ _)); exact BK281.out⟩, ⟨by (with_reducible repeat (first | refine blk_drewN ?_ _ | refine blk_drew ?_ | refine blk_alloc ?_ _)); refine blk_put (cs := #[.int .i64 t282, .int .i64 t283, .int .i64 t284, .int .i64 t285, .int .i64 t286, .int .i64 0]) ?_ 5 _ rfl; (with_reducible repeat (first | refine blk_drewN ?_ _ | refine blk_drew ?_ | refine blk_alloc ?_ _)); refine blk_put (cs := #[.int .i64 t282, .int .i64 t283, .int .i64 t284, .int .i64 t285, .int .i64 0, .int .i64 0]) ?_ 4 _ rfl; (with_reducible repeat (first | refine blk_drewN ?_ _ | refine blk_drew ?_ | refine blk_alloc ?_ _)); refine blk_put (cs := #[.int .i64 t282, .int .i64 t283, .int .i64 t284, .int .i64 0, .int .i64 0, .int .i64 0]) ?_ 3 _ rfl; (with_reducible repeat (first | refine blk_drewN ?_ _ | refine blk_drew ?_ | refine blk_alloc ?_ _)); refine blk_put (cs := #[.int .i64 t282, .int .i64 t283, .int .i64 0, .int .i64 0, .int .i64 0, .int .i64 0]) ?_ 2 _ rfl; (with_reducible repeat (first | refine blk_drewN ?_ _ | refine blk_drew ?_ | refine blk_alloc ?_ _)); refine blk_put (cs := #[.int .i64 t282, .int .i64 0, .int .i64 0, .int .i64 0, .int .i64 0, .int .i64 0]) ?_ 1 _ rfl; (with_reducible repeat (first | refine blk_drewN ?_ _ | refine blk_drew ?_ | refine blk_alloc ?_ _)); refine blk_put (cs := #[.int .i64 0, .int .i64 0, .int .i64 0, .int .i64 0, .int .i64 0, .int .i64 0]) ?_ 0 _ rfl; (with_reducible repeat (first | refine blk_drewN ?_ _ | refine blk_drew ?_ | refine blk_alloc ?_ _)); exact BK289.out⟩, ⟨by repeat (first | (with_reducible first | exact HB.out | apply below_alloc | apply pw_below_drewN | apply below_drew1 | refine below_set ?_ GE280.out | refine below_set ?_ GE281.out | refine below_set ?_ GE289.out) | exact HB.out)⟩⟩
 case rest =>
  clear HC5
  try clear c1
  try clear c2
  try clear p2
  try clear c3
  try clear c8
  try clear c12
  try clear c13
  try clear c15
  try clear hcz14_0
  try clear hcz14_1
  try clear hcz14_2
  try clear hcz14_3
  try clear hcz14_4
  try clear hcz14_5
  try clear hcz9_0
  try clear hcz9_1
  try clear hcz9_2
  try clear hcz9_3
  try clear hfz14_0
  try clear hfz14_1
  try clear hfz14_2
  try clear hfz14_3
  try clear hfz14_4
  try clear hfz14_5
  try clear hfz9_0
  try clear hfz9_1
  try clear hfz9_2
  try clear hfz9_3
  obtain ⟨kq, x31_4, rfl, HA, HJ4, BK280, BK281, BK289, HB⟩ := hcut
  cases kq with
  | zero => exact absurd HA.out (by simp [variorumref03_Set.j0])
  | succ kj4 =>
   have H := HA.out
   clear HA
   simp only [variorumref03_Set.j0] at H
   by_cases c16 : x31_4 = true
   ·subst c16
    have H1 : (some (0, 0, 0, 0, false)) = some (r1, r2, r3, r4, r5) := by rw [if_pos rfl] at H; exact H
    clear H
    have H := H1
    clear H1
    simp only [Option.some.injEq, Prod.mk.injEq] at H
    obtain ⟨rfl, rfl, rfl, rfl, rfl⟩ := H
    have hnb17 := NB281_280.out
    have hnc17 := NB280_281.out
    have hnb18 := NB281_289.out
    have hnc18 := NB289_281.out
    have hcz19_0 : wc.cell? ⟨gb281, 0, none⟩ = some (.int .i64 0) := (blk_cell BK281.out 0).trans rfl
    have hcz19_1 : wc.cell? ⟨gb281, 1, none⟩ = some (.int .i64 0) := (blk_cell BK281.out 1).trans rfl
    have hcz19_2 : wc.cell? ⟨gb281, 2, none⟩ = some (.int .i64 0) := (blk_cell BK281.out 2).trans rfl
    have hcz19_3 : wc.cell? ⟨gb281, 3, none⟩ = some (.int .i64 0) := (blk_cell BK281.out 3).trans rfl
    have hfz19_0 := blk_frozen BK281.out 0
    have hfz19_1 := blk_frozen BK281.out 1
    have hfz19_2 := blk_frozen BK281.out 2
    have hfz19_3 := blk_frozen BK281.out 3
    have hnb20 := NB280_289.out
    have hnc20 := NB289_280.out
    have hcz21_0 : wc.cell? ⟨gb280, 0, none⟩ = some (.int .i64 0) := (blk_cell BK280.out 0).trans rfl
    have hcz21_1 : wc.cell? ⟨gb280, 1, none⟩ = some (.int .i64 0) := (blk_cell BK280.out 1).trans rfl
    have hcz21_2 : wc.cell? ⟨gb280, 2, none⟩ = some (.int .i64 0) := (blk_cell BK280.out 2).trans rfl
    have hcz21_3 : wc.cell? ⟨gb280, 3, none⟩ = some (.int .i64 0) := (blk_cell BK280.out 3).trans rfl
    have hfz21_0 := blk_frozen BK280.out 0
    have hfz21_1 := blk_frozen BK280.out 1
    have hfz21_2 := blk_frozen BK280.out 2
    have hfz21_3 := blk_frozen BK280.out 3
    go_wp2
    refine bodyPost_ret (results_ct rfl _ _ gb280 40 #[.int .i64 0, .int .i64 0, .int .i64 0, .int .i64 0] (0, 0) _ rfl (by (with_reducible repeat (first | refine blk_drewN ?_ _ | refine blk_drew ?_ | refine blk_alloc ?_ _)); refine blk_put (cs := #[.int .i64 0, .int .i64 0, .int .i64 0, .int .i64 0]) ?_ 3 _ rfl; (with_reducible repeat (first | refine blk_drewN ?_ _ | refine blk_drew ?_ | refine blk_alloc ?_ _)); refine blk_put (cs := #[.int .i64 0, .int .i64 0, .int .i64 0, .int .i64 0]) ?_ 2 _ rfl; (with_reducible repeat (first | refine blk_drewN ?_ _ | refine blk_drew ?_ | refine blk_alloc ?_ _)); refine blk_put (cs := #[.int .i64 0, .int .i64 0, .int .i64 0, .int .i64 0]) ?_ 1 _ rfl; (with_reducible repeat (first | refine blk_drewN ?_ _ | refine blk_drew ?_ | refine blk_alloc ?_ _)); refine blk_put (cs := #[.int .i64 0, .int .i64 0, .int .i64 0, .int .i64 0]) ?_ 0 _ rfl; (with_reducible repeat (first | refine blk_drewN ?_ _ | refine blk_drew ?_ | refine blk_alloc ?_ _)); exact BK280.out) Try.underlying40 rfl (by kernel_rfl)) rfl ?_
    exact ⟨by first | rfl | (simp [errW_none, errW_some] <;> rfl) | (simp [*, errW_none, errW_some] <;> rfl), by repeat (first | (with_reducible first | exact HB.out | apply below_alloc | apply pw_below_drewN | apply below_drew1 | refine below_set ?_ GE280.out | refine below_set ?_ GE281.out | refine below_set ?_ GE289.out) | exact HB.out)⟩
   ·replace c16 := Bool.eq_false_iff.mpr c16
    subst c16
    have H1 : (if t290 = 0 then (some (0, 0, 0, 0, true)) else (if t290 < 0 then ((variorumref03_Badness.f kj4 (wrap64 (-t290)) t283).bind fun t292 => (if t283 < (wrap64 (-t290)) then (some ((-1), 0, t290, 1000000, true)) else (some ((-1), 0, t290, t292, true)))) else (if t287 > 0 then (some (1, 3, t290, 0, true)) else (if t286 > 0 then (some (1, 2, t290, 0, true)) else (if t285 > 0 then (some (1, 1, t290, 0, true)) else (if t284 > 0 then ((variorumref03_Badness.f kj4 t290 t284).bind fun t293 => (some (1, 0, t290, t293, true))) else (some (0, 0, t290, 10000, true)))))))) = some (r1, r2, r3, r4, r5) := by rw [if_neg (show ¬ (false = true) by decide)] at H; exact H
    clear H
    have H := H1
    clear H1
    by_cases c22 : t290 = 0
    ·rw [if_pos c22] at H
     have c22b0 : (t290 == 0) = true := beq_iff_eq.mpr c22
     have c22b1 : (t290 != 0) = false := bne_eq_false_iff_eq.mpr c22
     clear c22
     simp only [Option.some.injEq, Prod.mk.injEq] at H
     obtain ⟨rfl, rfl, rfl, rfl, rfl⟩ := H
     have hnb23 := NB281_280.out
     have hnc23 := NB280_281.out
     have hnb24 := NB281_289.out
     have hnc24 := NB289_281.out
     have hcz25_0 : wc.cell? ⟨gb281, 0, none⟩ = some (.int .i64 0) := (blk_cell BK281.out 0).trans rfl
     have hcz25_1 : wc.cell? ⟨gb281, 1, none⟩ = some (.int .i64 0) := (blk_cell BK281.out 1).trans rfl
     have hcz25_2 : wc.cell? ⟨gb281, 2, none⟩ = some (.int .i64 0) := (blk_cell BK281.out 2).trans rfl
     have hcz25_3 : wc.cell? ⟨gb281, 3, none⟩ = some (.int .i64 0) := (blk_cell BK281.out 3).trans rfl
     have hfz25_0 := blk_frozen BK281.out 0
     have hfz25_1 := blk_frozen BK281.out 1
     have hfz25_2 := blk_frozen BK281.out 2
     have hfz25_3 := blk_frozen BK281.out 3
     have hnb26 := NB280_289.out
     have hnc26 := NB289_280.out
     have hcz27_0 : wc.cell? ⟨gb280, 0, none⟩ = some (.int .i64 0) := (blk_cell BK280.out 0).trans rfl
     have hcz27_1 : wc.cell? ⟨gb280, 1, none⟩ = some (.int .i64 0) := (blk_cell BK280.out 1).trans rfl
     have hcz27_2 : wc.cell? ⟨gb280, 2, none⟩ = some (.int .i64 0) := (blk_cell BK280.out 2).trans rfl
     have hcz27_3 : wc.cell? ⟨gb280, 3, none⟩ = some (.int .i64 0) := (blk_cell BK280.out 3).trans rfl
     have hfz27_0 := blk_frozen BK280.out 0
     have hfz27_1 := blk_frozen BK280.out 1
     have hfz27_2 := blk_frozen BK280.out 2
     have hfz27_3 := blk_frozen BK280.out 3
     go_wp2
     refine bodyPost_ret (results_ct rfl _ _ gb280 40 #[.int .i64 0, .int .i64 0, .int .i64 0, .int .i64 0] (0, 0) _ rfl (by (with_reducible repeat (first | refine blk_drewN ?_ _ | refine blk_drew ?_ | refine blk_alloc ?_ _)); refine blk_put (cs := #[.int .i64 0, .int .i64 0, .int .i64 0, .int .i64 0]) ?_ 3 _ rfl; (with_reducible repeat (first | refine blk_drewN ?_ _ | refine blk_drew ?_ | refine blk_alloc ?_ _)); refine blk_put (cs := #[.int .i64 0, .int .i64 0, .int .i64 0, .int .i64 0]) ?_ 2 _ rfl; (with_reducible repeat (first | refine blk_drewN ?_ _ | refine blk_drew ?_ | refine blk_alloc ?_ _)); refine blk_put (cs := #[.int .i64 0, .int .i64 0, .int .i64 0, .int .i64 0]) ?_ 1 _ rfl; (with_reducible repeat (first | refine blk_drewN ?_ _ | refine blk_drew ?_ | refine blk_alloc ?_ _)); refine blk_put (cs := #[.int .i64 0, .int .i64 0, .int .i64 0, .int .i64 0]) ?_ 0 _ rfl; (with_reducible repeat (first | refine blk_drewN ?_ _ | refine blk_drew ?_ | refine blk_alloc ?_ _)); exact BK280.out) Try.underlying40 rfl (by kernel_rfl)) rfl ?_
     exact ⟨by first | rfl | (simp [errW_none, errW_some] <;> rfl) | (simp [*, errW_none, errW_some] <;> rfl), by repeat (first | (with_reducible first | exact HB.out | apply below_alloc | apply pw_below_drewN | apply below_drew1 | refine below_set ?_ GE280.out | refine below_set ?_ GE281.out | refine below_set ?_ GE289.out) | exact HB.out)⟩
    ·rw [if_neg c22] at H
     have c22b0 : (t290 == 0) = false := beq_eq_false_iff_ne.mpr c22
     have c22b1 : (t290 != 0) = true := bne_iff_ne.mpr c22
     by_cases c28 : t290 < 0
     ·rw [if_pos c28] at H
      have c28b0 : decide (t290 < 0) = true := decide_eq_true c28
      clear c28
      replace H := Option.bind_eq_some_iff.mp H
      obtain ⟨t292, A290, H⟩ := H
      replace H : (if t283 < (wrap64 (-t290)) then (some ((-1), 0, t290, 1000000, true)) else (some ((-1), 0, t290, t292, true))) = some (r1, r2, r3, r4, r5) := H
      have A29 := Aside0.mk A290
      clear A290
      by_cases c30 : t283 < (wrap64 (-t290))
      ·rw [if_pos c30] at H
       have c30b0 : decide (t283 < (wrap64 (-t290))) = true := decide_eq_true c30
       clear c30
       simp only [Option.some.injEq, Prod.mk.injEq] at H
       obtain ⟨rfl, rfl, rfl, rfl, rfl⟩ := H
       have hnb31 := NB289_280.out
       have hnc31 := NB280_289.out
       have hnb32 := NB289_281.out
       have hnc32 := NB281_289.out
       have hcz33_0 : wc.cell? ⟨gb289, 0, none⟩ = some (.int .i64 t282) := (blk_cell BK289.out 0).trans rfl
       have hcz33_1 : wc.cell? ⟨gb289, 1, none⟩ = some (.int .i64 t283) := (blk_cell BK289.out 1).trans rfl
       have hcz33_2 : wc.cell? ⟨gb289, 2, none⟩ = some (.int .i64 t284) := (blk_cell BK289.out 2).trans rfl
       have hcz33_3 : wc.cell? ⟨gb289, 3, none⟩ = some (.int .i64 t285) := (blk_cell BK289.out 3).trans rfl
       have hcz33_4 : wc.cell? ⟨gb289, 4, none⟩ = some (.int .i64 t286) := (blk_cell BK289.out 4).trans rfl
       have hcz33_5 : wc.cell? ⟨gb289, 5, none⟩ = some (.int .i64 t287) := (blk_cell BK289.out 5).trans rfl
       have hfz33_0 := blk_frozen BK289.out 0
       have hfz33_1 := blk_frozen BK289.out 1
       have hfz33_2 := blk_frozen BK289.out 2
       have hfz33_3 := blk_frozen BK289.out 3
       have hfz33_4 := blk_frozen BK289.out 4
       have hfz33_5 := blk_frozen BK289.out 5
       go_wp2_with (first | ((with_reducible refine gate_callee (f := 35) rfl ?_); refine goesL_ (some 42) rfl rfl Try.func35 (by kernel_rfl) rfl #[.int .i64 (wrap64 (-t290)), .int .i64 t283] rfl (by (try simp only [List.map_toArray, List.map_cons, List.map_nil]); first | done | rfl | (simp only [List.length_drop, List.length_take]; rfl) | (simp only [*]; first | done | rfl)) ?_; (with_reducible refine (variorumref03_Badness.calls kj4 (wrap64 (-t290)) t283 t292 _ A29.out).mono ?_); rintro e w' ⟨rfl, ⟨nd, rfl⟩⟩; refine ⟨_, rfl, ?_⟩; (try (rw [drewN_self wc]; generalize hq_ : World.drewN wc _ = wc; have n0_ : Aside0 (wc.heap[gb280]? = some (.cells #[.int .i64 0, .int .i64 0, .int .i64 0, .int .i64 0] 40 (0, 0))) := ⟨by rw [← hq_]; exact (by (with_reducible repeat (first | refine blk_drewN ?_ _ | refine blk_drew ?_ | refine blk_alloc ?_ _)); exact BK280.out)⟩; have n1_ : Aside0 (wc.heap[gb281]? = some (.cells #[.int .i64 0, .int .i64 0, .int .i64 0, .int .i64 0] 40 (0, 0))) := ⟨by rw [← hq_]; exact (by (with_reducible repeat (first | refine blk_drewN ?_ _ | refine blk_drew ?_ | refine blk_alloc ?_ _)); exact BK281.out)⟩; have n2_ : Aside0 (wc.heap[gb289]? = some (.cells #[.int .i64 t282, .int .i64 t283, .int .i64 t284, .int .i64 t285, .int .i64 t286, .int .i64 t287] 54 (0, 0))) := ⟨by rw [← hq_]; exact (by (with_reducible repeat (first | refine blk_drewN ?_ _ | refine blk_drew ?_ | refine blk_alloc ?_ _)); exact BK289.out)⟩; have n3_ : Aside0 (Below w.heap.size w wc) := ⟨by rw [← hq_]; exact (by repeat (first | (with_reducible first | exact HB.out | apply below_alloc | apply pw_below_drewN | apply below_drew1 | refine below_set ?_ GE280.out | refine below_set ?_ GE281.out | refine below_set ?_ GE289.out) | exact HB.out))⟩; clear BK280 BK281 BK289 HB hq_; have BK280 := n0_; have BK281 := n1_; have BK289 := n2_; have HB := n3_; clear n0_ n1_ n2_ n3_)); have hnb34 := NB280_281.out; have hnc34 := NB281_280.out; have hcz35_0 : wc.cell? ⟨gb280, 0, none⟩ = some (.int .i64 0) := (blk_cell BK280.out 0).trans rfl; have hcz35_1 : wc.cell? ⟨gb280, 1, none⟩ = some (.int .i64 0) := (blk_cell BK280.out 1).trans rfl; have hcz35_2 : wc.cell? ⟨gb280, 2, none⟩ = some (.int .i64 0) := (blk_cell BK280.out 2).trans rfl; have hcz35_3 : wc.cell? ⟨gb280, 3, none⟩ = some (.int .i64 0) := (blk_cell BK280.out 3).trans rfl; have hfz35_0 := blk_frozen BK280.out 0; have hfz35_1 := blk_frozen BK280.out 1; have hfz35_2 := blk_frozen BK280.out 2; have hfz35_3 := blk_frozen BK280.out 3; have hy1 : wc.cell? ⟨gb289, 1, none⟩ = some (.int .i64 t283) := (blk_cell BK289.out 1).trans rfl))
       refine bodyPost_ret (results_ct rfl _ _ gb280 40 #[.int .i64 (-1), .int .i64 0, .int .i64 t290, .int .i64 1000000] (0, 0) _ rfl (by (with_reducible repeat (first | refine blk_drewN ?_ _ | refine blk_drew ?_ | refine blk_alloc ?_ _)); refine blk_put (cs := #[.int .i64 (-1), .int .i64 0, .int .i64 t290, .int .i64 0]) ?_ 3 _ rfl; (with_reducible repeat (first | refine blk_drewN ?_ _ | refine blk_drew ?_ | refine blk_alloc ?_ _)); refine blk_put (cs := #[.int .i64 (-1), .int .i64 0, .int .i64 0, .int .i64 0]) ?_ 2 _ rfl; (with_reducible repeat (first | refine blk_drewN ?_ _ | refine blk_drew ?_ | refine blk_alloc ?_ _)); refine blk_put (cs := #[.int .i64 (-1), .int .i64 0, .int .i64 0, .int .i64 0]) ?_ 1 _ rfl; (with_reducible repeat (first | refine blk_drewN ?_ _ | refine blk_drew ?_ | refine blk_alloc ?_ _)); refine blk_put (cs := #[.int .i64 0, .int .i64 0, .int .i64 0, .int .i64 0]) ?_ 0 _ rfl; (with_reducible repeat (first | refine blk_drewN ?_ _ | refine blk_drew ?_ | refine blk_alloc ?_ _)); exact BK280.out) Try.underlying40 rfl (by kernel_rfl)) rfl ?_
       exact ⟨by first | rfl | (simp [errW_none, errW_some] <;> rfl) | (simp [*, errW_none, errW_some] <;> rfl), by repeat (first | (with_reducible first | exact HB.out | apply below_alloc | apply pw_below_drewN | apply below_drew1 | refine below_set ?_ GE280.out | refine below_set ?_ GE281.out | refine below_set ?_ GE289.out) | exact HB.out)⟩
      ·rw [if_neg c30] at H
       have c30b0 : decide (t283 < (wrap64 (-t290))) = false := decide_eq_false c30
       clear c30
       simp only [Option.some.injEq, Prod.mk.injEq] at H
       obtain ⟨rfl, rfl, rfl, rfl, rfl⟩ := H
       have hnb36 := NB289_280.out
       have hnc36 := NB280_289.out
       have hnb37 := NB289_281.out
       have hnc37 := NB281_289.out
       have hcz38_0 : wc.cell? ⟨gb289, 0, none⟩ = some (.int .i64 t282) := (blk_cell BK289.out 0).trans rfl
       have hcz38_1 : wc.cell? ⟨gb289, 1, none⟩ = some (.int .i64 t283) := (blk_cell BK289.out 1).trans rfl
       have hcz38_2 : wc.cell? ⟨gb289, 2, none⟩ = some (.int .i64 t284) := (blk_cell BK289.out 2).trans rfl
       have hcz38_3 : wc.cell? ⟨gb289, 3, none⟩ = some (.int .i64 t285) := (blk_cell BK289.out 3).trans rfl
       have hcz38_4 : wc.cell? ⟨gb289, 4, none⟩ = some (.int .i64 t286) := (blk_cell BK289.out 4).trans rfl
       have hcz38_5 : wc.cell? ⟨gb289, 5, none⟩ = some (.int .i64 t287) := (blk_cell BK289.out 5).trans rfl
       have hfz38_0 := blk_frozen BK289.out 0
       have hfz38_1 := blk_frozen BK289.out 1
       have hfz38_2 := blk_frozen BK289.out 2
       have hfz38_3 := blk_frozen BK289.out 3
       have hfz38_4 := blk_frozen BK289.out 4
       have hfz38_5 := blk_frozen BK289.out 5
       go_wp2_with (first | ((with_reducible refine gate_callee (f := 35) rfl ?_); refine goesL_ (some 42) rfl rfl Try.func35 (by kernel_rfl) rfl #[.int .i64 (wrap64 (-t290)), .int .i64 t283] rfl (by (try simp only [List.map_toArray, List.map_cons, List.map_nil]); first | done | rfl | (simp only [List.length_drop, List.length_take]; rfl) | (simp only [*]; first | done | rfl)) ?_; (with_reducible refine (variorumref03_Badness.calls kj4 (wrap64 (-t290)) t283 t292 _ A29.out).mono ?_); rintro e w' ⟨rfl, ⟨nd, rfl⟩⟩; refine ⟨_, rfl, ?_⟩; (try (rw [drewN_self wc]; generalize hq_ : World.drewN wc _ = wc; have n0_ : Aside0 (wc.heap[gb280]? = some (.cells #[.int .i64 0, .int .i64 0, .int .i64 0, .int .i64 0] 40 (0, 0))) := ⟨by rw [← hq_]; exact (by (with_reducible repeat (first | refine blk_drewN ?_ _ | refine blk_drew ?_ | refine blk_alloc ?_ _)); exact BK280.out)⟩; have n1_ : Aside0 (wc.heap[gb281]? = some (.cells #[.int .i64 0, .int .i64 0, .int .i64 0, .int .i64 0] 40 (0, 0))) := ⟨by rw [← hq_]; exact (by (with_reducible repeat (first | refine blk_drewN ?_ _ | refine blk_drew ?_ | refine blk_alloc ?_ _)); exact BK281.out)⟩; have n2_ : Aside0 (wc.heap[gb289]? = some (.cells #[.int .i64 t282, .int .i64 t283, .int .i64 t284, .int .i64 t285, .int .i64 t286, .int .i64 t287] 54 (0, 0))) := ⟨by rw [← hq_]; exact (by (with_reducible repeat (first | refine blk_drewN ?_ _ | refine blk_drew ?_ | refine blk_alloc ?_ _)); exact BK289.out)⟩; have n3_ : Aside0 (Below w.heap.size w wc) := ⟨by rw [← hq_]; exact (by repeat (first | (with_reducible first | exact HB.out | apply below_alloc | apply pw_below_drewN | apply below_drew1 | refine below_set ?_ GE280.out | refine below_set ?_ GE281.out | refine below_set ?_ GE289.out) | exact HB.out))⟩; clear BK280 BK281 BK289 HB hq_; have BK280 := n0_; have BK281 := n1_; have BK289 := n2_; have HB := n3_; clear n0_ n1_ n2_ n3_)); have hnb39 := NB280_281.out; have hnc39 := NB281_280.out; have hcz40_0 : wc.cell? ⟨gb280, 0, none⟩ = some (.int .i64 0) := (blk_cell BK280.out 0).trans rfl; have hcz40_1 : wc.cell? ⟨gb280, 1, none⟩ = some (.int .i64 0) := (blk_cell BK280.out 1).trans rfl; have hcz40_2 : wc.cell? ⟨gb280, 2, none⟩ = some (.int .i64 0) := (blk_cell BK280.out 2).trans rfl; have hcz40_3 : wc.cell? ⟨gb280, 3, none⟩ = some (.int .i64 0) := (blk_cell BK280.out 3).trans rfl; have hfz40_0 := blk_frozen BK280.out 0; have hfz40_1 := blk_frozen BK280.out 1; have hfz40_2 := blk_frozen BK280.out 2; have hfz40_3 := blk_frozen BK280.out 3; have hy1 : wc.cell? ⟨gb289, 1, none⟩ = some (.int .i64 t283) := (blk_cell BK289.out 1).trans rfl))
       refine bodyPost_ret (results_ct rfl _ _ gb280 40 #[.int .i64 (-1), .int .i64 0, .int .i64 t290, .int .i64 t292] (0, 0) _ rfl (by (with_reducible repeat (first | refine blk_drewN ?_ _ | refine blk_drew ?_ | refine blk_alloc ?_ _)); refine blk_put (cs := #[.int .i64 (-1), .int .i64 0, .int .i64 t290, .int .i64 0]) ?_ 3 _ rfl; (with_reducible repeat (first | refine blk_drewN ?_ _ | refine blk_drew ?_ | refine blk_alloc ?_ _)); refine blk_put (cs := #[.int .i64 (-1), .int .i64 0, .int .i64 0, .int .i64 0]) ?_ 2 _ rfl; (with_reducible repeat (first | refine blk_drewN ?_ _ | refine blk_drew ?_ | refine blk_alloc ?_ _)); refine blk_put (cs := #[.int .i64 (-1), .int .i64 0, .int .i64 0, .int .i64 0]) ?_ 1 _ rfl; (with_reducible repeat (first | refine blk_drewN ?_ _ | refine blk_drew ?_ | refine blk_alloc ?_ _)); refine blk_put (cs := #[.int .i64 0, .int .i64 0, .int .i64 0, .int .i64 0]) ?_ 0 _ rfl; (with_reducible repeat (first | refine blk_drewN ?_ _ | refine blk_drew ?_ | refine blk_alloc ?_ _)); exact BK280.out) Try.underlying40 rfl (by kernel_rfl)) rfl ?_
       exact ⟨by first | rfl | (simp [errW_none, errW_some] <;> rfl) | (simp [*, errW_none, errW_some] <;> rfl), by repeat (first | (with_reducible first | exact HB.out | apply below_alloc | apply pw_below_drewN | apply below_drew1 | refine below_set ?_ GE280.out | refine below_set ?_ GE281.out | refine below_set ?_ GE289.out) | exact HB.out)⟩
     ·rw [if_neg c28] at H
      have c28b0 : decide (t290 < 0) = false := decide_eq_false c28
      clear c28
      by_cases c41 : t287 > 0
      ·rw [if_pos c41] at H
       have c41b0 : decide (0 < t287) = true := decide_eq_true c41
       clear c41
       simp only [Option.some.injEq, Prod.mk.injEq] at H
       obtain ⟨rfl, rfl, rfl, rfl, rfl⟩ := H
       have hnb42 := NB289_280.out
       have hnc42 := NB280_289.out
       have hnb43 := NB289_281.out
       have hnc43 := NB281_289.out
       have hcz44_0 : wc.cell? ⟨gb289, 0, none⟩ = some (.int .i64 t282) := (blk_cell BK289.out 0).trans rfl
       have hcz44_1 : wc.cell? ⟨gb289, 1, none⟩ = some (.int .i64 t283) := (blk_cell BK289.out 1).trans rfl
       have hcz44_2 : wc.cell? ⟨gb289, 2, none⟩ = some (.int .i64 t284) := (blk_cell BK289.out 2).trans rfl
       have hcz44_3 : wc.cell? ⟨gb289, 3, none⟩ = some (.int .i64 t285) := (blk_cell BK289.out 3).trans rfl
       have hcz44_4 : wc.cell? ⟨gb289, 4, none⟩ = some (.int .i64 t286) := (blk_cell BK289.out 4).trans rfl
       have hcz44_5 : wc.cell? ⟨gb289, 5, none⟩ = some (.int .i64 t287) := (blk_cell BK289.out 5).trans rfl
       have hfz44_0 := blk_frozen BK289.out 0
       have hfz44_1 := blk_frozen BK289.out 1
       have hfz44_2 := blk_frozen BK289.out 2
       have hfz44_3 := blk_frozen BK289.out 3
       have hfz44_4 := blk_frozen BK289.out 4
       have hfz44_5 := blk_frozen BK289.out 5
       have hnb45 := NB280_281.out
       have hnc45 := NB281_280.out
       have hcz46_0 : wc.cell? ⟨gb280, 0, none⟩ = some (.int .i64 0) := (blk_cell BK280.out 0).trans rfl
       have hcz46_1 : wc.cell? ⟨gb280, 1, none⟩ = some (.int .i64 0) := (blk_cell BK280.out 1).trans rfl
       have hcz46_2 : wc.cell? ⟨gb280, 2, none⟩ = some (.int .i64 0) := (blk_cell BK280.out 2).trans rfl
       have hcz46_3 : wc.cell? ⟨gb280, 3, none⟩ = some (.int .i64 0) := (blk_cell BK280.out 3).trans rfl
       have hfz46_0 := blk_frozen BK280.out 0
       have hfz46_1 := blk_frozen BK280.out 1
       have hfz46_2 := blk_frozen BK280.out 2
       have hfz46_3 := blk_frozen BK280.out 3
       go_wp2
       refine wp_loop_rounds 4 ?_
       repeat (rw [rounds_succ]; go_wp2)
       refine bodyPost_ret (results_ct rfl _ _ gb280 40 #[.int .i64 1, .int .i64 3, .int .i64 t290, .int .i64 0] (0, 0) _ rfl (by (with_reducible repeat (first | refine blk_drewN ?_ _ | refine blk_drew ?_ | refine blk_alloc ?_ _)); refine blk_put (cs := #[.int .i64 1, .int .i64 3, .int .i64 t290, .int .i64 0]) ?_ 3 _ rfl; (with_reducible repeat (first | refine blk_drewN ?_ _ | refine blk_drew ?_ | refine blk_alloc ?_ _)); refine blk_put (cs := #[.int .i64 1, .int .i64 3, .int .i64 0, .int .i64 0]) ?_ 2 _ rfl; (with_reducible repeat (first | refine blk_drewN ?_ _ | refine blk_drew ?_ | refine blk_alloc ?_ _)); refine blk_put (cs := #[.int .i64 1, .int .i64 0, .int .i64 0, .int .i64 0]) ?_ 1 _ rfl; (with_reducible repeat (first | refine blk_drewN ?_ _ | refine blk_drew ?_ | refine blk_alloc ?_ _)); refine blk_put (cs := #[.int .i64 0, .int .i64 0, .int .i64 0, .int .i64 0]) ?_ 0 _ rfl; (with_reducible repeat (first | refine blk_drewN ?_ _ | refine blk_drew ?_ | refine blk_alloc ?_ _)); exact BK280.out) Try.underlying40 rfl (by kernel_rfl)) rfl ?_
       exact ⟨by first | rfl | (simp [errW_none, errW_some] <;> rfl) | (simp [*, errW_none, errW_some] <;> rfl), by repeat (first | (with_reducible first | exact HB.out | apply below_alloc | apply pw_below_drewN | apply below_drew1 | refine below_set ?_ GE280.out | refine below_set ?_ GE281.out | refine below_set ?_ GE289.out) | exact HB.out)⟩
      ·rw [if_neg c41] at H
       have c41b0 : decide (0 < t287) = false := decide_eq_false c41
       clear c41
       by_cases c47 : t286 > 0
       ·rw [if_pos c47] at H
        have c47b0 : decide (0 < t286) = true := decide_eq_true c47
        clear c47
        simp only [Option.some.injEq, Prod.mk.injEq] at H
        obtain ⟨rfl, rfl, rfl, rfl, rfl⟩ := H
        have hnb48 := NB289_280.out
        have hnc48 := NB280_289.out
        have hnb49 := NB289_281.out
        have hnc49 := NB281_289.out
        have hcz50_0 : wc.cell? ⟨gb289, 0, none⟩ = some (.int .i64 t282) := (blk_cell BK289.out 0).trans rfl
        have hcz50_1 : wc.cell? ⟨gb289, 1, none⟩ = some (.int .i64 t283) := (blk_cell BK289.out 1).trans rfl
        have hcz50_2 : wc.cell? ⟨gb289, 2, none⟩ = some (.int .i64 t284) := (blk_cell BK289.out 2).trans rfl
        have hcz50_3 : wc.cell? ⟨gb289, 3, none⟩ = some (.int .i64 t285) := (blk_cell BK289.out 3).trans rfl
        have hcz50_4 : wc.cell? ⟨gb289, 4, none⟩ = some (.int .i64 t286) := (blk_cell BK289.out 4).trans rfl
        have hcz50_5 : wc.cell? ⟨gb289, 5, none⟩ = some (.int .i64 t287) := (blk_cell BK289.out 5).trans rfl
        have hfz50_0 := blk_frozen BK289.out 0
        have hfz50_1 := blk_frozen BK289.out 1
        have hfz50_2 := blk_frozen BK289.out 2
        have hfz50_3 := blk_frozen BK289.out 3
        have hfz50_4 := blk_frozen BK289.out 4
        have hfz50_5 := blk_frozen BK289.out 5
        have hnb51 := NB280_281.out
        have hnc51 := NB281_280.out
        have hcz52_0 : wc.cell? ⟨gb280, 0, none⟩ = some (.int .i64 0) := (blk_cell BK280.out 0).trans rfl
        have hcz52_1 : wc.cell? ⟨gb280, 1, none⟩ = some (.int .i64 0) := (blk_cell BK280.out 1).trans rfl
        have hcz52_2 : wc.cell? ⟨gb280, 2, none⟩ = some (.int .i64 0) := (blk_cell BK280.out 2).trans rfl
        have hcz52_3 : wc.cell? ⟨gb280, 3, none⟩ = some (.int .i64 0) := (blk_cell BK280.out 3).trans rfl
        have hfz52_0 := blk_frozen BK280.out 0
        have hfz52_1 := blk_frozen BK280.out 1
        have hfz52_2 := blk_frozen BK280.out 2
        have hfz52_3 := blk_frozen BK280.out 3
        go_wp2
        refine wp_loop_rounds 4 ?_
        repeat (rw [rounds_succ]; go_wp2)
        refine bodyPost_ret (results_ct rfl _ _ gb280 40 #[.int .i64 1, .int .i64 2, .int .i64 t290, .int .i64 0] (0, 0) _ rfl (by (with_reducible repeat (first | refine blk_drewN ?_ _ | refine blk_drew ?_ | refine blk_alloc ?_ _)); refine blk_put (cs := #[.int .i64 1, .int .i64 2, .int .i64 t290, .int .i64 0]) ?_ 3 _ rfl; (with_reducible repeat (first | refine blk_drewN ?_ _ | refine blk_drew ?_ | refine blk_alloc ?_ _)); refine blk_put (cs := #[.int .i64 1, .int .i64 2, .int .i64 0, .int .i64 0]) ?_ 2 _ rfl; (with_reducible repeat (first | refine blk_drewN ?_ _ | refine blk_drew ?_ | refine blk_alloc ?_ _)); refine blk_put (cs := #[.int .i64 1, .int .i64 0, .int .i64 0, .int .i64 0]) ?_ 1 _ rfl; (with_reducible repeat (first | refine blk_drewN ?_ _ | refine blk_drew ?_ | refine blk_alloc ?_ _)); refine blk_put (cs := #[.int .i64 0, .int .i64 0, .int .i64 0, .int .i64 0]) ?_ 0 _ rfl; (with_reducible repeat (first | refine blk_drewN ?_ _ | refine blk_drew ?_ | refine blk_alloc ?_ _)); exact BK280.out) Try.underlying40 rfl (by kernel_rfl)) rfl ?_
        exact ⟨by first | rfl | (simp [errW_none, errW_some] <;> rfl) | (simp [*, errW_none, errW_some] <;> rfl), by repeat (first | (with_reducible first | exact HB.out | apply below_alloc | apply pw_below_drewN | apply below_drew1 | refine below_set ?_ GE280.out | refine below_set ?_ GE281.out | refine below_set ?_ GE289.out) | exact HB.out)⟩
       ·rw [if_neg c47] at H
        have c47b0 : decide (0 < t286) = false := decide_eq_false c47
        clear c47
        by_cases c53 : t285 > 0
        ·rw [if_pos c53] at H
         have c53b0 : decide (0 < t285) = true := decide_eq_true c53
         clear c53
         simp only [Option.some.injEq, Prod.mk.injEq] at H
         obtain ⟨rfl, rfl, rfl, rfl, rfl⟩ := H
         have hnb54 := NB289_280.out
         have hnc54 := NB280_289.out
         have hnb55 := NB289_281.out
         have hnc55 := NB281_289.out
         have hcz56_0 : wc.cell? ⟨gb289, 0, none⟩ = some (.int .i64 t282) := (blk_cell BK289.out 0).trans rfl
         have hcz56_1 : wc.cell? ⟨gb289, 1, none⟩ = some (.int .i64 t283) := (blk_cell BK289.out 1).trans rfl
         have hcz56_2 : wc.cell? ⟨gb289, 2, none⟩ = some (.int .i64 t284) := (blk_cell BK289.out 2).trans rfl
         have hcz56_3 : wc.cell? ⟨gb289, 3, none⟩ = some (.int .i64 t285) := (blk_cell BK289.out 3).trans rfl
         have hcz56_4 : wc.cell? ⟨gb289, 4, none⟩ = some (.int .i64 t286) := (blk_cell BK289.out 4).trans rfl
         have hcz56_5 : wc.cell? ⟨gb289, 5, none⟩ = some (.int .i64 t287) := (blk_cell BK289.out 5).trans rfl
         have hfz56_0 := blk_frozen BK289.out 0
         have hfz56_1 := blk_frozen BK289.out 1
         have hfz56_2 := blk_frozen BK289.out 2
         have hfz56_3 := blk_frozen BK289.out 3
         have hfz56_4 := blk_frozen BK289.out 4
         have hfz56_5 := blk_frozen BK289.out 5
         have hnb57 := NB280_281.out
         have hnc57 := NB281_280.out
         have hcz58_0 : wc.cell? ⟨gb280, 0, none⟩ = some (.int .i64 0) := (blk_cell BK280.out 0).trans rfl
         have hcz58_1 : wc.cell? ⟨gb280, 1, none⟩ = some (.int .i64 0) := (blk_cell BK280.out 1).trans rfl
         have hcz58_2 : wc.cell? ⟨gb280, 2, none⟩ = some (.int .i64 0) := (blk_cell BK280.out 2).trans rfl
         have hcz58_3 : wc.cell? ⟨gb280, 3, none⟩ = some (.int .i64 0) := (blk_cell BK280.out 3).trans rfl
         have hfz58_0 := blk_frozen BK280.out 0
         have hfz58_1 := blk_frozen BK280.out 1
         have hfz58_2 := blk_frozen BK280.out 2
         have hfz58_3 := blk_frozen BK280.out 3
         go_wp2
         refine wp_loop_rounds 4 ?_
         repeat (rw [rounds_succ]; go_wp2)
         refine bodyPost_ret (results_ct rfl _ _ gb280 40 #[.int .i64 1, .int .i64 1, .int .i64 t290, .int .i64 0] (0, 0) _ rfl (by (with_reducible repeat (first | refine blk_drewN ?_ _ | refine blk_drew ?_ | refine blk_alloc ?_ _)); refine blk_put (cs := #[.int .i64 1, .int .i64 1, .int .i64 t290, .int .i64 0]) ?_ 3 _ rfl; (with_reducible repeat (first | refine blk_drewN ?_ _ | refine blk_drew ?_ | refine blk_alloc ?_ _)); refine blk_put (cs := #[.int .i64 1, .int .i64 1, .int .i64 0, .int .i64 0]) ?_ 2 _ rfl; (with_reducible repeat (first | refine blk_drewN ?_ _ | refine blk_drew ?_ | refine blk_alloc ?_ _)); refine blk_put (cs := #[.int .i64 1, .int .i64 0, .int .i64 0, .int .i64 0]) ?_ 1 _ rfl; (with_reducible repeat (first | refine blk_drewN ?_ _ | refine blk_drew ?_ | refine blk_alloc ?_ _)); refine blk_put (cs := #[.int .i64 0, .int .i64 0, .int .i64 0, .int .i64 0]) ?_ 0 _ rfl; (with_reducible repeat (first | refine blk_drewN ?_ _ | refine blk_drew ?_ | refine blk_alloc ?_ _)); exact BK280.out) Try.underlying40 rfl (by kernel_rfl)) rfl ?_
         exact ⟨by first | rfl | (simp [errW_none, errW_some] <;> rfl) | (simp [*, errW_none, errW_some] <;> rfl), by repeat (first | (with_reducible first | exact HB.out | apply below_alloc | apply pw_below_drewN | apply below_drew1 | refine below_set ?_ GE280.out | refine below_set ?_ GE281.out | refine below_set ?_ GE289.out) | exact HB.out)⟩
        ·rw [if_neg c53] at H
         have c53b0 : decide (0 < t285) = false := decide_eq_false c53
         clear c53
         by_cases c59 : t284 > 0
         ·rw [if_pos c59] at H
          have c59b0 : decide (0 < t284) = true := decide_eq_true c59
          clear c59
          replace H := Option.bind_eq_some_iff.mp H
          obtain ⟨t293, A600, H⟩ := H
          replace H : (some (1, 0, t290, t293, true)) = some (r1, r2, r3, r4, r5) := H
          have A60 := Aside0.mk A600
          clear A600
          simp only [Option.some.injEq, Prod.mk.injEq] at H
          obtain ⟨rfl, rfl, rfl, rfl, rfl⟩ := H
          have hnb61 := NB289_280.out
          have hnc61 := NB280_289.out
          have hnb62 := NB289_281.out
          have hnc62 := NB281_289.out
          have hcz63_0 : wc.cell? ⟨gb289, 0, none⟩ = some (.int .i64 t282) := (blk_cell BK289.out 0).trans rfl
          have hcz63_1 : wc.cell? ⟨gb289, 1, none⟩ = some (.int .i64 t283) := (blk_cell BK289.out 1).trans rfl
          have hcz63_2 : wc.cell? ⟨gb289, 2, none⟩ = some (.int .i64 t284) := (blk_cell BK289.out 2).trans rfl
          have hcz63_3 : wc.cell? ⟨gb289, 3, none⟩ = some (.int .i64 t285) := (blk_cell BK289.out 3).trans rfl
          have hcz63_4 : wc.cell? ⟨gb289, 4, none⟩ = some (.int .i64 t286) := (blk_cell BK289.out 4).trans rfl
          have hcz63_5 : wc.cell? ⟨gb289, 5, none⟩ = some (.int .i64 t287) := (blk_cell BK289.out 5).trans rfl
          have hfz63_0 := blk_frozen BK289.out 0
          have hfz63_1 := blk_frozen BK289.out 1
          have hfz63_2 := blk_frozen BK289.out 2
          have hfz63_3 := blk_frozen BK289.out 3
          have hfz63_4 := blk_frozen BK289.out 4
          have hfz63_5 := blk_frozen BK289.out 5
          go_wp2_with (first | ((with_reducible refine gate_callee (f := 35) rfl ?_); refine goesL_ (some 72) rfl rfl Try.func35 (by kernel_rfl) rfl #[.int .i64 t290, .int .i64 t284] rfl (by (try simp only [List.map_toArray, List.map_cons, List.map_nil]); first | done | rfl | (simp only [List.length_drop, List.length_take]; rfl) | (simp only [*]; first | done | rfl)) ?_; (with_reducible refine (variorumref03_Badness.calls kj4 t290 t284 t293 _ A60.out).mono ?_); rintro e w' ⟨rfl, ⟨nd, rfl⟩⟩; refine ⟨_, rfl, ?_⟩; (try (rw [drewN_self wc]; generalize hq_ : World.drewN wc _ = wc; have n0_ : Aside0 (wc.heap[gb280]? = some (.cells #[.int .i64 0, .int .i64 0, .int .i64 0, .int .i64 0] 40 (0, 0))) := ⟨by rw [← hq_]; exact (by (with_reducible repeat (first | refine blk_drewN ?_ _ | refine blk_drew ?_ | refine blk_alloc ?_ _)); exact BK280.out)⟩; have n1_ : Aside0 (wc.heap[gb281]? = some (.cells #[.int .i64 0, .int .i64 0, .int .i64 0, .int .i64 0] 40 (0, 0))) := ⟨by rw [← hq_]; exact (by (with_reducible repeat (first | refine blk_drewN ?_ _ | refine blk_drew ?_ | refine blk_alloc ?_ _)); exact BK281.out)⟩; have n2_ : Aside0 (wc.heap[gb289]? = some (.cells #[.int .i64 t282, .int .i64 t283, .int .i64 t284, .int .i64 t285, .int .i64 t286, .int .i64 t287] 54 (0, 0))) := ⟨by rw [← hq_]; exact (by (with_reducible repeat (first | refine blk_drewN ?_ _ | refine blk_drew ?_ | refine blk_alloc ?_ _)); exact BK289.out)⟩; have n3_ : Aside0 (Below w.heap.size w wc) := ⟨by rw [← hq_]; exact (by repeat (first | (with_reducible first | exact HB.out | apply below_alloc | apply pw_below_drewN | apply below_drew1 | refine below_set ?_ GE280.out | refine below_set ?_ GE281.out | refine below_set ?_ GE289.out) | exact HB.out))⟩; clear BK280 BK281 BK289 HB hq_; have BK280 := n0_; have BK281 := n1_; have BK289 := n2_; have HB := n3_; clear n0_ n1_ n2_ n3_)); have hnb64 := NB280_281.out; have hnc64 := NB281_280.out; have hcz65_0 : wc.cell? ⟨gb280, 0, none⟩ = some (.int .i64 0) := (blk_cell BK280.out 0).trans rfl; have hcz65_1 : wc.cell? ⟨gb280, 1, none⟩ = some (.int .i64 0) := (blk_cell BK280.out 1).trans rfl; have hcz65_2 : wc.cell? ⟨gb280, 2, none⟩ = some (.int .i64 0) := (blk_cell BK280.out 2).trans rfl; have hcz65_3 : wc.cell? ⟨gb280, 3, none⟩ = some (.int .i64 0) := (blk_cell BK280.out 3).trans rfl; have hfz65_0 := blk_frozen BK280.out 0; have hfz65_1 := blk_frozen BK280.out 1; have hfz65_2 := blk_frozen BK280.out 2; have hfz65_3 := blk_frozen BK280.out 3))
          refine wp_loop_rounds 4 ?_
          repeat (rw [rounds_succ]; go_wp2_with (first | ((with_reducible refine gate_callee (f := 35) rfl ?_); refine goesL_ (some 72) rfl rfl Try.func35 (by kernel_rfl) rfl #[.int .i64 t290, .int .i64 t284] rfl (by (try simp only [List.map_toArray, List.map_cons, List.map_nil]); first | done | rfl | (simp only [List.length_drop, List.length_take]; rfl) | (simp only [*]; first | done | rfl)) ?_; (with_reducible refine (variorumref03_Badness.calls kj4 t290 t284 t293 _ A60.out).mono ?_); rintro e w' ⟨rfl, ⟨nd, rfl⟩⟩; refine ⟨_, rfl, ?_⟩; (try (rw [drewN_self wc]; generalize hq_ : World.drewN wc _ = wc; have n0_ : Aside0 (wc.heap[gb280]? = some (.cells #[.int .i64 0, .int .i64 0, .int .i64 0, .int .i64 0] 40 (0, 0))) := ⟨by rw [← hq_]; exact (by (with_reducible repeat (first | refine blk_drewN ?_ _ | refine blk_drew ?_ | refine blk_alloc ?_ _)); exact BK280.out)⟩; have n1_ : Aside0 (wc.heap[gb281]? = some (.cells #[.int .i64 0, .int .i64 0, .int .i64 0, .int .i64 0] 40 (0, 0))) := ⟨by rw [← hq_]; exact (by (with_reducible repeat (first | refine blk_drewN ?_ _ | refine blk_drew ?_ | refine blk_alloc ?_ _)); exact BK281.out)⟩; have n2_ : Aside0 (wc.heap[gb289]? = some (.cells #[.int .i64 t282, .int .i64 t283, .int .i64 t284, .int .i64 t285, .int .i64 t286, .int .i64 t287] 54 (0, 0))) := ⟨by rw [← hq_]; exact (by (with_reducible repeat (first | refine blk_drewN ?_ _ | refine blk_drew ?_ | refine blk_alloc ?_ _)); exact BK289.out)⟩; have n3_ : Aside0 (Below w.heap.size w wc) := ⟨by rw [← hq_]; exact (by repeat (first | (with_reducible first | exact HB.out | apply below_alloc | apply pw_below_drewN | apply below_drew1 | refine below_set ?_ GE280.out | refine below_set ?_ GE281.out | refine below_set ?_ GE289.out) | exact HB.out))⟩; clear BK280 BK281 BK289 HB hq_; have BK280 := n0_; have BK281 := n1_; have BK289 := n2_; have HB := n3_; clear n0_ n1_ n2_ n3_)); have hnb64 := NB280_281.out; have hnc64 := NB281_280.out; have hcz65_0 : wc.cell? ⟨gb280, 0, none⟩ = some (.int .i64 0) := (blk_cell BK280.out 0).trans rfl; have hcz65_1 : wc.cell? ⟨gb280, 1, none⟩ = some (.int .i64 0) := (blk_cell BK280.out 1).trans rfl; have hcz65_2 : wc.cell? ⟨gb280, 2, none⟩ = some (.int .i64 0) := (blk_cell BK280.out 2).trans rfl; have hcz65_3 : wc.cell? ⟨gb280, 3, none⟩ = some (.int .i64 0) := (blk_cell BK280.out 3).trans rfl; have hfz65_0 := blk_frozen BK280.out 0; have hfz65_1 := blk_frozen BK280.out 1; have hfz65_2 := blk_frozen BK280.out 2; have hfz65_3 := blk_frozen BK280.out 3)))
          refine bodyPost_ret (results_ct rfl _ _ gb280 40 #[.int .i64 1, .int .i64 0, .int .i64 t290, .int .i64 t293] (0, 0) _ rfl (by (with_reducible repeat (first | refine blk_drewN ?_ _ | refine blk_drew ?_ | refine blk_alloc ?_ _)); refine blk_put (cs := #[.int .i64 1, .int .i64 0, .int .i64 t290, .int .i64 0]) ?_ 3 _ rfl; (with_reducible repeat (first | refine blk_drewN ?_ _ | refine blk_drew ?_ | refine blk_alloc ?_ _)); refine blk_put (cs := #[.int .i64 1, .int .i64 0, .int .i64 0, .int .i64 0]) ?_ 2 _ rfl; (with_reducible repeat (first | refine blk_drewN ?_ _ | refine blk_drew ?_ | refine blk_alloc ?_ _)); refine blk_put (cs := #[.int .i64 1, .int .i64 0, .int .i64 0, .int .i64 0]) ?_ 1 _ rfl; (with_reducible repeat (first | refine blk_drewN ?_ _ | refine blk_drew ?_ | refine blk_alloc ?_ _)); refine blk_put (cs := #[.int .i64 0, .int .i64 0, .int .i64 0, .int .i64 0]) ?_ 0 _ rfl; (with_reducible repeat (first | refine blk_drewN ?_ _ | refine blk_drew ?_ | refine blk_alloc ?_ _)); exact BK280.out) Try.underlying40 rfl (by kernel_rfl)) rfl ?_
          exact ⟨by first | rfl | (simp [errW_none, errW_some] <;> rfl) | (simp [*, errW_none, errW_some] <;> rfl), by repeat (first | (with_reducible first | exact HB.out | apply below_alloc | apply pw_below_drewN | apply below_drew1 | refine below_set ?_ GE280.out | refine below_set ?_ GE281.out | refine below_set ?_ GE289.out) | exact HB.out)⟩
         ·rw [if_neg c59] at H
          have c59b0 : decide (0 < t284) = false := decide_eq_false c59
          clear c59
          simp only [Option.some.injEq, Prod.mk.injEq] at H
          obtain ⟨rfl, rfl, rfl, rfl, rfl⟩ := H
          have hnb66 := NB289_280.out
          have hnc66 := NB280_289.out
          have hnb67 := NB289_281.out
          have hnc67 := NB281_289.out
          have hcz68_0 : wc.cell? ⟨gb289, 0, none⟩ = some (.int .i64 t282) := (blk_cell BK289.out 0).trans rfl
          have hcz68_1 : wc.cell? ⟨gb289, 1, none⟩ = some (.int .i64 t283) := (blk_cell BK289.out 1).trans rfl
          have hcz68_2 : wc.cell? ⟨gb289, 2, none⟩ = some (.int .i64 t284) := (blk_cell BK289.out 2).trans rfl
          have hcz68_3 : wc.cell? ⟨gb289, 3, none⟩ = some (.int .i64 t285) := (blk_cell BK289.out 3).trans rfl
          have hcz68_4 : wc.cell? ⟨gb289, 4, none⟩ = some (.int .i64 t286) := (blk_cell BK289.out 4).trans rfl
          have hcz68_5 : wc.cell? ⟨gb289, 5, none⟩ = some (.int .i64 t287) := (blk_cell BK289.out 5).trans rfl
          have hfz68_0 := blk_frozen BK289.out 0
          have hfz68_1 := blk_frozen BK289.out 1
          have hfz68_2 := blk_frozen BK289.out 2
          have hfz68_3 := blk_frozen BK289.out 3
          have hfz68_4 := blk_frozen BK289.out 4
          have hfz68_5 := blk_frozen BK289.out 5
          have hnb69 := NB280_281.out
          have hnc69 := NB281_280.out
          have hcz70_0 : wc.cell? ⟨gb280, 0, none⟩ = some (.int .i64 0) := (blk_cell BK280.out 0).trans rfl
          have hcz70_1 : wc.cell? ⟨gb280, 1, none⟩ = some (.int .i64 0) := (blk_cell BK280.out 1).trans rfl
          have hcz70_2 : wc.cell? ⟨gb280, 2, none⟩ = some (.int .i64 0) := (blk_cell BK280.out 2).trans rfl
          have hcz70_3 : wc.cell? ⟨gb280, 3, none⟩ = some (.int .i64 0) := (blk_cell BK280.out 3).trans rfl
          have hfz70_0 := blk_frozen BK280.out 0
          have hfz70_1 := blk_frozen BK280.out 1
          have hfz70_2 := blk_frozen BK280.out 2
          have hfz70_3 := blk_frozen BK280.out 3
          go_wp2
          refine wp_loop_rounds 4 ?_
          repeat (rw [rounds_succ]; go_wp2)
          refine bodyPost_ret (results_ct rfl _ _ gb280 40 #[.int .i64 0, .int .i64 0, .int .i64 t290, .int .i64 10000] (0, 0) _ rfl (by (with_reducible repeat (first | refine blk_drewN ?_ _ | refine blk_drew ?_ | refine blk_alloc ?_ _)); refine blk_put (cs := #[.int .i64 0, .int .i64 0, .int .i64 t290, .int .i64 0]) ?_ 3 _ rfl; (with_reducible repeat (first | refine blk_drewN ?_ _ | refine blk_drew ?_ | refine blk_alloc ?_ _)); refine blk_put (cs := #[.int .i64 0, .int .i64 0, .int .i64 0, .int .i64 0]) ?_ 2 _ rfl; (with_reducible repeat (first | refine blk_drewN ?_ _ | refine blk_drew ?_ | refine blk_alloc ?_ _)); refine blk_put (cs := #[.int .i64 0, .int .i64 0, .int .i64 0, .int .i64 0]) ?_ 1 _ rfl; (with_reducible repeat (first | refine blk_drewN ?_ _ | refine blk_drew ?_ | refine blk_alloc ?_ _)); refine blk_put (cs := #[.int .i64 0, .int .i64 0, .int .i64 0, .int .i64 0]) ?_ 0 _ rfl; (with_reducible repeat (first | refine blk_drewN ?_ _ | refine blk_drew ?_ | refine blk_alloc ?_ _)); exact BK280.out) Try.underlying40 rfl (by kernel_rfl)) rfl ?_
          exact ⟨by first | rfl | (simp [errW_none, errW_some] <;> rfl) | (simp [*, errW_none, errW_some] <;> rfl), by repeat (first | (with_reducible first | exact HB.out | apply below_alloc | apply pw_below_drewN | apply below_drew1 | refine below_set ?_ GE280.out | refine below_set ?_ GE281.out | refine below_set ?_ GE289.out) | exact HB.out)⟩

/-! ### variorumref10_Glues: function 29 -/
mutual
def variorumref10_Glues.j0 : Nat → List (S47) → Int → Int → List (S45) → Bool → Option ((List (S45)))
 | 0, _, _, _, _, _ => none
 | k + 1, x0, x1, x2, x7, x18 => if x18 = true then (some x7) else ((variorumref10_Start.f k x0 x1).bind fun t297 => (variorumref10_Glues.l0 k x0 x2 x7 t297))
def variorumref10_Glues.l0 : Nat → List (S47) → Int → List (S45) → Int → Option ((List (S45)))
 | 0, _, _, _, _ => none
 | k + 1, x0, x2, x7, x9 => if x9 < x2 then (if 0 ≤ x9 then (if x9 < (x0.length : Int) then (if ((rd_T47 x0 x9).f0) = 0 then (if x7.length < 4398046511104 then (variorumref10_Glues.l0 k x0 x2 (x7 ++ [(⟨(rd_T47 x0 x9).f1.f0, (rd_T47 x0 x9).f1.f1, (rd_T47 x0 x9).f1.f2, (rd_T47 x0 x9).f1.f3⟩ : S45)]) (wrap64 (x9 + 1))) else (none)) else (if ((rd_T47 x0 x9).f0) = 1 then (if x7.length < 4398046511104 then (variorumref10_Glues.l0 k x0 x2 (x7 ++ [(⟨(rd_T47 x0 x9).f1.f0, (rd_T47 x0 x9).f1.f1, (rd_T47 x0 x9).f1.f2, (rd_T47 x0 x9).f1.f3⟩ : S45)]) (wrap64 (x9 + 1))) else (none)) else (variorumref10_Glues.l0 k x0 x2 x7 (wrap64 (x9 + 1))))) else (none)) else (none)) else (if 0 ≤ x2 then (if x2 < (x0.length : Int) then (if ((rd_T47 x0 x2).f0) = 2 then (if x7.length < 4398046511104 then (some (x7 ++ [(⟨(rd_T47 x0 x2).f1.f0, 0, 0, 0⟩ : S45)])) else (none)) else (some x7)) else (none)) else (none))
end
def variorumref10_Glues.f (k : Nat) (l0 : List (S47)) (a1 : Int) (a2 : Int) : Option ((List (S45))) := (some (([] : List (S45)) : List (S45))).bind fun y294 => (if a2 < 0 then (variorumref10_Glues.j0 k l0 a1 a2 y294 true) else (variorumref10_Glues.j0 k l0 a1 a2 y294 (decide (a2 ≥ (l0.length : Int)))))
theorem variorumref10_Glues.mono_l : ∀ k, (∀ y0 y1 y2 y3 y4, LeO (variorumref10_Glues.j0 k y0 y1 y2 y3 y4) (variorumref10_Glues.j0 (k + 1) y0 y1 y2 y3 y4)) ∧ (∀ y0 y1 y2 y3, LeO (variorumref10_Glues.l0 k y0 y1 y2 y3) (variorumref10_Glues.l0 (k + 1) y0 y1 y2 y3))
 | 0 => ⟨fun _ _ _ _ _ r h => by simp [variorumref10_Glues.j0] at h, fun _ _ _ _ r h => by simp [variorumref10_Glues.l0] at h⟩
 | k + 1 => by
  obtain ⟨ih0, ih1⟩ := variorumref10_Glues.mono_l k
  refine ⟨?_, ?_⟩
  ·intro y0 y1 y2 y3 y4
   unfold variorumref10_Glues.j0
   repeat' first
   | (with_reducible exact ih0 _ _ _ _ _)
   | (with_reducible exact ih1 _ _ _ _)
   | (with_reducible exact variorumref10_Start.mono _ _ _)
   | (with_reducible exact LeO.refl _)
   | (with_reducible exact LeO.none _)
   | (with_reducible refine LeO.ite ?_ ?_)
   | (with_reducible refine LeO.bind ?_ (fun _ => ?_))
   | exact ih0 _ _ _ _ _
   | exact ih1 _ _ _ _
   | exact variorumref10_Start.mono _ _ _
   | exact LeO.none _
   | refine LeO.ite ?_ ?_
   | refine LeO.bind ?_ (fun _ => ?_)
  ·intro y0 y1 y2 y3
   unfold variorumref10_Glues.l0
   repeat' first
   | (with_reducible exact ih0 _ _ _ _ _)
   | (with_reducible exact ih1 _ _ _ _)
   | (with_reducible exact variorumref10_Start.mono _ _ _)
   | (with_reducible exact LeO.refl _)
   | (with_reducible exact LeO.none _)
   | (with_reducible refine LeO.ite ?_ ?_)
   | (with_reducible refine LeO.bind ?_ (fun _ => ?_))
   | exact ih0 _ _ _ _ _
   | exact ih1 _ _ _ _
   | exact variorumref10_Start.mono _ _ _
   | exact LeO.none _
   | refine LeO.ite ?_ ?_
   | refine LeO.bind ?_ (fun _ => ?_)
theorem variorumref10_Glues.mono : ∀ a0 a1 a2 k, LeO (variorumref10_Glues.f k a0 a1 a2) (variorumref10_Glues.f (k + 1) a0 a1 a2) := by
 intro a0 a1 a2 k
 obtain ⟨ih0, ih1⟩ := variorumref10_Glues.mono_l k
 unfold variorumref10_Glues.f
 repeat' first
   | (with_reducible exact ih0 _ _ _ _ _)
   | (with_reducible exact ih1 _ _ _ _)
   | (with_reducible exact variorumref10_Start.mono _ _ _)
   | (with_reducible exact LeO.refl _)
   | (with_reducible exact LeO.none _)
   | (with_reducible refine LeO.ite ?_ ?_)
   | (with_reducible refine LeO.bind ?_ (fun _ => ?_))
   | exact ih0 _ _ _ _ _
   | exact ih1 _ _ _ _
   | exact variorumref10_Start.mono _ _ _
   | exact LeO.none _
   | refine LeO.ite ?_ ?_
   | refine LeO.bind ?_ (fun _ => ?_)
set_option maxHeartbeats 8000000 in
set_option maxRecDepth 100000 in
theorem variorumref10_Glues.calls (k : Nat) (A0 : Option Addr) (c0 : Nat) (l0 : List (S47)) (a1 : Int) (a2 : Int) (r : List (S45)) (w : World) (hr0 : Kd.C k47 w A0 l0.length l0) (hc0 : l0.length ≤ c0) (h : variorumref10_Glues.f k l0 a1 a2 = some r) :
  Calls Try.prog 29 #[.slice A0 l0.length c0, .int .i64 a1, .int .i64 a2] w fun e w' => ∃ v0_ : Value, e = .returned (v0_) ∧ Kd.R k45 45 w' w.heap.size (fun _ => True) v0_ r ∧ Below w.heap.size w w' := by
 have hu45 := Try.underlying45
 have HR0 := Aside0.mk hr0
 have HC0 := Aside0.mk hc0
 clear hr0 hc0
 have HB := Aside0.mk (Below.refl w.heap.size w)
 have H : ((some (([] : List (S45)) : List (S45))).bind fun y294 => (if a2 < 0 then (variorumref10_Glues.j0 k l0 a1 a2 y294 true) else (variorumref10_Glues.j0 k l0 a1 a2 y294 (decide (a2 ≥ (l0.length : Int)))))) = some r := h
 clear h
 obtain ⟨y294, hy294⟩ : ∃ y_ : List (S45), y_ = (([] : List (S45))) := ⟨_, rfl⟩
 replace H : (if a2 < 0 then (variorumref10_Glues.j0 k l0 a1 a2 y294 true) else (variorumref10_Glues.j0 k l0 a1 a2 y294 (decide (a2 ≥ (l0.length : Int))))) = some r := by first | (rw [hy294]; with_reducible exact H) | (have H2_ := (Option.bind_some _ _).symm.trans H; rw [hy294]; with_reducible exact H2_) | (have H2_ := (Option.bind_some _ _).symm.trans H; with_reducible exact H2_) | with_reducible exact H | (rw [hy294]; exact H) | exact H
 have Ny294 := Aside0.mk hy294
 clear hy294
 have HC4 := Aside0.mk H
 clear H
 go_enter Try.func29, Try.ntmps29
 go_upto_region 2 with (first | ((with_reducible refine gate_dst (N := 10) rfl ?_); (try (refine gate_guard (by rfl) ?_; dsimp only)); refine Kd.R_lit k45 _ 45 ?hg (N := 10) ?hd (xs := ([] : List (S45))) (inner := []) (ok := fun _ => True) (okp := fun _ => True) ?hr ?hp (fun _ hk => hk) trivial (Below.refl _ _) (Nat.le_refl _) (by simp) ?_; (case hd => rfl); (case hg => rfl); (case hr => first | (go_simp; done) | (go_simp; rfl)); (case hp => exact (Reps.none _ _)); intro v295 w5 ho6 hb hg_ hnew_; clear hg_ hnew_; (first | rw [← Ny294.out] at ho6 | (simp only [Int.reduceToNat] at ho6; rw [← Ny294.out] at ho6)); have n0_ := Aside0.mk (Kd.R_lower ho6 (below_size (by repeat (first | (with_reducible first | exact HB.out | apply below_alloc | apply pw_below_drewN | apply below_drew1) | exact HB.out)))); have n1_ := Aside0.mk (below_step (by repeat (first | (with_reducible first | exact HB.out | apply below_alloc | apply pw_below_drewN | apply below_drew1) | exact HB.out)) hb); clear HB; have HO296 := n0_; have HB := n1_; clear n0_ n1_; clear hb ho6))
 (try simp only [Act.put, List.setIfInBounds_toArray, List.set_cons_zero, List.set_cons_succ])
 go_cut [18] (fun v18 wc => ∃ (kq : Nat) (x18_3 : Bool), v18 = .bool x18_3 ∧ Aside0 (variorumref10_Glues.j0 kq l0 a1 a2 y294 x18_3 = some r) ∧ Aside0 (kq ≤ k) ∧ Aside0 (Kd.R k45 45 wc w.heap.size (fun _ => True) v295 y294) ∧ Aside0 (Below w.heap.size w wc))
 case first =>
  have H := HC4.out
  clear HC4
  by_cases c7 : a2 < 0
  ·rw [if_pos c7] at H
   have c7b0 : decide (a2 < 0) = true := decide_eq_true c7
   clear c7
   (first | rw [c7b0] | (simp only [i64_w, i32_w]; rw [c7b0]) | skip)
   have H' := Aside0.mk H
   clear H
   go_wp2
   go_meet
   case rel => exact ⟨_, (true), (by first | rfl | (simp; done) | (simp [*]; done)), H', ⟨by first | omega | exact Nat.le_refl _⟩, ⟨by (with_reducible repeat (first | apply Kd.R_alloc | apply Kd.R_drewN | apply Kd.R_drew)); exact HO296.out⟩, ⟨by repeat (first | (with_reducible first | exact HB.out | apply below_alloc | apply pw_below_drewN | apply below_drew1) | exact HB.out)⟩⟩
  ·rw [if_neg c7] at H
   have c7b0 : decide (a2 < 0) = false := decide_eq_false c7
   clear c7
   (first | rw [c7b0] | (simp only [i64_w, i32_w]; rw [c7b0]) | skip)
   have H' := Aside0.mk H
   clear H
   go_wp2
   go_meet
   case rel => exact ⟨_, (decide (a2 ≥ (l0.length : Int))), (by first | rfl | (simp; done) | (simp [*]; done)), H', ⟨by first | omega | exact Nat.le_refl _⟩, ⟨by (with_reducible repeat (first | apply Kd.R_alloc | apply Kd.R_drewN | apply Kd.R_drew)); exact HO296.out⟩, ⟨by repeat (first | (with_reducible first | exact HB.out | apply below_alloc | apply pw_below_drewN | apply below_drew1) | exact HB.out)⟩⟩
 case rest =>
  clear HC4
  try clear c2
  try clear p2
  try clear c7
  try clear c7b0
  obtain ⟨kq, x18_3, rfl, HA, HJ3, HO_7, HB⟩ := hcut
  cases kq with
  | zero => exact absurd HA.out (by simp [variorumref10_Glues.j0])
  | succ kj3 =>
   have H := HA.out
   clear HA
   simp only [variorumref10_Glues.j0] at H
   by_cases c8 : x18_3 = true
   ·subst c8
    have H1 : (some y294) = some r := by rw [if_pos rfl] at H; exact H
    clear H
    have H := H1
    clear H1
    obtain rfl := Option.some.inj H
    go_wp2
    go_ret
    exact ⟨_, by first | rfl | (simp [errW_none, errW_some] <;> rfl) | (simp [*, errW_none, errW_some] <;> rfl), by (with_reducible repeat (first | apply Kd.R_alloc | apply Kd.R_drewN | apply Kd.R_drew)); exact HO_7.out, by repeat (first | (with_reducible first | exact HB.out | apply below_alloc | apply pw_below_drewN | apply below_drew1) | exact HB.out)⟩
   ·replace c8 := Bool.eq_false_iff.mpr c8
    subst c8
    have H1 : ((variorumref10_Start.f kj3 l0 a1).bind fun t297 => (variorumref10_Glues.l0 kj3 l0 a2 y294 t297)) = some r := by rw [if_neg (show ¬ (false = true) by decide)] at H; exact H
    clear H
    have H := H1
    clear H1
    replace H := Option.bind_eq_some_iff.mp H
    obtain ⟨t297, A90, H⟩ := H
    replace H : (variorumref10_Glues.l0 kj3 l0 a2 y294 t297) = some r := H
    have A9 := Aside0.mk A90
    clear A90
    have H' := Aside0.mk H
    clear H
    go_wp2_with (first | ((with_reducible refine gate_callee (f := 26) rfl ?_); refine goesL_ (some 22) rfl rfl Try.func26 (by kernel_rfl) rfl #[.slice A0 l0.length c0, .int .i64 a1] rfl (by (try simp only [List.map_toArray, List.map_cons, List.map_nil]); first | done | rfl | (simp only [List.length_drop, List.length_take]; rfl) | (simp only [*]; first | done | rfl)) ?_; (with_reducible refine (variorumref10_Start.calls kj3 _ _ l0 a1 t297 _ ?side1 ?side2 A9.out).mono ?_); (case side1 => repeat (first | exact (Kd.C_below HR0.out HB.out) | (with_reducible refine Kd.C_alloc ?_ _) | (with_reducible refine Kd.C_drewN ?_ _) | (with_reducible refine Kd.C_drew ?_))); (case side2 => exact HC0.out); rintro e w10 ⟨rfl, hb⟩; refine ⟨_, rfl, ?_⟩; have n0_ := Aside0.mk (Kd.R_below (by (with_reducible repeat (first | apply Kd.R_alloc | apply Kd.R_drewN | apply Kd.R_drew)); exact HO_7.out) hb); have n1_ := Aside0.mk (below_step (by repeat (first | (with_reducible first | exact HB.out | apply below_alloc | apply pw_below_drewN | apply below_drew1) | exact HB.out)) hb); clear HO_7; clear HB; have HO_7 := n0_; have HB := n1_; clear n0_ n1_; (try clear hb); (try clear hb2); (try clear hk); (try clear hi)))
    go_loopg [7, 9] kj3 (fun kq v7 v9 w' => ∃ (x7_2 : List (S45)) (x9_2 : Int), v9 = .int .i64 x9_2 ∧ Aside0 (variorumref10_Glues.l0 kq l0 a2 x7_2 x9_2 = some r) ∧ Aside0 (kq ≤ kj3) ∧ Aside0 (Kd.R k45 45 w' w.heap.size (fun _ => True) v7 x7_2) ∧ Aside0 (Below w.heap.size w w'))
    case atStart => exact ⟨(y294), (t297), (by first | rfl | (simp; done) | (simp [*]; done)), H', ⟨Nat.le_refl _⟩, ⟨by (with_reducible repeat (first | apply Kd.R_alloc | apply Kd.R_drewN | apply Kd.R_drew)); exact HO_7.out⟩, ⟨by repeat (first | (with_reducible first | exact HB.out | apply below_alloc | apply pw_below_drewN | apply below_drew1) | exact HB.out)⟩⟩
    case round =>
     clear H'
     try clear c2
     try clear p2
     try clear c7
     try clear c7b0
     try clear c8
     try clear p2
     obtain ⟨x7_2, x9_2, rfl, HA, HK2, HO_7, HB⟩ := hrel
     cases gk with
     | zero => exact absurd HA.out (by simp [variorumref10_Glues.l0])
     | succ k2 =>
      have H := HA.out
      clear HA
      simp only [variorumref10_Glues.l0] at H
      by_cases c11 : x9_2 < a2
      ·rw [if_pos c11] at H
       have c11b0 : decide (x9_2 < a2) = true := decide_eq_true c11
       clear c11
       by_cases c12 : 0 ≤ x9_2
       ·rw [if_pos c12] at H
        have c12b0 : decide (0 ≤ x9_2) = true := decide_eq_true c12
        clear c12
        by_cases c13 : x9_2 < (l0.length : Int)
        ·rw [if_pos c13] at H
         have c13b0 : decide (x9_2 < (l0.length : Int)) = true := decide_eq_true c13
         clear c13
         by_cases c14 : ((rd_T47 l0 x9_2).f0) = 0
         ·rw [if_pos c14] at H
          have c14b0 : (((rd_T47 l0 x9_2).f0) == 0) = true := beq_iff_eq.mpr c14
          have c14b1 : (((rd_T47 l0 x9_2).f0) != 0) = false := bne_eq_false_iff_eq.mpr c14
          clear c14
          by_cases c15 : x7_2.length < 4398046511104
          ·rw [if_pos c15] at H
           have LMc15 := Aside0.mk c15
           clear c15
           obtain ⟨y300, hy300⟩ : ∃ y_ : List (S45), y_ = (x7_2 ++ [(⟨(rd_T47 l0 x9_2).f1.f0, (rd_T47 l0 x9_2).f1.f1, (rd_T47 l0 x9_2).f1.f2, (rd_T47 l0 x9_2).f1.f3⟩ : S45)]) := ⟨_, rfl⟩
           replace H : (variorumref10_Glues.l0 k2 l0 a2 y300 (wrap64 (x9_2 + 1))) = some r := by first | (rw [hy300]; with_reducible exact H) | (have H2_ := (Option.bind_some _ _).symm.trans H; rw [hy300]; with_reducible exact H2_) | (have H2_ := (Option.bind_some _ _).symm.trans H; with_reducible exact H2_) | with_reducible exact H | (rw [hy300]; exact H) | exact H
           have Ny300 := Aside0.mk hy300
           clear hy300
           have H' := Aside0.mk H
           clear H
           have p298 : 0 ≤ (x9_2 : Int) := of_decide_eq_true (by first | (with_reducible assumption) | assumption)
           have q298 : x9_2 < (l0.length : Int) := of_decide_eq_true (by first | (with_reducible assumption) | assumption)
           obtain ⟨ad298, e298, hx298_0, hx298_1, hx298_2, hx298_3, hx298_4, hx298_5, hx298_6, hx298_7, hx298_8⟩ := at_T47 HR0.out x9_2 p298 q298
           cases e298
           replace hx298_0 := (HB.out.cell (World.block_lt_of_cell? w _ hx298_0)).trans hx298_0
           replace hx298_1 := (HB.out.cell (World.block_lt_of_cell? w _ hx298_1)).trans hx298_1
           replace hx298_2 := (HB.out.cell (World.block_lt_of_cell? w _ hx298_2)).trans hx298_2
           replace hx298_3 := (HB.out.cell (World.block_lt_of_cell? w _ hx298_3)).trans hx298_3
           replace hx298_4 := (HB.out.cell (World.block_lt_of_cell? w _ hx298_4)).trans hx298_4
           replace hx298_5 := (HB.out.cell (World.block_lt_of_cell? w _ hx298_5)).trans hx298_5
           replace hx298_6 := (HB.out.cell (World.block_lt_of_cell? w _ hx298_6)).trans hx298_6
           replace hx298_7 := (HB.out.cell (World.block_lt_of_cell? w _ hx298_7)).trans hx298_7
           replace hx298_8 := (HB.out.cell (World.block_lt_of_cell? w _ hx298_8)).trans hx298_8
           replace p298 := eq_true p298
           replace q298 := eq_true q298
           have p299 : 0 ≤ (x9_2 : Int) := of_decide_eq_true (by first | (with_reducible assumption) | assumption)
           have q299 : x9_2 < (l0.length : Int) := of_decide_eq_true (by first | (with_reducible assumption) | assumption)
           obtain ⟨ad299, e299, hx299_0, hx299_1, hx299_2, hx299_3, hx299_4, hx299_5, hx299_6, hx299_7, hx299_8⟩ := at_T47 HR0.out x9_2 p299 q299
           obtain rfl : ad298 = ad299 := (by injection e299)
           replace hx299_0 := (HB.out.cell (World.block_lt_of_cell? w _ hx299_0)).trans hx299_0
           replace hx299_1 := (HB.out.cell (World.block_lt_of_cell? w _ hx299_1)).trans hx299_1
           replace hx299_2 := (HB.out.cell (World.block_lt_of_cell? w _ hx299_2)).trans hx299_2
           replace hx299_3 := (HB.out.cell (World.block_lt_of_cell? w _ hx299_3)).trans hx299_3
           replace hx299_4 := (HB.out.cell (World.block_lt_of_cell? w _ hx299_4)).trans hx299_4
           replace hx299_5 := (HB.out.cell (World.block_lt_of_cell? w _ hx299_5)).trans hx299_5
           replace hx299_6 := (HB.out.cell (World.block_lt_of_cell? w _ hx299_6)).trans hx299_6
           replace hx299_7 := (HB.out.cell (World.block_lt_of_cell? w _ hx299_7)).trans hx299_7
           replace hx299_8 := (HB.out.cell (World.block_lt_of_cell? w _ hx299_8)).trans hx299_8
           replace p299 := eq_true p299
           replace q299 := eq_true q299
           go_wp2_with (first | ((with_reducible refine gate_builtin (b := .append) (xs := #[.tmp 43, .tmp 49]) rfl ?_); (try (refine gate_guard (by rfl) ?_; dsimp only)); at_builtin; refine Kd.R_append k45 (w0 := w) w.heap.size rfl (.tmp 43) (.tmp 49) 36 45 (.agg #[(.int .i64 0), (.int .i64 0), (.int .i64 0), (.int .i64 0)]) 32 rfl Try.underlying36 info45 rfl (by decide) (by omega) u7 x7_2 (⟨(rd_T47 l0 x9_2).f1.f0, (rd_T47 l0 x9_2).f1.f1, (rd_T47 l0 x9_2).f1.f2, (rd_T47 l0 x9_2).f1.f3⟩ : S45) [.int .i64 ((rd_T47 l0 x9_2).f1.f0), .int .i64 ((rd_T47 l0 x9_2).f1.f1), .int .i64 ((rd_T47 l0 x9_2).f1.f2), .int .i64 ((rd_T47 l0 x9_2).f1.f3)] (fun _ => True) (fun _ => False) rfl rfl ?aP (fun _ hk => hk.elim) ?aF ?aO ?aB ?aS ?aL ?_; (case aP => exact k45_mkM _ _ _ (⟨(rd_T47 l0 x9_2).f1.f0, (rd_T47 l0 x9_2).f1.f1, (rd_T47 l0 x9_2).f1.f2, (rd_T47 l0 x9_2).f1.f3⟩ : S45)); (case aB => exact (by repeat (first | (with_reducible first | exact HB.out | apply below_alloc | apply pw_below_drewN | apply below_drew1) | exact HB.out))); (case aF => exact (fun _ _ => trivial)); (case aO => exact (by (with_reducible repeat (first | apply Kd.R_alloc | apply Kd.R_drewN | apply Kd.R_drew)); exact HO_7.out)); (case aS => exact (below_size (by repeat (first | (with_reducible first | exact HB.out | apply below_alloc | apply pw_below_drewN | apply below_drew1) | exact HB.out)))); (case aL => have := LMc15.out; omega); intro v301 w16 ho hb hg hat; rw [← Ny300.out] at ho; have n0_ := Aside0.mk (hb); have n1_ := Aside0.mk (ho); clear HB; clear HO_7; have HB := n0_; have HO302 := n1_; clear n0_ n1_; clear ho hb hg hat))
           go_roundg k2
           case measure => have := HJ3.out; have := HK2.out; omega
           case rel => exact ⟨(y300), (wrap64 (x9_2 + 1)), (by first | rfl | (simp; done) | (simp [*]; done)), H', ⟨by have := HJ3.out; have := HK2.out; omega⟩, ⟨by (with_reducible repeat (first | apply Kd.R_alloc | apply Kd.R_drewN | apply Kd.R_drew)); exact HO302.out⟩, ⟨by repeat (first | (with_reducible first | exact HB.out | apply below_alloc | apply pw_below_drewN | apply below_drew1) | exact HB.out)⟩⟩
          ·rw [if_neg c15] at H
           exact absurd H (by simp)
         ·rw [if_neg c14] at H
          have c14b0 : (((rd_T47 l0 x9_2).f0) == 0) = false := beq_eq_false_iff_ne.mpr c14
          have c14b1 : (((rd_T47 l0 x9_2).f0) != 0) = true := bne_iff_ne.mpr c14
          by_cases c17 : ((rd_T47 l0 x9_2).f0) = 1
          ·rw [if_pos c17] at H
           have c17b0 : (((rd_T47 l0 x9_2).f0) == 1) = true := beq_iff_eq.mpr c17
           have c17b1 : (((rd_T47 l0 x9_2).f0) != 1) = false := bne_eq_false_iff_eq.mpr c17
           clear c17
           by_cases c18 : x7_2.length < 4398046511104
           ·rw [if_pos c18] at H
            have LMc18 := Aside0.mk c18
            clear c18
            obtain ⟨y305, hy305⟩ : ∃ y_ : List (S45), y_ = (x7_2 ++ [(⟨(rd_T47 l0 x9_2).f1.f0, (rd_T47 l0 x9_2).f1.f1, (rd_T47 l0 x9_2).f1.f2, (rd_T47 l0 x9_2).f1.f3⟩ : S45)]) := ⟨_, rfl⟩
            replace H : (variorumref10_Glues.l0 k2 l0 a2 y305 (wrap64 (x9_2 + 1))) = some r := by first | (rw [hy305]; with_reducible exact H) | (have H2_ := (Option.bind_some _ _).symm.trans H; rw [hy305]; with_reducible exact H2_) | (have H2_ := (Option.bind_some _ _).symm.trans H; with_reducible exact H2_) | with_reducible exact H | (rw [hy305]; exact H) | exact H
            have Ny305 := Aside0.mk hy305
            clear hy305
            have H' := Aside0.mk H
            clear H
            have p298 : 0 ≤ (x9_2 : Int) := of_decide_eq_true (by first | (with_reducible assumption) | assumption)
            have q298 : x9_2 < (l0.length : Int) := of_decide_eq_true (by first | (with_reducible assumption) | assumption)
            obtain ⟨ad298, e298, hx298_0, hx298_1, hx298_2, hx298_3, hx298_4, hx298_5, hx298_6, hx298_7, hx298_8⟩ := at_T47 HR0.out x9_2 p298 q298
            cases e298
            replace hx298_0 := (HB.out.cell (World.block_lt_of_cell? w _ hx298_0)).trans hx298_0
            replace hx298_1 := (HB.out.cell (World.block_lt_of_cell? w _ hx298_1)).trans hx298_1
            replace hx298_2 := (HB.out.cell (World.block_lt_of_cell? w _ hx298_2)).trans hx298_2
            replace hx298_3 := (HB.out.cell (World.block_lt_of_cell? w _ hx298_3)).trans hx298_3
            replace hx298_4 := (HB.out.cell (World.block_lt_of_cell? w _ hx298_4)).trans hx298_4
            replace hx298_5 := (HB.out.cell (World.block_lt_of_cell? w _ hx298_5)).trans hx298_5
            replace hx298_6 := (HB.out.cell (World.block_lt_of_cell? w _ hx298_6)).trans hx298_6
            replace hx298_7 := (HB.out.cell (World.block_lt_of_cell? w _ hx298_7)).trans hx298_7
            replace hx298_8 := (HB.out.cell (World.block_lt_of_cell? w _ hx298_8)).trans hx298_8
            replace p298 := eq_true p298
            replace q298 := eq_true q298
            have p303 : 0 ≤ (x9_2 : Int) := of_decide_eq_true (by first | (with_reducible assumption) | assumption)
            have q303 : x9_2 < (l0.length : Int) := of_decide_eq_true (by first | (with_reducible assumption) | assumption)
            obtain ⟨ad303, e303, hx303_0, hx303_1, hx303_2, hx303_3, hx303_4, hx303_5, hx303_6, hx303_7, hx303_8⟩ := at_T47 HR0.out x9_2 p303 q303
            obtain rfl : ad298 = ad303 := (by injection e303)
            replace hx303_0 := (HB.out.cell (World.block_lt_of_cell? w _ hx303_0)).trans hx303_0
            replace hx303_1 := (HB.out.cell (World.block_lt_of_cell? w _ hx303_1)).trans hx303_1
            replace hx303_2 := (HB.out.cell (World.block_lt_of_cell? w _ hx303_2)).trans hx303_2
            replace hx303_3 := (HB.out.cell (World.block_lt_of_cell? w _ hx303_3)).trans hx303_3
            replace hx303_4 := (HB.out.cell (World.block_lt_of_cell? w _ hx303_4)).trans hx303_4
            replace hx303_5 := (HB.out.cell (World.block_lt_of_cell? w _ hx303_5)).trans hx303_5
            replace hx303_6 := (HB.out.cell (World.block_lt_of_cell? w _ hx303_6)).trans hx303_6
            replace hx303_7 := (HB.out.cell (World.block_lt_of_cell? w _ hx303_7)).trans hx303_7
            replace hx303_8 := (HB.out.cell (World.block_lt_of_cell? w _ hx303_8)).trans hx303_8
            replace p303 := eq_true p303
            replace q303 := eq_true q303
            have p304 : 0 ≤ (x9_2 : Int) := of_decide_eq_true (by first | (with_reducible assumption) | assumption)
            have q304 : x9_2 < (l0.length : Int) := of_decide_eq_true (by first | (with_reducible assumption) | assumption)
            obtain ⟨ad304, e304, hx304_0, hx304_1, hx304_2, hx304_3, hx304_4, hx304_5, hx304_6, hx304_7, hx304_8⟩ := at_T47 HR0.out x9_2 p304 q304
            obtain rfl : ad298 = ad304 := (by injection e304)
            replace hx304_0 := (HB.out.cell (World.block_lt_of_cell? w _ hx304_0)).trans hx304_0
            replace hx304_1 := (HB.out.cell (World.block_lt_of_cell? w _ hx304_1)).trans hx304_1
            replace hx304_2 := (HB.out.cell (World.block_lt_of_cell? w _ hx304_2)).trans hx304_2
            replace hx304_3 := (HB.out.cell (World.block_lt_of_cell? w _ hx304_3)).trans hx304_3
            replace hx304_4 := (HB.out.cell (World.block_lt_of_cell? w _ hx304_4)).trans hx304_4
            replace hx304_5 := (HB.out.cell (World.block_lt_of_cell? w _ hx304_5)).trans hx304_5
            replace hx304_6 := (HB.out.cell (World.block_lt_of_cell? w _ hx304_6)).trans hx304_6
            replace hx304_7 := (HB.out.cell (World.block_lt_of_cell? w _ hx304_7)).trans hx304_7
            replace hx304_8 := (HB.out.cell (World.block_lt_of_cell? w _ hx304_8)).trans hx304_8
            replace p304 := eq_true p304
            replace q304 := eq_true q304
            go_wp2_with (first | ((with_reducible refine gate_builtin (b := .append) (xs := #[.tmp 43, .tmp 49]) rfl ?_); (try (refine gate_guard (by rfl) ?_; dsimp only)); at_builtin; refine Kd.R_append k45 (w0 := w) w.heap.size rfl (.tmp 43) (.tmp 49) 36 45 (.agg #[(.int .i64 0), (.int .i64 0), (.int .i64 0), (.int .i64 0)]) 32 rfl Try.underlying36 info45 rfl (by decide) (by omega) u7 x7_2 (⟨(rd_T47 l0 x9_2).f1.f0, (rd_T47 l0 x9_2).f1.f1, (rd_T47 l0 x9_2).f1.f2, (rd_T47 l0 x9_2).f1.f3⟩ : S45) [.int .i64 ((rd_T47 l0 x9_2).f1.f0), .int .i64 ((rd_T47 l0 x9_2).f1.f1), .int .i64 ((rd_T47 l0 x9_2).f1.f2), .int .i64 ((rd_T47 l0 x9_2).f1.f3)] (fun _ => True) (fun _ => False) rfl rfl ?aP (fun _ hk => hk.elim) ?aF ?aO ?aB ?aS ?aL ?_; (case aP => exact k45_mkM _ _ _ (⟨(rd_T47 l0 x9_2).f1.f0, (rd_T47 l0 x9_2).f1.f1, (rd_T47 l0 x9_2).f1.f2, (rd_T47 l0 x9_2).f1.f3⟩ : S45)); (case aB => exact (by repeat (first | (with_reducible first | exact HB.out | apply below_alloc | apply pw_below_drewN | apply below_drew1) | exact HB.out))); (case aF => exact (fun _ _ => trivial)); (case aO => exact (by (with_reducible repeat (first | apply Kd.R_alloc | apply Kd.R_drewN | apply Kd.R_drew)); exact HO_7.out)); (case aS => exact (below_size (by repeat (first | (with_reducible first | exact HB.out | apply below_alloc | apply pw_below_drewN | apply below_drew1) | exact HB.out)))); (case aL => have := LMc18.out; omega); intro v306 w19 ho hb hg hat; rw [← Ny305.out] at ho; have n0_ := Aside0.mk (hb); have n1_ := Aside0.mk (ho); clear HB; clear HO_7; have HB := n0_; have HO307 := n1_; clear n0_ n1_; clear ho hb hg hat))
            go_roundg k2
            case measure => have := HJ3.out; have := HK2.out; omega
            case rel => exact ⟨(y305), (wrap64 (x9_2 + 1)), (by first | rfl | (simp; done) | (simp [*]; done)), H', ⟨by have := HJ3.out; have := HK2.out; omega⟩, ⟨by (with_reducible repeat (first | apply Kd.R_alloc | apply Kd.R_drewN | apply Kd.R_drew)); exact HO307.out⟩, ⟨by repeat (first | (with_reducible first | exact HB.out | apply below_alloc | apply pw_below_drewN | apply below_drew1) | exact HB.out)⟩⟩
           ·rw [if_neg c18] at H
            exact absurd H (by simp)
          ·rw [if_neg c17] at H
           have c17b0 : (((rd_T47 l0 x9_2).f0) == 1) = false := beq_eq_false_iff_ne.mpr c17
           have c17b1 : (((rd_T47 l0 x9_2).f0) != 1) = true := bne_iff_ne.mpr c17
           have H' := Aside0.mk H
           clear H
           have p298 : 0 ≤ (x9_2 : Int) := of_decide_eq_true (by first | (with_reducible assumption) | assumption)
           have q298 : x9_2 < (l0.length : Int) := of_decide_eq_true (by first | (with_reducible assumption) | assumption)
           obtain ⟨ad298, e298, hx298_0, hx298_1, hx298_2, hx298_3, hx298_4, hx298_5, hx298_6, hx298_7, hx298_8⟩ := at_T47 HR0.out x9_2 p298 q298
           cases e298
           replace hx298_0 := (HB.out.cell (World.block_lt_of_cell? w _ hx298_0)).trans hx298_0
           replace hx298_1 := (HB.out.cell (World.block_lt_of_cell? w _ hx298_1)).trans hx298_1
           replace hx298_2 := (HB.out.cell (World.block_lt_of_cell? w _ hx298_2)).trans hx298_2
           replace hx298_3 := (HB.out.cell (World.block_lt_of_cell? w _ hx298_3)).trans hx298_3
           replace hx298_4 := (HB.out.cell (World.block_lt_of_cell? w _ hx298_4)).trans hx298_4
           replace hx298_5 := (HB.out.cell (World.block_lt_of_cell? w _ hx298_5)).trans hx298_5
           replace hx298_6 := (HB.out.cell (World.block_lt_of_cell? w _ hx298_6)).trans hx298_6
           replace hx298_7 := (HB.out.cell (World.block_lt_of_cell? w _ hx298_7)).trans hx298_7
           replace hx298_8 := (HB.out.cell (World.block_lt_of_cell? w _ hx298_8)).trans hx298_8
           replace p298 := eq_true p298
           replace q298 := eq_true q298
           have p303 : 0 ≤ (x9_2 : Int) := of_decide_eq_true (by first | (with_reducible assumption) | assumption)
           have q303 : x9_2 < (l0.length : Int) := of_decide_eq_true (by first | (with_reducible assumption) | assumption)
           obtain ⟨ad303, e303, hx303_0, hx303_1, hx303_2, hx303_3, hx303_4, hx303_5, hx303_6, hx303_7, hx303_8⟩ := at_T47 HR0.out x9_2 p303 q303
           obtain rfl : ad298 = ad303 := (by injection e303)
           replace hx303_0 := (HB.out.cell (World.block_lt_of_cell? w _ hx303_0)).trans hx303_0
           replace hx303_1 := (HB.out.cell (World.block_lt_of_cell? w _ hx303_1)).trans hx303_1
           replace hx303_2 := (HB.out.cell (World.block_lt_of_cell? w _ hx303_2)).trans hx303_2
           replace hx303_3 := (HB.out.cell (World.block_lt_of_cell? w _ hx303_3)).trans hx303_3
           replace hx303_4 := (HB.out.cell (World.block_lt_of_cell? w _ hx303_4)).trans hx303_4
           replace hx303_5 := (HB.out.cell (World.block_lt_of_cell? w _ hx303_5)).trans hx303_5
           replace hx303_6 := (HB.out.cell (World.block_lt_of_cell? w _ hx303_6)).trans hx303_6
           replace hx303_7 := (HB.out.cell (World.block_lt_of_cell? w _ hx303_7)).trans hx303_7
           replace hx303_8 := (HB.out.cell (World.block_lt_of_cell? w _ hx303_8)).trans hx303_8
           replace p303 := eq_true p303
           replace q303 := eq_true q303
           go_wp2
           go_roundg k2
           case measure => have := HJ3.out; have := HK2.out; omega
           case rel => exact ⟨(x7_2), (wrap64 (x9_2 + 1)), (by first | rfl | (simp; done) | (simp [*]; done)), H', ⟨by have := HJ3.out; have := HK2.out; omega⟩, ⟨by (with_reducible repeat (first | apply Kd.R_alloc | apply Kd.R_drewN | apply Kd.R_drew)); exact HO_7.out⟩, ⟨by repeat (first | (with_reducible first | exact HB.out | apply below_alloc | apply pw_below_drewN | apply below_drew1) | exact HB.out)⟩⟩
        ·rw [if_neg c13] at H
         exact absurd H (by simp)
       ·rw [if_neg c12] at H
        exact absurd H (by simp)
      ·rw [if_neg c11] at H
       have c11b0 : decide (x9_2 < a2) = false := decide_eq_false c11
       clear c11
       by_cases c20 : 0 ≤ a2
       ·rw [if_pos c20] at H
        have c20b0 : decide (0 ≤ a2) = true := decide_eq_true c20
        clear c20
        by_cases c21 : a2 < (l0.length : Int)
        ·rw [if_pos c21] at H
         have c21b0 : decide (a2 < (l0.length : Int)) = true := decide_eq_true c21
         clear c21
         by_cases c22 : ((rd_T47 l0 a2).f0) = 2
         ·rw [if_pos c22] at H
          have c22b0 : (((rd_T47 l0 a2).f0) == 2) = true := beq_iff_eq.mpr c22
          have c22b1 : (((rd_T47 l0 a2).f0) != 2) = false := bne_eq_false_iff_eq.mpr c22
          clear c22
          by_cases c23 : x7_2.length < 4398046511104
          ·rw [if_pos c23] at H
           have LMc23 := Aside0.mk c23
           clear c23
           obtain ⟨y310, hy310⟩ : ∃ y_ : List (S45), y_ = (x7_2 ++ [(⟨(rd_T47 l0 a2).f1.f0, 0, 0, 0⟩ : S45)]) := ⟨_, rfl⟩
           replace H : (some y310) = some r := by first | (rw [hy310]; with_reducible exact H) | (have H2_ := (Option.bind_some _ _).symm.trans H; rw [hy310]; with_reducible exact H2_) | (have H2_ := (Option.bind_some _ _).symm.trans H; with_reducible exact H2_) | with_reducible exact H | (rw [hy310]; exact H) | exact H
           have Ny310 := Aside0.mk hy310
           clear hy310
           obtain rfl := Option.some.inj H
           have p308 : 0 ≤ (a2 : Int) := of_decide_eq_true (by first | (with_reducible assumption) | assumption)
           have q308 : a2 < (l0.length : Int) := of_decide_eq_true (by first | (with_reducible assumption) | assumption)
           obtain ⟨ad308, e308, hx308_0, hx308_1, hx308_2, hx308_3, hx308_4, hx308_5, hx308_6, hx308_7, hx308_8⟩ := at_T47 HR0.out a2 p308 q308
           cases e308
           replace hx308_0 := (HB.out.cell (World.block_lt_of_cell? w _ hx308_0)).trans hx308_0
           replace hx308_1 := (HB.out.cell (World.block_lt_of_cell? w _ hx308_1)).trans hx308_1
           replace hx308_2 := (HB.out.cell (World.block_lt_of_cell? w _ hx308_2)).trans hx308_2
           replace hx308_3 := (HB.out.cell (World.block_lt_of_cell? w _ hx308_3)).trans hx308_3
           replace hx308_4 := (HB.out.cell (World.block_lt_of_cell? w _ hx308_4)).trans hx308_4
           replace hx308_5 := (HB.out.cell (World.block_lt_of_cell? w _ hx308_5)).trans hx308_5
           replace hx308_6 := (HB.out.cell (World.block_lt_of_cell? w _ hx308_6)).trans hx308_6
           replace hx308_7 := (HB.out.cell (World.block_lt_of_cell? w _ hx308_7)).trans hx308_7
           replace hx308_8 := (HB.out.cell (World.block_lt_of_cell? w _ hx308_8)).trans hx308_8
           replace p308 := eq_true p308
           replace q308 := eq_true q308
           have p309 : 0 ≤ (a2 : Int) := of_decide_eq_true (by first | (with_reducible assumption) | assumption)
           have q309 : a2 < (l0.length : Int) := of_decide_eq_true (by first | (with_reducible assumption) | assumption)
           obtain ⟨ad309, e309, hx309_0, hx309_1, hx309_2, hx309_3, hx309_4, hx309_5, hx309_6, hx309_7, hx309_8⟩ := at_T47 HR0.out a2 p309 q309
           obtain rfl : ad308 = ad309 := (by injection e309)
           replace hx309_0 := (HB.out.cell (World.block_lt_of_cell? w _ hx309_0)).trans hx309_0
           replace hx309_1 := (HB.out.cell (World.block_lt_of_cell? w _ hx309_1)).trans hx309_1
           replace hx309_2 := (HB.out.cell (World.block_lt_of_cell? w _ hx309_2)).trans hx309_2
           replace hx309_3 := (HB.out.cell (World.block_lt_of_cell? w _ hx309_3)).trans hx309_3
           replace hx309_4 := (HB.out.cell (World.block_lt_of_cell? w _ hx309_4)).trans hx309_4
           replace hx309_5 := (HB.out.cell (World.block_lt_of_cell? w _ hx309_5)).trans hx309_5
           replace hx309_6 := (HB.out.cell (World.block_lt_of_cell? w _ hx309_6)).trans hx309_6
           replace hx309_7 := (HB.out.cell (World.block_lt_of_cell? w _ hx309_7)).trans hx309_7
           replace hx309_8 := (HB.out.cell (World.block_lt_of_cell? w _ hx309_8)).trans hx309_8
           replace p309 := eq_true p309
           replace q309 := eq_true q309
           go_wp2_with (first | ((with_reducible refine gate_builtin (b := .append) (xs := #[.tmp 57, .tmp 65]) rfl ?_); (try (refine gate_guard (by rfl) ?_; dsimp only)); at_builtin; refine Kd.R_append k45 (w0 := w) w.heap.size rfl (.tmp 57) (.tmp 65) 36 45 (.agg #[(.int .i64 0), (.int .i64 0), (.int .i64 0), (.int .i64 0)]) 32 rfl Try.underlying36 info45 rfl (by decide) (by omega) u7 x7_2 (⟨(rd_T47 l0 a2).f1.f0, 0, 0, 0⟩ : S45) [.int .i64 ((rd_T47 l0 a2).f1.f0), .int .i64 0, .int .i64 0, .int .i64 0] (fun _ => True) (fun _ => False) rfl rfl ?aP (fun _ hk => hk.elim) ?aF ?aO ?aB ?aS ?aL ?_; (case aP => exact k45_mkM _ _ _ (⟨(rd_T47 l0 a2).f1.f0, 0, 0, 0⟩ : S45)); (case aB => exact (by repeat (first | (with_reducible first | exact HB.out | apply below_alloc | apply pw_below_drewN | apply below_drew1) | exact HB.out))); (case aF => exact (fun _ _ => trivial)); (case aO => exact (by (with_reducible repeat (first | apply Kd.R_alloc | apply Kd.R_drewN | apply Kd.R_drew)); exact HO_7.out)); (case aS => exact (below_size (by repeat (first | (with_reducible first | exact HB.out | apply below_alloc | apply pw_below_drewN | apply below_drew1) | exact HB.out)))); (case aL => have := LMc23.out; omega); intro v311 w24 ho hb hg hat; rw [← Ny310.out] at ho; have n0_ := Aside0.mk (hb); have n1_ := Aside0.mk (ho); clear HB; clear HO_7; have HB := n0_; have HO312 := n1_; clear n0_ n1_; clear ho hb hg hat))
           go_ret
           exact ⟨_, by first | rfl | (simp [errW_none, errW_some] <;> rfl) | (simp [*, errW_none, errW_some] <;> rfl), by (with_reducible repeat (first | apply Kd.R_alloc | apply Kd.R_drewN | apply Kd.R_drew)); exact HO312.out, by repeat (first | (with_reducible first | exact HB.out | apply below_alloc | apply pw_below_drewN | apply below_drew1) | exact HB.out)⟩
          ·rw [if_neg c23] at H
           exact absurd H (by simp)
         ·rw [if_neg c22] at H
          have c22b0 : (((rd_T47 l0 a2).f0) == 2) = false := beq_eq_false_iff_ne.mpr c22
          have c22b1 : (((rd_T47 l0 a2).f0) != 2) = true := bne_iff_ne.mpr c22
          obtain rfl := Option.some.inj H
          have p308 : 0 ≤ (a2 : Int) := of_decide_eq_true (by first | (with_reducible assumption) | assumption)
          have q308 : a2 < (l0.length : Int) := of_decide_eq_true (by first | (with_reducible assumption) | assumption)
          obtain ⟨ad308, e308, hx308_0, hx308_1, hx308_2, hx308_3, hx308_4, hx308_5, hx308_6, hx308_7, hx308_8⟩ := at_T47 HR0.out a2 p308 q308
          cases e308
          replace hx308_0 := (HB.out.cell (World.block_lt_of_cell? w _ hx308_0)).trans hx308_0
          replace hx308_1 := (HB.out.cell (World.block_lt_of_cell? w _ hx308_1)).trans hx308_1
          replace hx308_2 := (HB.out.cell (World.block_lt_of_cell? w _ hx308_2)).trans hx308_2
          replace hx308_3 := (HB.out.cell (World.block_lt_of_cell? w _ hx308_3)).trans hx308_3
          replace hx308_4 := (HB.out.cell (World.block_lt_of_cell? w _ hx308_4)).trans hx308_4
          replace hx308_5 := (HB.out.cell (World.block_lt_of_cell? w _ hx308_5)).trans hx308_5
          replace hx308_6 := (HB.out.cell (World.block_lt_of_cell? w _ hx308_6)).trans hx308_6
          replace hx308_7 := (HB.out.cell (World.block_lt_of_cell? w _ hx308_7)).trans hx308_7
          replace hx308_8 := (HB.out.cell (World.block_lt_of_cell? w _ hx308_8)).trans hx308_8
          replace p308 := eq_true p308
          replace q308 := eq_true q308
          go_wp2
          go_ret
          exact ⟨_, by first | rfl | (simp [errW_none, errW_some] <;> rfl) | (simp [*, errW_none, errW_some] <;> rfl), by (with_reducible repeat (first | apply Kd.R_alloc | apply Kd.R_drewN | apply Kd.R_drew)); exact HO_7.out, by repeat (first | (with_reducible first | exact HB.out | apply below_alloc | apply pw_below_drewN | apply below_drew1) | exact HB.out)⟩
        ·rw [if_neg c21] at H
         exact absurd H (by simp)
       ·rw [if_neg c20] at H
        exact absurd H (by simp)

end Go.Proofs.Ytagpdpcodcmgkaa.PTo

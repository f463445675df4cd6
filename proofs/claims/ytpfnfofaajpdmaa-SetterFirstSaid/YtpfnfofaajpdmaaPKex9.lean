/- Written by a program of this session: functions of the given program as plain Lean functions, the walks that show it, and the row of each law, for every input that its statement speaks of. -/
import Derived.Test.YtpfnfofaajpdmaaPKex0
import Derived.Test.YtpfnfofaajpdmaaPKex7
import Derived.Test.YtpfnfofaajpdmaaPKex8
namespace Go.Proofs.Ytpfnfofaajpdmaa.PKe
open Go.RowKit Go.Proofs.YtpfnfofaajpdmaaW.PrintWords Go.Proofs.YtpfnfofaajpdmaaW.PrintLast Go.Proofs.YtpfnfofaajpdmaaW.PrintMore
attribute [local go_sem] max2_int min2_int max_two min_two max_three min_three max_four min_four   -- for this text's walks alone
set_option linter.unusedVariables false
set_option linter.unusedSimpArgs false

/-! ### glue_Set: function 44 -/
mutual
def glue_Set.j0 : Nat → Int → Bool → Int → Int → Int → Int → Int → Int → Option (Int × Int × Int × Int × Bool)
 | 0, _, _, _, _, _, _, _, _ => none
 | k + 1, x8, x30, x172000, x172001, x172002, x172003, x172004, x172005 => if x30 = true then (some (0, 0, 0, 0, false)) else (if x8 < 0 then ((glue_Badness.f k (wrap64 (-x8)) x172001).bind fun t175 => (if (wrap64 (-x8)) > x172001 then (some ((-1), 0, x8, 1000000, true)) else (some ((-1), 0, x8, t175, true)))) else (if x8 > 0 then (if x172002 = 0 then (glue_Set.j1 k x172000 x172001 x172002 x172003 x172004 x172005 0 0 x8 10000) else ((glue_Badness.f k x8 x172002).bind fun t176 => (glue_Set.j1 k x172000 x172001 x172002 x172003 x172004 x172005 1 0 x8 t176))) else (some (0, 0, x8, 0, true))))
def glue_Set.j1 : Nat → Int → Int → Int → Int → Int → Int → Int → Int → Int → Int → Option (Int × Int × Int × Int × Bool)
 | 0, _, _, _, _, _, _, _, _, _, _ => none
 | k + 1, x172000, x172001, x172002, x172003, x172004, x172005, x175000, x175001, x175002, x175003 => if x172003 = 0 then (glue_Set.j2 k x172000 x172001 x172002 x172003 x172004 x172005 x175000 x175001 x175002 x175003) else (glue_Set.j2 k x172000 x172001 x172002 x172003 x172004 x172005 1 1 x175002 0)
def glue_Set.j2 : Nat → Int → Int → Int → Int → Int → Int → Int → Int → Int → Int → Option (Int × Int × Int × Int × Bool)
 | 0, _, _, _, _, _, _, _, _, _, _ => none
 | k + 1, x172000, x172001, x172002, x172003, x172004, x172005, x175000, x175001, x175002, x175003 => if x172004 = 0 then (if x172005 = 0 then (some (x175000, x175001, x175002, x175003, true)) else (some (1, 3, x175002, 0, true))) else (if x172005 = 0 then (some (1, 2, x175002, 0, true)) else (some (1, 3, x175002, 0, true)))
end
def glue_Set.f (k : Nat) (l0 : List (S38)) (a1 : Int) : Option (Int × Int × Int × Int × Bool) := (glue_Total.f k l0).bind fun bt164 => ((scaled_Sub.f a1 bt164.1).bind fun bt172 => (if bt164.2.2.2.2.2.2 = true then (glue_Set.j0 k bt172.1 (!bt172.2) bt164.1 bt164.2.1 bt164.2.2.1 bt164.2.2.2.1 bt164.2.2.2.2.1 bt164.2.2.2.2.2.1) else (glue_Set.j0 k bt172.1 true bt164.1 bt164.2.1 bt164.2.2.1 bt164.2.2.2.1 bt164.2.2.2.2.1 bt164.2.2.2.2.2.1)))
theorem glue_Set.mono_l : ∀ k, (∀ y0 y1 y2 y3 y4 y5 y6 y7, LeO (glue_Set.j0 k y0 y1 y2 y3 y4 y5 y6 y7) (glue_Set.j0 (k + 1) y0 y1 y2 y3 y4 y5 y6 y7)) ∧ (∀ y0 y1 y2 y3 y4 y5 y6 y7 y8 y9, LeO (glue_Set.j1 k y0 y1 y2 y3 y4 y5 y6 y7 y8 y9) (glue_Set.j1 (k + 1) y0 y1 y2 y3 y4 y5 y6 y7 y8 y9)) ∧ (∀ y0 y1 y2 y3 y4 y5 y6 y7 y8 y9, LeO (glue_Set.j2 k y0 y1 y2 y3 y4 y5 y6 y7 y8 y9) (glue_Set.j2 (k + 1) y0 y1 y2 y3 y4 y5 y6 y7 y8 y9))
 | 0 => ⟨fun _ _ _ _ _ _ _ _ r h => by simp [glue_Set.j0] at h, fun _ _ _ _ _ _ _ _ _ _ r h => by simp [glue_Set.j1] at h, fun _ _ _ _ _ _ _ _ _ _ r h => by simp [glue_Set.j2] at h⟩
 | k + 1 => by
  obtain ⟨ih0, ih1, ih2⟩ := glue_Set.mono_l k
  refine ⟨?_, ?_, ?_⟩
  ·intro y0 y1 y2 y3 y4 y5 y6 y7
   unfold glue_Set.j0
   repeat' first
   | (with_reducible exact ih0 _ _ _ _ _ _ _ _)
   | (with_reducible exact ih1 _ _ _ _ _ _ _ _ _ _)
   | (with_reducible exact ih2 _ _ _ _ _ _ _ _ _ _)
   | (with_reducible exact glue_Badness.mono _ _ _)
   | (with_reducible exact glue_Total.mono _ _)
   | (with_reducible exact LeO.refl _)
   | (with_reducible exact LeO.none _)
   | (with_reducible refine LeO.ite ?_ ?_)
   | (with_reducible refine LeO.bind ?_ (fun _ => ?_))
   | exact ih0 _ _ _ _ _ _ _ _
   | exact ih1 _ _ _ _ _ _ _ _ _ _
   | exact ih2 _ _ _ _ _ _ _ _ _ _
   | exact glue_Badness.mono _ _ _
   | exact glue_Total.mono _ _
   | exact LeO.none _
   | refine LeO.ite ?_ ?_
   | refine LeO.bind ?_ (fun _ => ?_)
  ·intro y0 y1 y2 y3 y4 y5 y6 y7 y8 y9
   unfold glue_Set.j1
   repeat' first
   | (with_reducible exact ih0 _ _ _ _ _ _ _ _)
   | (with_reducible exact ih1 _ _ _ _ _ _ _ _ _ _)
   | (with_reducible exact ih2 _ _ _ _ _ _ _ _ _ _)
   | (with_reducible exact glue_Badness.mono _ _ _)
   | (with_reducible exact glue_Total.mono _ _)
   | (with_reducible exact LeO.refl _)
   | (with_reducible exact LeO.none _)
   | (with_reducible refine LeO.ite ?_ ?_)
   | (with_reducible refine LeO.bind ?_ (fun _ => ?_))
   | exact ih0 _ _ _ _ _ _ _ _
   | exact ih1 _ _ _ _ _ _ _ _ _ _
   | exact ih2 _ _ _ _ _ _ _ _ _ _
   | exact glue_Badness.mono _ _ _
   | exact glue_Total.mono _ _
   | exact LeO.none _
   | refine LeO.ite ?_ ?_
   | refine LeO.bind ?_ (fun _ => ?_)
  ·intro y0 y1 y2 y3 y4 y5 y6 y7 y8 y9
   unfold glue_Set.j2
   repeat' first
   | (with_reducible exact ih0 _ _ _ _ _ _ _ _)
   | (with_reducible exact ih1 _ _ _ _ _ _ _ _ _ _)
   | (with_reducible exact ih2 _ _ _ _ _ _ _ _ _ _)
   | (with_reducible exact glue_Badness.mono _ _ _)
   | (with_reducible exact glue_Total.mono _ _)
   | (with_reducible exact LeO.refl _)
   | (with_reducible exact LeO.none _)
   | (with_reducible refine LeO.ite ?_ ?_)
   | (with_reducible refine LeO.bind ?_ (fun _ => ?_))
   | exact ih0 _ _ _ _ _ _ _ _
   | exact ih1 _ _ _ _ _ _ _ _ _ _
   | exact ih2 _ _ _ _ _ _ _ _ _ _
   | exact glue_Badness.mono _ _ _
   | exact glue_Total.mono _ _
   | exact LeO.none _
   | refine LeO.ite ?_ ?_
   | refine LeO.bind ?_ (fun _ => ?_)
theorem glue_Set.mono : ∀ a0 a1 k, LeO (glue_Set.f k a0 a1) (glue_Set.f (k + 1) a0 a1) := by
 intro a0 a1 k
 obtain ⟨ih0, ih1, ih2⟩ := glue_Set.mono_l k
 unfold glue_Set.f
 repeat' first
   | (with_reducible exact ih0 _ _ _ _ _ _ _ _)
   | (with_reducible exact ih1 _ _ _ _ _ _ _ _ _ _)
   | (with_reducible exact ih2 _ _ _ _ _ _ _ _ _ _)
   | (with_reducible exact glue_Badness.mono _ _ _)
   | (with_reducible exact glue_Total.mono _ _)
   | (with_reducible exact LeO.refl _)
   | (with_reducible exact LeO.none _)
   | (with_reducible refine LeO.ite ?_ ?_)
   | (with_reducible refine LeO.bind ?_ (fun _ => ?_))
   | exact ih0 _ _ _ _ _ _ _ _
   | exact ih1 _ _ _ _ _ _ _ _ _ _
   | exact ih2 _ _ _ _ _ _ _ _ _ _
   | exact glue_Badness.mono _ _ _
   | exact glue_Total.mono _ _
   | exact LeO.none _
   | refine LeO.ite ?_ ?_
   | refine LeO.bind ?_ (fun _ => ?_)
set_option maxHeartbeats 8000000 in
set_option maxRecDepth 100000 in
theorem glue_Set.calls (k : Nat) (A0 : Option Addr) (c0 : Nat) (l0 : List (S38)) (a1 : Int) (r1 : Int) (r2 : Int) (r3 : Int) (r4 : Int) (r5 : Bool) (w : World) (hr0 : Kd.C k38 w A0 l0.length l0) (hc0 : l0.length ≤ c0) (h : glue_Set.f k l0 a1 = some (r1, r2, r3, r4, r5)) :
  Calls Try.prog 44 #[.slice A0 l0.length c0, .int .i64 a1] w fun e w' => e = .returned (.tuple #[.agg #[.int .i64 r1, .int .i64 r2, .int .i64 r3, .int .i64 r4], .bool r5]) ∧ Below w.heap.size w w' := by
 have hu56 := Try.underlying56
 have hu87 := Try.underlying87
 have hu85 := Try.underlying85
 have ix0 : ∀ (a b c d : Int) (w : World), (Instr.index 85 (.agg #[.int .i64 a, .int .i64 b, .int .i64 c, .int .i64 d]) (.int .i64 0)).run Try.prog w = .ok (.int .i64 a) w := fun _ _ _ _ _ => by kernel_rfl
 have ix1 : ∀ (a b c d : Int) (w : World), (Instr.index 85 (.agg #[.int .i64 a, .int .i64 b, .int .i64 c, .int .i64 d]) (.int .i64 1)).run Try.prog w = .ok (.int .i64 b) w := fun _ _ _ _ _ => by kernel_rfl
 have ix2 : ∀ (a b c d : Int) (w : World), (Instr.index 85 (.agg #[.int .i64 a, .int .i64 b, .int .i64 c, .int .i64 d]) (.int .i64 2)).run Try.prog w = .ok (.int .i64 c) w := fun _ _ _ _ _ => by kernel_rfl
 have ix3 : ∀ (a b c d : Int) (w : World), (Instr.index 85 (.agg #[.int .i64 a, .int .i64 b, .int .i64 c, .int .i64 d]) (.int .i64 3)).run Try.prog w = .ok (.int .i64 d) w := fun _ _ _ _ _ => by kernel_rfl
 have HR0 := Aside0.mk hr0
 have HC0 := Aside0.mk hc0
 clear hr0 hc0
 have HB := Aside0.mk (Below.refl w.heap.size w)
 have H : ((glue_Total.f k l0).bind fun bt164 => ((scaled_Sub.f a1 bt164.1).bind fun bt172 => (if bt164.2.2.2.2.2.2 = true then (glue_Set.j0 k bt172.1 (!bt172.2) bt164.1 bt164.2.1 bt164.2.2.1 bt164.2.2.2.1 bt164.2.2.2.2.1 bt164.2.2.2.2.2.1) else (glue_Set.j0 k bt172.1 true bt164.1 bt164.2.1 bt164.2.2.1 bt164.2.2.2.1 bt164.2.2.2.2.1 bt164.2.2.2.2.2.1)))) = some (r1, r2, r3, r4, r5) := h
 clear h
 replace H := Option.bind_eq_some_iff.mp H
 obtain ⟨⟨t164, t165, t166, t167, t168, t169, t170⟩, A30, H⟩ := H
 replace H : ((scaled_Sub.f a1 t164).bind fun bt172 => (if t170 = true then (glue_Set.j0 k bt172.1 (!bt172.2) t164 t165 t166 t167 t168 t169) else (glue_Set.j0 k bt172.1 true t164 t165 t166 t167 t168 t169))) = some (r1, r2, r3, r4, r5) := H
 have A3 := Aside0.mk A30
 clear A30
 replace H := Option.bind_eq_some_iff.mp H
 obtain ⟨⟨t172, t173⟩, A40, H⟩ := H
 replace H : (if t170 = true then (glue_Set.j0 k t172 (!t173) t164 t165 t166 t167 t168 t169) else (glue_Set.j0 k t172 true t164 t165 t166 t167 t168 t169)) = some (r1, r2, r3, r4, r5) := H
 have A4 := Aside0.mk A40
 clear A40
 have HC5 := Aside0.mk H
 clear H
 go_enter Try.func44, Try.ntmps44
 go_upto_region 3 with (first | ((with_reducible refine gate_dst (N := 4) rfl ?_); refine box_event ?hg (N := 4) ?hd (cs := #[.int .i64 0, .int .i64 0, .int .i64 0, .int .i64 0]) (t := 56) ?hr ?_; (case hd => rfl); (case hg => rfl); (case hr => first | (go_simp; done) | (go_simp; rfl)); intro gb163 hg w6 hbox hb; have n0_ := Aside0.mk (bs_ HB.out hb); have n1_ := Aside0.mk (hbox); have n2_ := Aside0.mk ((by rw [hg]; exact (below_size (bv_ HB.out)) : w.heap.size ≤ gb163)); have n3_ := Aside0.mk ((by rw [hg]; exact (below_size (bv_ HB.out)) : w.heap.size ≤ gb163)); clear HB; have HB := n0_; have BK163 := n1_; have GW163 := n2_; have GE163 := n3_; clear n0_ n1_ n2_ n3_; clear hb hbox hg) | ((with_reducible refine gate_callee (f := 53) rfl ?_); refine goesL_ (some 15) rfl rfl Try.func53 (by kernel_rfl) rfl #[.slice A0 l0.length c0] rfl (by (try simp only [List.map_toArray, List.map_cons, List.map_nil]); first | done | rfl | (simp only [List.length_drop, List.length_take]; rfl) | (simp only [*]; first | done | rfl)) ?_; (with_reducible refine (glue_Total.calls k _ _ l0 t164 t165 t166 t167 t168 t169 t170 _ ?side1 ?side2 A3.out).mono ?_); (case side1 => repeat (first | exact (Kd.C_below HR0.out HB.out) | (with_reducible refine Kd.C_alloc ?_ _) | (with_reducible refine Kd.C_drewN ?_ _) | (with_reducible refine Kd.C_drew ?_))); (case side2 => exact HC0.out); rintro e w7 ⟨rfl, hb⟩; refine ⟨_, rfl, ?_⟩; have n0_ := Aside0.mk (kb_ BK163.out hb); have n1_ := Aside0.mk (below_step (by repeat (first | (with_reducible first | exact HB.out | apply below_alloc | apply pw_below_drewN | apply below_drew1 | refine below_set ?_ GE163.out) | exact HB.out)) hb); clear BK163; clear HB; have BK163 := n0_; have HB := n1_; clear n0_ n1_; (try clear hb); (try clear hb2); (try clear hk); (try clear hi)) | ((with_reducible refine gate_dst (N := 6) rfl ?_); refine box_event ?hg (N := 6) ?hd (cs := #[.int .i64 0, .int .i64 0, .int .i64 0, .int .i64 0, .int .i64 0, .int .i64 0]) (t := 87) ?hr ?_; (case hd => rfl); (case hg => rfl); (case hr => first | (go_simp; done) | (go_simp; rfl)); intro gb171 hg w8 hbox hb; have n0_ := Aside0.mk (kb_ BK163.out hb); have n1_ := Aside0.mk (below_step (by repeat (first | (with_reducible first | exact HB.out | apply below_alloc | apply pw_below_drewN | apply below_drew1 | refine below_set ?_ GE163.out) | exact HB.out)) hb); have n2_ := Aside0.mk (hbox); have n3_ := Aside0.mk ((by rw [hg]; exact (below_size (by repeat (first | (with_reducible first | exact HB.out | apply below_alloc | apply pw_below_drewN | apply below_drew1 | refine below_set ?_ GE163.out) | exact HB.out))) : w.heap.size ≤ gb171)); have n4_ := Aside0.mk ((by rw [hg]; exact (below_size (by repeat (first | (with_reducible first | exact HB.out | apply below_alloc | apply pw_below_drewN | apply below_drew1 | refine below_set ?_ GE163.out) | exact HB.out))) : w.heap.size ≤ gb171)); have n5_ := Aside0.mk ((by rw [hg]; exact Nat.ne_of_lt (blk_lt (kv_ BK163.out)) : gb163 ≠ gb171)); have n6_ := Aside0.mk ((by rw [hg]; exact Nat.ne_of_gt (blk_lt (kv_ BK163.out)) : gb171 ≠ gb163)); clear BK163; clear HB; have BK163 := n0_; have HB := n1_; have BK171 := n2_; have GW171 := n3_; have GE171 := n4_; have NB163_171 := n5_; have NB171_163 := n6_; clear n0_ n1_ n2_ n3_ n4_ n5_ n6_; clear hb hbox hg; have hnb9 := NB171_163.out; have hnc9 := NB163_171.out; have hcz10_0 : w8.cell? ⟨gb171, 0, none⟩ = some (.int .i64 0) := (blk_cell BK171.out 0).trans rfl; have hcz10_1 : w8.cell? ⟨gb171, 1, none⟩ = some (.int .i64 0) := (blk_cell BK171.out 1).trans rfl; have hcz10_2 : w8.cell? ⟨gb171, 2, none⟩ = some (.int .i64 0) := (blk_cell BK171.out 2).trans rfl; have hcz10_3 : w8.cell? ⟨gb171, 3, none⟩ = some (.int .i64 0) := (blk_cell BK171.out 3).trans rfl; have hcz10_4 : w8.cell? ⟨gb171, 4, none⟩ = some (.int .i64 0) := (blk_cell BK171.out 4).trans rfl; have hcz10_5 : w8.cell? ⟨gb171, 5, none⟩ = some (.int .i64 0) := (blk_cell BK171.out 5).trans rfl; have hfz10_0 := blk_frozen BK171.out 0; have hfz10_1 := blk_frozen BK171.out 1; have hfz10_2 := blk_frozen BK171.out 2; have hfz10_3 := blk_frozen BK171.out 3; have hfz10_4 := blk_frozen BK171.out 4; have hfz10_5 := blk_frozen BK171.out 5) | ((with_reducible refine gate_callee (f := 54) rfl ?_); refine goesL_ (some 22) rfl rfl Try.func54 (by kernel_rfl) rfl #[.int .i64 a1, .int .i64 t164] rfl (by (try simp only [List.map_toArray, List.map_cons, List.map_nil]); first | done | rfl | (simp only [List.length_drop, List.length_take]; rfl) | (simp only [*]; first | done | rfl)) ?_; (with_reducible refine (scaled_Sub.calls a1 t164 t172 t173 _ A4.out).mono ?_); rintro e w' ⟨rfl, ⟨nd, rfl⟩⟩; refine ⟨_, rfl, ?_⟩))
 (try simp only [Act.put, List.setIfInBounds_toArray, List.set_cons_zero, List.set_cons_succ])
 go_cut [30] (fun v30 wc => ∃ (kq : Nat) (x30_4 : Bool), v30 = .bool x30_4 ∧ Aside0 (glue_Set.j0 kq t172 x30_4 t164 t165 t166 t167 t168 t169 = some (r1, r2, r3, r4, r5)) ∧ Aside0 (kq ≤ k) ∧ Aside0 (wc.heap[gb163]? = some (.cells #[.int .i64 0, .int .i64 0, .int .i64 0, .int .i64 0] 56 (0, 0))) ∧ Aside0 (wc.heap[gb171]? = some (.cells #[.int .i64 t164, .int .i64 t165, .int .i64 t166, .int .i64 t167, .int .i64 t168, .int .i64 t169] 87 (0, 0))) ∧ Aside0 (Below w.heap.size w wc))
 case first =>
  have H := HC5.out
  clear HC5
  by_cases c11 : t170 = true
  ·subst c11
   have H1 : (glue_Set.j0 k t172 (!t173) t164 t165 t166 t167 t168 t169) = some (r1, r2, r3, r4, r5) := by rw [if_pos rfl] at H; exact H
   clear H
   have H := H1
   clear H1
   have H' := Aside0.mk H
   clear H
   go_wp2
   go_meet
   case rel => exact ⟨_, (!t173), (by first | rfl | (simp; done) | (simp [*]; done)), H', ⟨by first | omega | exact Nat.le_refl _⟩, ⟨by (with_reducible repeat (first | refine blk_drewN ?_ _ | refine blk_drew ?_ | refine blk_alloc ?_ _)); refine blk_far ?_ NB163_171.out _; (with_reducible repeat (first | refine blk_drewN ?_ _ | refine blk_drew ?_ | refine blk_alloc ?_ _)); refine blk_far ?_ NB163_171.out _; (with_reducible repeat (first | refine blk_drewN ?_ _ | refine blk_drew ?_ | refine blk_alloc ?_ _)); refine blk_far ?_ NB163_171.out _; (with_reducible repeat (first | refine blk_drewN ?_ _ | refine blk_drew ?_ | refine blk_alloc ?_ _)); refine blk_far ?_ NB163_171.out _; (with_reducible repeat (first | refine blk_drewN ?_ _ | refine blk_drew ?_ | refine blk_alloc ?_ _)); refine blk_far ?_ NB163_171.out _; (with_reducible repeat (first | refine blk_drewN ?_ _ | refine blk_drew ?_ | refine blk_alloc ?_ _)); refine blk_far ?_ NB163_171.out _; (with_reducible repeat (first | refine blk_drewN ?_ _ | refine blk_drew ?_ | refine blk_alloc ?_ _)); exact BK163.out⟩, ⟨by (with_reducible repeat (first | refine blk_drewN ?_ _ | refine blk_drew ?_ | refine blk_alloc ?_ _)); refine blk_put (cs := #[.int .i64 t164, .int .i64 t165, .int .i64 t166, .int .i64 t167, .int .i64 t168, .int .i64 0]) ?_ 5 _ rfl; (with_reducible repeat (first | refine blk_drewN ?_ _ | refine blk_drew ?_ | refine blk_alloc ?_ _)); refine blk_put (cs := #[.int .i64 t164, .int .i64 t165, .int .i64 t166, .int .i64 t167, .int .i64 0, .int .i64 0]) ?_ 4 _ rfl; (with_reducible repeat (first | refine blk_drewN ?_ _ | refine blk_drew ?_ | refine blk_alloc ?_ _)); refine blk_put (cs := #[.int .i64 t164, .int .i64 t165, .int .i64 t166, .int .i64 0, .int .i64 0, .int .i64 0]) ?_ 3 _ rfl; (with_reducible repeat (first | refine blk_drewN ?_ _ | refine blk_drew ?_ | refine blk_alloc ?_ _)); refine blk_put (cs := #[.int .i64 t164, .int .i64 t165, .int .i64 0, .int .i64 0, .int .i64 0, .int .i64 0]) ?_ 2 _ rfl; (with_reducible repeat (first | refine blk_drewN ?_ _ | refine blk_drew ?_ | refine blk_alloc ?_ _)); refine blk_put (cs := #[.int .i64 t164, .int .i64 0, .int .i64 0, .int .i64 0, .int .i64 0, .int .i64 0]) ?_ 1 _ rfl; (with_reducible repeat (first | refine blk_drewN ?_ _ | refine blk_drew ?_ | refine blk_alloc ?_ _)); refine blk_put (cs := #[.int .i64 0, .int .i64 0, .int .i64 0, .int .i64 0, .int .i64 0, .int .i64 0]) ?_ 0 _ rfl; (with_reducible repeat (first | refine blk_drewN ?_ _ | refine blk_drew ?_ | refine blk_alloc ?_ _)); exact BK171.out⟩, ⟨by repeat (first | (with_reducible first | exact HB.out | apply below_alloc | apply pw_below_drewN | apply below_drew1 | refine below_set ?_ GE163.out | refine below_set ?_ GE171.out) | exact HB.out)⟩⟩
  ·replace c11 := Bool.eq_false_iff.mpr c11
   subst c11
   have H1 : (glue_Set.j0 k t172 true t164 t165 t166 t167 t168 t169) = some (r1, r2, r3, r4, r5) := by rw [if_neg (show ¬ (false = true) by decide)] at H; exact H
   clear H
   have H := H1
   clear H1
   have H' := Aside0.mk H
   clear H
   go_wp2
   go_meet
   case rel => exact ⟨_, (true), (by first | rfl | (simp; done) | (simp [*]; done)), H', ⟨by first | omega | exact Nat.le_refl _⟩, ⟨by (with_reducible repeat (first | refine blk_drewN ?_ _ | refine blk_drew ?_ | refine blk_alloc ?_ _)); refine blk_far ?_ NB163_171.out _; (with_reducible repeat (first | refine blk_drewN ?_ _ | refine blk_drew ?_ | refine blk_alloc ?_ _)); refine blk_far ?_ NB163_171.out _; (with_reducible repeat (first | refine blk_drewN ?_ _ | refine blk_drew ?_ | refine blk_alloc ?_ _)); refine blk_far ?_ NB163_171.out _; (with_reducible repeat (first | refine blk_drewN ?_ _ | refine blk_drew ?_ | refine blk_alloc ?_ _)); refine blk_far ?_ NB163_171.out _; (with_reducible repeat (first | refine blk_drewN ?_ _ | refine blk_drew ?_ | refine blk_alloc ?_ _)); refine blk_far ?_ NB163_171.out _; (with_reducible repeat (first | refine blk_drewN ?_ _ | refine blk_drew ?_ | refine blk_alloc ?_ _)); refine blk_far ?_ NB163_171.out _; (with_reducible repeat (first | refine blk_drewN ?_ _ | refine blk_drew ?_ | refine blk_alloc ?_ _)); exact BK163.out⟩, ⟨by (with_reducible repeat (first | refine blk_drewN ?_ _ | refine blk_drew ?_ | refine blk_alloc ?_ _)); refine blk_put (cs := #[.int .i64 t164, .int .i64 t165, .int .i64 t166, .int .i64 t167, .int .i64 t168, .int .i64 0]) ?_ 5 _ rfl; (with_reducible repeat (first | refine blk_drewN ?_ _ | refine blk_drew ?_ | refine blk_alloc ?_ _)); refine blk_put (cs := #[.int .i64 t164, .int .i64 t165, .int .i64 t166, .int .i64 t167, .int .i64 0, .int .i64 0]) ?_ 4 _ rfl; (with_reducible repeat (first | refine blk_drewN ?_ _ | refine blk_drew ?_ | refine blk_alloc ?_ _)); refine blk_put (cs := #[.int .i64 t164, .int .i64 t165, .int .i64 t166, .int .i64 0, .int .i64 0, .int .i64 0]) ?_ 3 _ rfl; (with_reducible repeat (first | refine blk_drewN ?_ _ | refine blk_drew ?_ | refine blk_alloc ?_ _)); refine blk_put (cs := #[.int .i64 t164, .int .i64 t165, .int .i64 0, .int .i64 0, .int .i64 0, .int .i64 0]) ?_ 2 _ rfl; (with_reducible repeat (first | refine blk_drewN ?_ _ | refine blk_drew ?_ | refine blk_alloc ?_ _)); refine blk_put (cs := #[.int .i64 t164, .int .i64 0, .int .i64 0, .int .i64 0, .int .i64 0, .int .i64 0]) ?_ 1 _ rfl; (with_reducible repeat (first | refine blk_drewN ?_ _ | refine blk_drew ?_ | refine blk_alloc ?_ _)); refine blk_put (cs := #[.int .i64 0, .int .i64 0, .int .i64 0, .int .i64 0, .int .i64 0, .int .i64 0]) ?_ 0 _ rfl; (with_reducible repeat (first | refine blk_drewN ?_ _ | refine blk_drew ?_ | refine blk_alloc ?_ _)); exact BK171.out⟩, ⟨by repeat (first | (with_reducible first | exact HB.out | apply below_alloc | apply pw_below_drewN | apply below_drew1 | refine below_set ?_ GE163.out | refine below_set ?_ GE171.out) | exact HB.out)⟩⟩
 case rest =>
  clear HC5
  try clear c1
  try clear p2
  try clear c4
  try clear c5
  try clear c9
  try clear c11
  try clear hcz10_0
  try clear hcz10_1
  try clear hcz10_2
  try clear hcz10_3
  try clear hcz10_4
  try clear hcz10_5
  try clear hfz10_0
  try clear hfz10_1
  try clear hfz10_2
  try clear hfz10_3
  try clear hfz10_4
  try clear hfz10_5
  obtain ⟨kq, x30_4, rfl, HA, HJ4, BK163, BK171, HB⟩ := hcut
  cases kq with
  | zero => exact absurd HA.out (by simp [glue_Set.j0])
  | succ kj4 =>
   have H := HA.out
   clear HA
   simp only [glue_Set.j0] at H
   by_cases c12 : x30_4 = true
   ·subst c12
    have H1 : (some (0, 0, 0, 0, false)) = some (r1, r2, r3, r4, r5) := by rw [if_pos rfl] at H; exact H
    clear H
    have H := H1
    clear H1
    simp only [Option.some.injEq, Prod.mk.injEq] at H
    obtain ⟨rfl, rfl, rfl, rfl, rfl⟩ := H
    have hnb13 := NB163_171.out
    have hnc13 := NB171_163.out
    obtain ⟨⟨hcz14_0, hfz14_0⟩, ⟨hcz14_1, hfz14_1⟩, ⟨hcz14_2, hfz14_2⟩, hcz14_3, hfz14_3⟩ := cs4_ BK163.out
    go_wp2
    refine bodyPost_ret (results_ct rfl _ _ gb163 56 #[.int .i64 0, .int .i64 0, .int .i64 0, .int .i64 0] (0, 0) _ rfl (by (with_reducible repeat (first | refine blk_drewN ?_ _ | refine blk_drew ?_ | refine blk_alloc ?_ _)); refine blk_put (cs := #[.int .i64 0, .int .i64 0, .int .i64 0, .int .i64 0]) ?_ 3 _ rfl; (with_reducible repeat (first | refine blk_drewN ?_ _ | refine blk_drew ?_ | refine blk_alloc ?_ _)); refine blk_put (cs := #[.int .i64 0, .int .i64 0, .int .i64 0, .int .i64 0]) ?_ 2 _ rfl; (with_reducible repeat (first | refine blk_drewN ?_ _ | refine blk_drew ?_ | refine blk_alloc ?_ _)); refine blk_put (cs := #[.int .i64 0, .int .i64 0, .int .i64 0, .int .i64 0]) ?_ 1 _ rfl; (with_reducible repeat (first | refine blk_drewN ?_ _ | refine blk_drew ?_ | refine blk_alloc ?_ _)); refine blk_put (cs := #[.int .i64 0, .int .i64 0, .int .i64 0, .int .i64 0]) ?_ 0 _ rfl; (with_reducible repeat (first | refine blk_drewN ?_ _ | refine blk_drew ?_ | refine blk_alloc ?_ _)); exact BK163.out) Try.underlying56 rfl (by kernel_rfl)) rfl ?_
    exact ⟨by first | rfl | (simp [errW_none, errW_some] <;> rfl) | (simp [*, errW_none, errW_some] <;> rfl), by repeat (first | (with_reducible first | exact HB.out | apply below_alloc | apply pw_below_drewN | apply below_drew1 | refine below_set ?_ GE163.out | refine below_set ?_ GE171.out) | exact HB.out)⟩
   ·replace c12 := Bool.eq_false_iff.mpr c12
    subst c12
    have H1 : (if t172 < 0 then ((glue_Badness.f kj4 (wrap64 (-t172)) t165).bind fun t175 => (if (wrap64 (-t172)) > t165 then (some ((-1), 0, t172, 1000000, true)) else (some ((-1), 0, t172, t175, true)))) else (if t172 > 0 then (if t166 = 0 then (glue_Set.j1 kj4 t164 t165 t166 t167 t168 t169 0 0 t172 10000) else ((glue_Badness.f kj4 t172 t166).bind fun t176 => (glue_Set.j1 kj4 t164 t165 t166 t167 t168 t169 1 0 t172 t176))) else (some (0, 0, t172, 0, true)))) = some (r1, r2, r3, r4, r5) := by rw [if_neg (show ¬ (false = true) by decide)] at H; exact H
    clear H
    have H := H1
    clear H1
    by_cases c15 : t172 < 0
    ·rw [if_pos c15] at H
     have c15b0 : decide (t172 < 0) = true := decide_eq_true c15
     clear c15
     replace H := Option.bind_eq_some_iff.mp H
     obtain ⟨t175, A160, H⟩ := H
     replace H : (if (wrap64 (-t172)) > t165 then (some ((-1), 0, t172, 1000000, true)) else (some ((-1), 0, t172, t175, true))) = some (r1, r2, r3, r4, r5) := H
     have A16 := Aside0.mk A160
     clear A160
     by_cases c17 : (wrap64 (-t172)) > t165
     ·rw [if_pos c17] at H
      have c17b0 : decide (t165 < (wrap64 (-t172))) = true := decide_eq_true c17
      clear c17
      simp only [Option.some.injEq, Prod.mk.injEq] at H
      obtain ⟨rfl, rfl, rfl, rfl, rfl⟩ := H
      go_upto_region 9 with (first | ((with_reducible refine gate_dst (N := 10) rfl ?_); refine box_event ?hg (N := 10) ?hd (cs := #[.int .i64 0, .int .i64 0, .int .i64 0, .int .i64 0]) (t := 56) ?hr ?_; (case hd => rfl); (case hg => rfl); (case hr => first | (go_simp; done) | (go_simp; rfl)); intro gb174 hg w18 hbox hb; have n0_ := Aside0.mk (kb_ BK163.out hb); have n1_ := Aside0.mk (kb_ BK171.out hb); have n2_ := Aside0.mk (below_step (by repeat (first | (with_reducible first | exact HB.out | apply below_alloc | apply pw_below_drewN | apply below_drew1 | refine below_set ?_ GE163.out | refine below_set ?_ GE171.out) | exact HB.out)) hb); have n3_ := Aside0.mk (hbox); have n4_ := Aside0.mk ((by rw [hg]; exact (below_size (by repeat (first | (with_reducible first | exact HB.out | apply below_alloc | apply pw_below_drewN | apply below_drew1 | refine below_set ?_ GE163.out | refine below_set ?_ GE171.out) | exact HB.out))) : w.heap.size ≤ gb174)); have n5_ := Aside0.mk ((by rw [hg]; exact (below_size (by repeat (first | (with_reducible first | exact HB.out | apply below_alloc | apply pw_below_drewN | apply below_drew1 | refine below_set ?_ GE163.out | refine below_set ?_ GE171.out) | exact HB.out))) : w.heap.size ≤ gb174)); have n6_ := Aside0.mk ((by rw [hg]; exact Nat.ne_of_lt (blk_lt (kv_ BK163.out)) : gb163 ≠ gb174)); have n7_ := Aside0.mk ((by rw [hg]; exact Nat.ne_of_gt (blk_lt (kv_ BK163.out)) : gb174 ≠ gb163)); have n8_ := Aside0.mk ((by rw [hg]; exact Nat.ne_of_lt (blk_lt (kv_ BK171.out)) : gb171 ≠ gb174)); have n9_ := Aside0.mk ((by rw [hg]; exact Nat.ne_of_gt (blk_lt (kv_ BK171.out)) : gb174 ≠ gb171)); clear BK163; clear BK171; clear HB; have BK163 := n0_; have BK171 := n1_; have HB := n2_; have BK174 := n3_; have GW174 := n4_; have GE174 := n5_; have NB163_174 := n6_; have NB174_163 := n7_; have NB171_174 := n8_; have NB174_171 := n9_; clear n0_ n1_ n2_ n3_ n4_ n5_ n6_ n7_ n8_ n9_; clear hb hbox hg; have hnb19 := NB174_163.out; have hnc19 := NB163_174.out; have hnb20 := NB174_171.out; have hnc20 := NB171_174.out; obtain ⟨⟨hcz21_0, hfz21_0⟩, ⟨hcz21_1, hfz21_1⟩, ⟨hcz21_2, hfz21_2⟩, hcz21_3, hfz21_3⟩ := cs4_ BK174.out; have hnb22 := NB171_163.out; have hnc22 := NB163_171.out; have hcz23_0 : w18.cell? ⟨gb171, 0, none⟩ = some (.int .i64 t164) := (blk_cell BK171.out 0).trans rfl; have hcz23_1 : w18.cell? ⟨gb171, 1, none⟩ = some (.int .i64 t165) := (blk_cell BK171.out 1).trans rfl; have hcz23_2 : w18.cell? ⟨gb171, 2, none⟩ = some (.int .i64 t166) := (blk_cell BK171.out 2).trans rfl; have hcz23_3 : w18.cell? ⟨gb171, 3, none⟩ = some (.int .i64 t167) := (blk_cell BK171.out 3).trans rfl; have hcz23_4 : w18.cell? ⟨gb171, 4, none⟩ = some (.int .i64 t168) := (blk_cell BK171.out 4).trans rfl; have hcz23_5 : w18.cell? ⟨gb171, 5, none⟩ = some (.int .i64 t169) := (blk_cell BK171.out 5).trans rfl; have hfz23_0 := blk_frozen BK171.out 0; have hfz23_1 := blk_frozen BK171.out 1; have hfz23_2 := blk_frozen BK171.out 2; have hfz23_3 := blk_frozen BK171.out 3; have hfz23_4 := blk_frozen BK171.out 4; have hfz23_5 := blk_frozen BK171.out 5) | ((with_reducible refine gate_callee (f := 55) rfl ?_); refine goesL_ (some 41) rfl rfl Try.func55 (by kernel_rfl) rfl #[.int .i64 (wrap64 (-t172)), .int .i64 t165] rfl (by (try simp only [List.map_toArray, List.map_cons, List.map_nil]); first | done | rfl | (simp only [List.length_drop, List.length_take]; rfl) | (simp only [*]; first | done | rfl)) ?_; (with_reducible refine (glue_Badness.calls kj4 (wrap64 (-t172)) t165 t175 _ A16.out).mono ?_); rintro e w' ⟨rfl, ⟨nd, rfl⟩⟩; refine ⟨_, rfl, ?_⟩; have hcz24_0 : w18.cell? ⟨gb163, 0, none⟩ = some (.int .i64 0) := (blk_cell BK163.out 0).trans rfl; have hcz24_1 : w18.cell? ⟨gb163, 1, none⟩ = some (.int .i64 0) := (blk_cell BK163.out 1).trans rfl; have hcz24_2 : w18.cell? ⟨gb163, 2, none⟩ = some (.int .i64 0) := (blk_cell BK163.out 2).trans rfl; have hcz24_3 : w18.cell? ⟨gb163, 3, none⟩ = some (.int .i64 0) := (blk_cell BK163.out 3).trans rfl; have hfz24_0 := blk_frozen BK163.out 0; have hfz24_1 := blk_frozen BK163.out 1; have hfz24_2 := blk_frozen BK163.out 2; have hfz24_3 := blk_frozen BK163.out 3))
      obtain ⟨w9, hw9⟩ : ∃ w9, w9 = (((((((w18.setCell ⟨gb174, 0, none⟩ (Value.int IntKind.i64 0)).setCell ⟨gb174, 1, none⟩ (Value.int IntKind.i64 0)).setCell ⟨gb174, 2, none⟩ (Value.int IntKind.i64 t172)).setCell ⟨gb174, 3, none⟩ (Value.int IntKind.i64 0)).drewN nd).setCell ⟨gb174, 0, none⟩ (Value.int IntKind.i64 (-1))).setCell ⟨gb174, 3, none⟩ (Value.int IntKind.i64 t175)) := ⟨_, rfl⟩
      rw [← hw9]
      have K9 := Aside0.mk (show w9.heap[gb174]? = some (.cells #[.int .i64 (-1), .int .i64 0, .int .i64 t172, .int .i64 t175] 56 (0, 0)) by rw [hw9]; exact blk_put (cs := #[.int .i64 (-1), .int .i64 0, .int .i64 t172, .int .i64 0]) (blk_put (cs := #[.int .i64 0, .int .i64 0, .int .i64 t172, .int .i64 0]) (blk_drewN (blk_put (cs := #[.int .i64 0, .int .i64 0, .int .i64 t172, .int .i64 0]) (blk_put (cs := #[.int .i64 0, .int .i64 0, .int .i64 0, .int .i64 0]) (blk_put (cs := #[.int .i64 0, .int .i64 0, .int .i64 0, .int .i64 0]) (blk_put (cs := #[.int .i64 0, .int .i64 0, .int .i64 0, .int .i64 0]) (BK174.out) 0 _ rfl) 1 _ rfl) 2 _ rfl) 3 _ rfl) nd) 0 _ rfl) 3 _ rfl)
      have K8 := Aside0.mk (show w9.heap[gb163]? = some (.cells #[.int .i64 0, .int .i64 0, .int .i64 0, .int .i64 0] 56 (0, 0)) by rw [hw9]; exact blk_far (blk_far (blk_drewN (blk_far (blk_far (blk_far (blk_far (BK163.out) (p := ⟨gb174, 0, none⟩) NB163_174.out _) (p := ⟨gb174, 1, none⟩) NB163_174.out _) (p := ⟨gb174, 2, none⟩) NB163_174.out _) (p := ⟨gb174, 3, none⟩) NB163_174.out _) nd) (p := ⟨gb174, 0, none⟩) NB163_174.out _) (p := ⟨gb174, 3, none⟩) NB163_174.out _)
      have K7 := Aside0.mk (show Below w.heap.size w w9 by rw [hw9]; exact Below.setCell (Below.setCell (pw_below_drewN (Below.setCell (Below.setCell (Below.setCell (Below.setCell (HB.out) GE174.out _) GE174.out _) GE174.out _) GE174.out _) nd) GE174.out _) GE174.out _)
      clear hw9
      try clear hcz21_0 hfz21_0
      try clear hcz21_1 hfz21_1
      try clear hcz21_2 hfz21_2
      try clear hcz21_3 hfz21_3
      try clear hcz21_4 hfz21_4
      try clear hcz21_5 hfz21_5
      try clear hcz23_0 hfz23_0
      try clear hcz23_1 hfz23_1
      try clear hcz23_2 hfz23_2
      try clear hcz23_3 hfz23_3
      try clear hcz23_4 hfz23_4
      try clear hcz23_5 hfz23_5
      try clear hcz24_0 hfz24_0
      try clear hcz24_1 hfz24_1
      try clear hcz24_2 hfz24_2
      try clear hcz24_3 hfz24_3
      try clear hcz24_4 hfz24_4
      try clear hcz24_5 hfz24_5
      have hp0 : w9.cell? ⟨gb174, 0, none⟩ = some (.int .i64 (-1)) := (blk_cell K9.out 0).trans rfl
      have hq0 := blk_frozen K9.out 0
      have hr0 : w9.cell? ⟨gb163, 0, none⟩ = some (.int .i64 0) := (blk_cell K8.out 0).trans rfl
      have hs0 := blk_frozen K8.out 0
      have hp1 : w9.cell? ⟨gb174, 1, none⟩ = some (.int .i64 0) := (blk_cell K9.out 1).trans rfl
      have hq1 := blk_frozen K9.out 1
      have hr1 : w9.cell? ⟨gb163, 1, none⟩ = some (.int .i64 0) := (blk_cell K8.out 1).trans rfl
      have hs1 := blk_frozen K8.out 1
      have hp2 : w9.cell? ⟨gb174, 2, none⟩ = some (.int .i64 t172) := (blk_cell K9.out 2).trans rfl
      have hq2 := blk_frozen K9.out 2
      have hr2 : w9.cell? ⟨gb163, 2, none⟩ = some (.int .i64 0) := (blk_cell K8.out 2).trans rfl
      have hs2 := blk_frozen K8.out 2
      have hp3 : w9.cell? ⟨gb174, 3, none⟩ = some (.int .i64 t175) := (blk_cell K9.out 3).trans rfl
      have hq3 := blk_frozen K9.out 3
      have hr3 : w9.cell? ⟨gb163, 3, none⟩ = some (.int .i64 0) := (blk_cell K8.out 3).trans rfl
      have hs3 := blk_frozen K8.out 3
      go_wp2
      refine bodyPost_ret (results_ct rfl _ _ gb163 56 #[.int .i64 (-1), .int .i64 0, .int .i64 t172, .int .i64 1000000] (0, 0) _ rfl (by exact blk_put (cs := #[.int .i64 (-1), .int .i64 0, .int .i64 t172, .int .i64 0]) (blk_put (cs := #[.int .i64 (-1), .int .i64 0, .int .i64 0, .int .i64 0]) (blk_put (cs := #[.int .i64 (-1), .int .i64 0, .int .i64 0, .int .i64 0]) (blk_put (cs := #[.int .i64 0, .int .i64 0, .int .i64 0, .int .i64 0]) (blk_far K8.out (p := ⟨gb174, 3, none⟩) NB163_174.out _) 0 _ rfl) 1 _ rfl) 2 _ rfl) 3 _ rfl) Try.underlying56 rfl (by kernel_rfl)) rfl ?_
      exact ⟨rfl, Below.setCell (Below.setCell (Below.setCell (Below.setCell (Below.setCell K7.out GE174.out _) GE163.out _) GE163.out _) GE163.out _) GE163.out _⟩
     ·rw [if_neg c17] at H
      have c17b0 : decide (t165 < (wrap64 (-t172))) = false := decide_eq_false c17
      clear c17
      simp only [Option.some.injEq, Prod.mk.injEq] at H
      obtain ⟨rfl, rfl, rfl, rfl, rfl⟩ := H
      go_upto_region 20 with (first | ((with_reducible refine gate_dst (N := 10) rfl ?_); refine box_event ?hg (N := 10) ?hd (cs := #[.int .i64 0, .int .i64 0, .int .i64 0, .int .i64 0]) (t := 56) ?hr ?_; (case hd => rfl); (case hg => rfl); (case hr => first | (go_simp; done) | (go_simp; rfl)); intro gb174 hg w25 hbox hb; have n0_ := Aside0.mk (kb_ BK163.out hb); have n1_ := Aside0.mk (kb_ BK171.out hb); have n2_ := Aside0.mk (below_step (by repeat (first | (with_reducible first | exact HB.out | apply below_alloc | apply pw_below_drewN | apply below_drew1 | refine below_set ?_ GE163.out | refine below_set ?_ GE171.out) | exact HB.out)) hb); have n3_ := Aside0.mk (hbox); have n4_ := Aside0.mk ((by rw [hg]; exact (below_size (by repeat (first | (with_reducible first | exact HB.out | apply below_alloc | apply pw_below_drewN | apply below_drew1 | refine below_set ?_ GE163.out | refine below_set ?_ GE171.out) | exact HB.out))) : w.heap.size ≤ gb174)); have n5_ := Aside0.mk ((by rw [hg]; exact (below_size (by repeat (first | (with_reducible first | exact HB.out | apply below_alloc | apply pw_below_drewN | apply below_drew1 | refine below_set ?_ GE163.out | refine below_set ?_ GE171.out) | exact HB.out))) : w.heap.size ≤ gb174)); have n6_ := Aside0.mk ((by rw [hg]; exact Nat.ne_of_lt (blk_lt (kv_ BK163.out)) : gb163 ≠ gb174)); have n7_ := Aside0.mk ((by rw [hg]; exact Nat.ne_of_gt (blk_lt (kv_ BK163.out)) : gb174 ≠ gb163)); have n8_ := Aside0.mk ((by rw [hg]; exact Nat.ne_of_lt (blk_lt (kv_ BK171.out)) : gb171 ≠ gb174)); have n9_ := Aside0.mk ((by rw [hg]; exact Nat.ne_of_gt (blk_lt (kv_ BK171.out)) : gb174 ≠ gb171)); clear BK163; clear BK171; clear HB; have BK163 := n0_; have BK171 := n1_; have HB := n2_; have BK174 := n3_; have GW174 := n4_; have GE174 := n5_; have NB163_174 := n6_; have NB174_163 := n7_; have NB171_174 := n8_; have NB174_171 := n9_; clear n0_ n1_ n2_ n3_ n4_ n5_ n6_ n7_ n8_ n9_; clear hb hbox hg; have hnb26 := NB174_163.out; have hnc26 := NB163_174.out; have hnb27 := NB174_171.out; have hnc27 := NB171_174.out; obtain ⟨⟨hcz28_0, hfz28_0⟩, ⟨hcz28_1, hfz28_1⟩, ⟨hcz28_2, hfz28_2⟩, hcz28_3, hfz28_3⟩ := cs4_ BK174.out; have hnb29 := NB171_163.out; have hnc29 := NB163_171.out; have hcz30_0 : w25.cell? ⟨gb171, 0, none⟩ = some (.int .i64 t164) := (blk_cell BK171.out 0).trans rfl; have hcz30_1 : w25.cell? ⟨gb171, 1, none⟩ = some (.int .i64 t165) := (blk_cell BK171.out 1).trans rfl; have hcz30_2 : w25.cell? ⟨gb171, 2, none⟩ = some (.int .i64 t166) := (blk_cell BK171.out 2).trans rfl; have hcz30_3 : w25.cell? ⟨gb171, 3, none⟩ = some (.int .i64 t167) := (blk_cell BK171.out 3).trans rfl; have hcz30_4 : w25.cell? ⟨gb171, 4, none⟩ = some (.int .i64 t168) := (blk_cell BK171.out 4).trans rfl; have hcz30_5 : w25.cell? ⟨gb171, 5, none⟩ = some (.int .i64 t169) := (blk_cell BK171.out 5).trans rfl; have hfz30_0 := blk_frozen BK171.out 0; have hfz30_1 := blk_frozen BK171.out 1; have hfz30_2 := blk_frozen BK171.out 2; have hfz30_3 := blk_frozen BK171.out 3; have hfz30_4 := blk_frozen BK171.out 4; have hfz30_5 := blk_frozen BK171.out 5) | ((with_reducible refine gate_callee (f := 55) rfl ?_); refine goesL_ (some 41) rfl rfl Try.func55 (by kernel_rfl) rfl #[.int .i64 (wrap64 (-t172)), .int .i64 t165] rfl (by (try simp only [List.map_toArray, List.map_cons, List.map_nil]); first | done | rfl | (simp only [List.length_drop, List.length_take]; rfl) | (simp only [*]; first | done | rfl)) ?_; (with_reducible refine (glue_Badness.calls kj4 (wrap64 (-t172)) t165 t175 _ A16.out).mono ?_); rintro e w' ⟨rfl, ⟨nd, rfl⟩⟩; refine ⟨_, rfl, ?_⟩; have hcz31_0 : w25.cell? ⟨gb163, 0, none⟩ = some (.int .i64 0) := (blk_cell BK163.out 0).trans rfl; have hcz31_1 : w25.cell? ⟨gb163, 1, none⟩ = some (.int .i64 0) := (blk_cell BK163.out 1).trans rfl; have hcz31_2 : w25.cell? ⟨gb163, 2, none⟩ = some (.int .i64 0) := (blk_cell BK163.out 2).trans rfl; have hcz31_3 : w25.cell? ⟨gb163, 3, none⟩ = some (.int .i64 0) := (blk_cell BK163.out 3).trans rfl; have hfz31_0 := blk_frozen BK163.out 0; have hfz31_1 := blk_frozen BK163.out 1; have hfz31_2 := blk_frozen BK163.out 2; have hfz31_3 := blk_frozen BK163.out 3))
      obtain ⟨w9, hw9⟩ : ∃ w9, w9 = (((((((w25.setCell ⟨gb174, 0, none⟩ (Value.int IntKind.i64 0)).setCell ⟨gb174, 1, none⟩ (Value.int IntKind.i64 0)).setCell ⟨gb174, 2, none⟩ (Value.int IntKind.i64 t172)).setCell ⟨gb174, 3, none⟩ (Value.int IntKind.i64 0)).drewN nd).setCell ⟨gb174, 0, none⟩ (Value.int IntKind.i64 (-1))).setCell ⟨gb174, 3, none⟩ (Value.int IntKind.i64 t175)) := ⟨_, rfl⟩
      rw [← hw9]
      have K9 := Aside0.mk (show w9.heap[gb174]? = some (.cells #[.int .i64 (-1), .int .i64 0, .int .i64 t172, .int .i64 t175] 56 (0, 0)) by rw [hw9]; exact blk_put (cs := #[.int .i64 (-1), .int .i64 0, .int .i64 t172, .int .i64 0]) (blk_put (cs := #[.int .i64 0, .int .i64 0, .int .i64 t172, .int .i64 0]) (blk_drewN (blk_put (cs := #[.int .i64 0, .int .i64 0, .int .i64 t172, .int .i64 0]) (blk_put (cs := #[.int .i64 0, .int .i64 0, .int .i64 0, .int .i64 0]) (blk_put (cs := #[.int .i64 0, .int .i64 0, .int .i64 0, .int .i64 0]) (blk_put (cs := #[.int .i64 0, .int .i64 0, .int .i64 0, .int .i64 0]) (BK174.out) 0 _ rfl) 1 _ rfl) 2 _ rfl) 3 _ rfl) nd) 0 _ rfl) 3 _ rfl)
      have K8 := Aside0.mk (show w9.heap[gb163]? = some (.cells #[.int .i64 0, .int .i64 0, .int .i64 0, .int .i64 0] 56 (0, 0)) by rw [hw9]; exact blk_far (blk_far (blk_drewN (blk_far (blk_far (blk_far (blk_far (BK163.out) (p := ⟨gb174, 0, none⟩) NB163_174.out _) (p := ⟨gb174, 1, none⟩) NB163_174.out _) (p := ⟨gb174, 2, none⟩) NB163_174.out _) (p := ⟨gb174, 3, none⟩) NB163_174.out _) nd) (p := ⟨gb174, 0, none⟩) NB163_174.out _) (p := ⟨gb174, 3, none⟩) NB163_174.out _)
      have K7 := Aside0.mk (show Below w.heap.size w w9 by rw [hw9]; exact Below.setCell (Below.setCell (pw_below_drewN (Below.setCell (Below.setCell (Below.setCell (Below.setCell (HB.out) GE174.out _) GE174.out _) GE174.out _) GE174.out _) nd) GE174.out _) GE174.out _)
      clear hw9
      try clear hcz28_0 hfz28_0
      try clear hcz28_1 hfz28_1
      try clear hcz28_2 hfz28_2
      try clear hcz28_3 hfz28_3
      try clear hcz28_4 hfz28_4
      try clear hcz28_5 hfz28_5
      try clear hcz30_0 hfz30_0
      try clear hcz30_1 hfz30_1
      try clear hcz30_2 hfz30_2
      try clear hcz30_3 hfz30_3
      try clear hcz30_4 hfz30_4
      try clear hcz30_5 hfz30_5
      try clear hcz31_0 hfz31_0
      try clear hcz31_1 hfz31_1
      try clear hcz31_2 hfz31_2
      try clear hcz31_3 hfz31_3
      try clear hcz31_4 hfz31_4
      try clear hcz31_5 hfz31_5
      have hp0 : w9.cell? ⟨gb174, 0, none⟩ = some (.int .i64 (-1)) := (blk_cell K9.out 0).trans rfl
      have hq0 := blk_frozen K9.out 0
      have hr0 : w9.cell? ⟨gb163, 0, none⟩ = some (.int .i64 0) := (blk_cell K8.out 0).trans rfl
      have hs0 := blk_frozen K8.out 0
      have hp1 : w9.cell? ⟨gb174, 1, none⟩ = some (.int .i64 0) := (blk_cell K9.out 1).trans rfl
      have hq1 := blk_frozen K9.out 1
      have hr1 : w9.cell? ⟨gb163, 1, none⟩ = some (.int .i64 0) := (blk_cell K8.out 1).trans rfl
      have hs1 := blk_frozen K8.out 1
      have hp2 : w9.cell? ⟨gb174, 2, none⟩ = some (.int .i64 t172) := (blk_cell K9.out 2).trans rfl
      have hq2 := blk_frozen K9.out 2
      have hr2 : w9.cell? ⟨gb163, 2, none⟩ = some (.int .i64 0) := (blk_cell K8.out 2).trans rfl
      have hs2 := blk_frozen K8.out 2
      have hp3 : w9.cell? ⟨gb174, 3, none⟩ = some (.int .i64 t175) := (blk_cell K9.out 3).trans rfl
      have hq3 := blk_frozen K9.out 3
      have hr3 : w9.cell? ⟨gb163, 3, none⟩ = some (.int .i64 0) := (blk_cell K8.out 3).trans rfl
      have hs3 := blk_frozen K8.out 3
      go_wp2
      refine bodyPost_ret (results_ct rfl _ _ gb163 56 #[.int .i64 (-1), .int .i64 0, .int .i64 t172, .int .i64 t175] (0, 0) _ rfl (by exact blk_put (cs := #[.int .i64 (-1), .int .i64 0, .int .i64 t172, .int .i64 0]) (blk_put (cs := #[.int .i64 (-1), .int .i64 0, .int .i64 0, .int .i64 0]) (blk_put (cs := #[.int .i64 (-1), .int .i64 0, .int .i64 0, .int .i64 0]) (blk_put (cs := #[.int .i64 0, .int .i64 0, .int .i64 0, .int .i64 0]) (K8.out) 0 _ rfl) 1 _ rfl) 2 _ rfl) 3 _ rfl) Try.underlying56 rfl (by kernel_rfl)) rfl ?_
      exact ⟨rfl, Below.setCell (Below.setCell (Below.setCell (Below.setCell (K7.out) GE163.out _) GE163.out _) GE163.out _) GE163.out _⟩
    ·rw [if_neg c15] at H
     have c15b0 : decide (t172 < 0) = false := decide_eq_false c15
     clear c15
     by_cases c32 : t172 > 0
     ·rw [if_pos c32] at H
      have c32b0 : decide (0 < t172) = true := decide_eq_true c32
      clear c32
      have HC33 := Aside0.mk H
      clear H
      go_wp2_with (first | ((with_reducible refine gate_dst (N := 10) rfl ?_); refine box_event ?hg (N := 10) ?hd (cs := #[.int .i64 0, .int .i64 0, .int .i64 0, .int .i64 0]) (t := 56) ?hr ?_; (case hd => rfl); (case hg => rfl); (case hr => first | (go_simp; done) | (go_simp; rfl)); intro gb174 hg w34 hbox hb; have n0_ := Aside0.mk (kb_ BK163.out hb); have n1_ := Aside0.mk (kb_ BK171.out hb); have n2_ := Aside0.mk (below_step (by repeat (first | (with_reducible first | exact HB.out | apply below_alloc | apply pw_below_drewN | apply below_drew1 | refine below_set ?_ GE163.out | refine below_set ?_ GE171.out) | exact HB.out)) hb); have n3_ := Aside0.mk (hbox); have n4_ := Aside0.mk ((by rw [hg]; exact (below_size (by repeat (first | (with_reducible first | exact HB.out | apply below_alloc | apply pw_below_drewN | apply below_drew1 | refine below_set ?_ GE163.out | refine below_set ?_ GE171.out) | exact HB.out))) : w.heap.size ≤ gb174)); have n5_ := Aside0.mk ((by rw [hg]; exact (below_size (by repeat (first | (with_reducible first | exact HB.out | apply below_alloc | apply pw_below_drewN | apply below_drew1 | refine below_set ?_ GE163.out | refine below_set ?_ GE171.out) | exact HB.out))) : w.heap.size ≤ gb174)); have n6_ := Aside0.mk ((by rw [hg]; exact Nat.ne_of_lt (blk_lt (kv_ BK163.out)) : gb163 ≠ gb174)); have n7_ := Aside0.mk ((by rw [hg]; exact Nat.ne_of_gt (blk_lt (kv_ BK163.out)) : gb174 ≠ gb163)); have n8_ := Aside0.mk ((by rw [hg]; exact Nat.ne_of_lt (blk_lt (kv_ BK171.out)) : gb171 ≠ gb174)); have n9_ := Aside0.mk ((by rw [hg]; exact Nat.ne_of_gt (blk_lt (kv_ BK171.out)) : gb174 ≠ gb171)); clear BK163; clear BK171; clear HB; have BK163 := n0_; have BK171 := n1_; have HB := n2_; have BK174 := n3_; have GW174 := n4_; have GE174 := n5_; have NB163_174 := n6_; have NB174_163 := n7_; have NB171_174 := n8_; have NB174_171 := n9_; clear n0_ n1_ n2_ n3_ n4_ n5_ n6_ n7_ n8_ n9_; clear hb hbox hg; have hnb35 := NB174_163.out; have hnc35 := NB163_174.out; have hnb36 := NB174_171.out; have hnc36 := NB171_174.out; obtain ⟨⟨hcz37_0, hfz37_0⟩, ⟨hcz37_1, hfz37_1⟩, ⟨hcz37_2, hfz37_2⟩, hcz37_3, hfz37_3⟩ := cs4_ BK174.out; have hnb38 := NB171_163.out; have hnc38 := NB163_171.out; have hcz39_0 : w34.cell? ⟨gb171, 0, none⟩ = some (.int .i64 t164) := (blk_cell BK171.out 0).trans rfl; have hcz39_1 : w34.cell? ⟨gb171, 1, none⟩ = some (.int .i64 t165) := (blk_cell BK171.out 1).trans rfl; have hcz39_2 : w34.cell? ⟨gb171, 2, none⟩ = some (.int .i64 t166) := (blk_cell BK171.out 2).trans rfl; have hcz39_3 : w34.cell? ⟨gb171, 3, none⟩ = some (.int .i64 t167) := (blk_cell BK171.out 3).trans rfl; have hcz39_4 : w34.cell? ⟨gb171, 4, none⟩ = some (.int .i64 t168) := (blk_cell BK171.out 4).trans rfl; have hcz39_5 : w34.cell? ⟨gb171, 5, none⟩ = some (.int .i64 t169) := (blk_cell BK171.out 5).trans rfl; have hfz39_0 := blk_frozen BK171.out 0; have hfz39_1 := blk_frozen BK171.out 1; have hfz39_2 := blk_frozen BK171.out 2; have hfz39_3 := blk_frozen BK171.out 3; have hfz39_4 := blk_frozen BK171.out 4; have hfz39_5 := blk_frozen BK171.out 5))
      refine wp_loop_rounds 5 ?_
      rw [rounds_succ]
      go_upto_block 2 with (fail)
      obtain ⟨w35, hw35⟩ : ∃ w35, w35 = (((((w34.setCell ⟨gb174, 0, none⟩ (Value.int IntKind.i64 0)).setCell ⟨gb174, 1, none⟩ (Value.int IntKind.i64 0)).setCell ⟨gb174, 2, none⟩ (Value.int IntKind.i64 t172)).setCell ⟨gb174, 3, none⟩ (Value.int IntKind.i64 0)).setCell ⟨gb174, 3, none⟩ (Value.int IntKind.i64 10000)) := ⟨_, rfl⟩
      rw [← hw35]
      have n1 := Aside0.mk (show w35.heap[gb174]? = some (.cells #[.int .i64 0, .int .i64 0, .int .i64 t172, .int .i64 10000] 56 (0, 0)) by rw [hw35]; exact blk_put (cs := #[.int .i64 0, .int .i64 0, .int .i64 t172, .int .i64 0]) (blk_put (cs := #[.int .i64 0, .int .i64 0, .int .i64 t172, .int .i64 0]) (blk_put (cs := #[.int .i64 0, .int .i64 0, .int .i64 0, .int .i64 0]) (blk_put (cs := #[.int .i64 0, .int .i64 0, .int .i64 0, .int .i64 0]) (blk_put (cs := #[.int .i64 0, .int .i64 0, .int .i64 0, .int .i64 0]) (BK174.out) 0 _ rfl) 1 _ rfl) 2 _ rfl) 3 _ rfl) 3 _ rfl)
      have n2 := Aside0.mk (show w35.heap[gb163]? = some (.cells #[.int .i64 0, .int .i64 0, .int .i64 0, .int .i64 0] 56 (0, 0)) by rw [hw35]; exact blk_far (blk_far (blk_far (blk_far (blk_far (BK163.out) (p := ⟨gb174, 0, none⟩) NB163_174.out _) (p := ⟨gb174, 1, none⟩) NB163_174.out _) (p := ⟨gb174, 2, none⟩) NB163_174.out _) (p := ⟨gb174, 3, none⟩) NB163_174.out _) (p := ⟨gb174, 3, none⟩) NB163_174.out _)
      have n3 := Aside0.mk (show w35.heap[gb171]? = some (.cells #[.int .i64 t164, .int .i64 t165, .int .i64 t166, .int .i64 t167, .int .i64 t168, .int .i64 t169] 87 (0, 0)) by rw [hw35]; exact blk_far (blk_far (blk_far (blk_far (blk_far (BK171.out) (p := ⟨gb174, 0, none⟩) NB171_174.out _) (p := ⟨gb174, 1, none⟩) NB171_174.out _) (p := ⟨gb174, 2, none⟩) NB171_174.out _) (p := ⟨gb174, 3, none⟩) NB171_174.out _) (p := ⟨gb174, 3, none⟩) NB171_174.out _)
      have n4 := Aside0.mk (show Below w.heap.size w w35 by rw [hw35]; exact Below.setCell (Below.setCell (Below.setCell (Below.setCell (Below.setCell (HB.out) GE174.out _) GE174.out _) GE174.out _) GE174.out _) GE174.out _)
      clear hw35 BK174 BK163 BK171 HB
      have BK174 := n1
      have BK163 := n2
      have BK171 := n3
      have HB := n4
      clear n1 n2 n3 n4
      try clear hcz37_0 hfz37_0
      try clear hcz37_1 hfz37_1
      try clear hcz37_2 hfz37_2
      try clear hcz37_3 hfz37_3
      try clear hcz37_4 hfz37_4
      try clear hcz37_5 hfz37_5
      try clear hcz39_0 hfz39_0
      try clear hcz39_1 hfz39_1
      try clear hcz39_2 hfz39_2
      try clear hcz39_3 hfz39_3
      try clear hcz39_4 hfz39_4
      try clear hcz39_5 hfz39_5
      (try simp only [Act.put, List.setIfInBounds_toArray, List.set_cons_zero, List.set_cons_succ])
      go_cut [] (fun wc => ∃ (kq : Nat) (x175000_32 : Int) (x175001_32 : Int) (x175003_32 : Int), Aside0 (glue_Set.j1 kq t164 t165 t166 t167 t168 t169 x175000_32 x175001_32 t172 x175003_32 = some (r1, r2, r3, r4, r5)) ∧ Aside0 (kq ≤ kj4) ∧ Aside0 (wc.heap[gb163]? = some (.cells #[.int .i64 0, .int .i64 0, .int .i64 0, .int .i64 0] 56 (0, 0))) ∧ Aside0 (wc.heap[gb171]? = some (.cells #[.int .i64 t164, .int .i64 t165, .int .i64 t166, .int .i64 t167, .int .i64 t168, .int .i64 t169] 87 (0, 0))) ∧ Aside0 (wc.heap[gb174]? = some (.cells #[.int .i64 x175000_32, .int .i64 x175001_32, .int .i64 t172, .int .i64 x175003_32] 56 (0, 0))) ∧ Aside0 (Below w.heap.size w wc))
      case first =>
       have H := HC33.out
       clear HC33
       by_cases c40 : t166 = 0
       ·rw [if_pos c40] at H
        have c40b0 : (t166 == 0) = true := beq_iff_eq.mpr c40
        have c40b1 : (t166 != 0) = false := bne_eq_false_iff_eq.mpr c40
        clear c40
        (first | rw [c40b0] | (simp only [i64_w, i32_w]; rw [c40b0]) | skip)
        have H' := Aside0.mk H
        clear H
        have hnb41 := NB171_163.out
        have hnc41 := NB163_171.out
        have hnb42 := NB171_174.out
        have hnc42 := NB174_171.out
        obtain ⟨⟨hcz43_0, hfz43_0⟩, ⟨hcz43_1, hfz43_1⟩, ⟨hcz43_2, hfz43_2⟩, ⟨hcz43_3, hfz43_3⟩, ⟨hcz43_4, hfz43_4⟩, hcz43_5, hfz43_5⟩ := cs6_ BK171.out
        go_wp2
        go_meet
        case rel => exact ⟨_, (0), (0), (10000), H', ⟨by have := HJ4.out; first | omega | exact Nat.le_refl _⟩, ⟨by (with_reducible repeat (first | refine blk_drewN ?_ _ | refine blk_drew ?_ | refine blk_alloc ?_ _)); (with_reducible repeat (first | refine blk_drewN ?_ _ | refine blk_drew ?_)); exact BK163.out⟩, ⟨by (with_reducible repeat (first | refine blk_drewN ?_ _ | refine blk_drew ?_ | refine blk_alloc ?_ _)); (with_reducible repeat (first | refine blk_drewN ?_ _ | refine blk_drew ?_)); exact BK171.out⟩, ⟨by (with_reducible repeat (first | refine blk_drewN ?_ _ | refine blk_drew ?_ | refine blk_alloc ?_ _)); (with_reducible repeat (first | refine blk_drewN ?_ _ | refine blk_drew ?_)); exact BK174.out⟩, ⟨by repeat (first | (with_reducible first | exact HB.out | apply below_alloc | apply pw_below_drewN | apply below_drew1 | refine below_set ?_ GE163.out | refine below_set ?_ GE171.out | refine below_set ?_ GE174.out) | exact HB.out)⟩⟩
       ·rw [if_neg c40] at H
        have c40b0 : (t166 == 0) = false := beq_eq_false_iff_ne.mpr c40
        have c40b1 : (t166 != 0) = true := bne_iff_ne.mpr c40
        (first | rw [c40b0] | (simp only [i64_w, i32_w]; rw [c40b0]) | skip)
        replace H := Option.bind_eq_some_iff.mp H
        obtain ⟨t176, A440, H⟩ := H
        replace H : (glue_Set.j1 kj4 t164 t165 t166 t167 t168 t169 1 0 t172 t176) = some (r1, r2, r3, r4, r5) := H
        have A44 := Aside0.mk A440
        clear A440
        have H' := Aside0.mk H
        clear H
        have hnb45 := NB171_163.out
        have hnc45 := NB163_171.out
        have hnb46 := NB171_174.out
        have hnc46 := NB174_171.out
        obtain ⟨⟨hcz47_0, hfz47_0⟩, ⟨hcz47_1, hfz47_1⟩, ⟨hcz47_2, hfz47_2⟩, ⟨hcz47_3, hfz47_3⟩, ⟨hcz47_4, hfz47_4⟩, hcz47_5, hfz47_5⟩ := cs6_ BK171.out
        have hnb48 := NB174_163.out
        have hnc48 := NB163_174.out
        obtain ⟨⟨hcz49_0, hfz49_0⟩, ⟨hcz49_1, hfz49_1⟩, ⟨hcz49_2, hfz49_2⟩, hcz49_3, hfz49_3⟩ := cs4_ BK174.out
        go_wp2_with (first | ((with_reducible refine gate_callee (f := 55) rfl ?_); refine goesL_ (some 70) rfl rfl Try.func55 (by kernel_rfl) rfl #[.int .i64 t172, .int .i64 t166] rfl (by (try simp only [List.map_toArray, List.map_cons, List.map_nil]); first | done | rfl | (simp only [List.length_drop, List.length_take]; rfl) | (simp only [*]; first | done | rfl)) ?_; (with_reducible refine (glue_Badness.calls kj4 t172 t166 t176 _ A44.out).mono ?_); rintro e w' ⟨rfl, ⟨nd, rfl⟩⟩; refine ⟨_, rfl, ?_⟩))
        go_meet
        case rel => exact ⟨_, (1), (0), (t176), H', ⟨by have := HJ4.out; first | omega | exact Nat.le_refl _⟩, ⟨by (with_reducible repeat (first | refine blk_drewN ?_ _ | refine blk_drew ?_ | refine blk_alloc ?_ _)); refine blk_far ?_ NB163_174.out _; (with_reducible repeat (first | refine blk_drewN ?_ _ | refine blk_drew ?_ | refine blk_alloc ?_ _)); refine blk_far ?_ NB163_174.out _; (with_reducible repeat (first | refine blk_drewN ?_ _ | refine blk_drew ?_ | refine blk_alloc ?_ _)); refine blk_far ?_ NB163_174.out _; (with_reducible repeat (first | refine blk_drewN ?_ _ | refine blk_drew ?_ | refine blk_alloc ?_ _)); refine blk_far ?_ NB163_174.out _; (with_reducible repeat (first | refine blk_drewN ?_ _ | refine blk_drew ?_ | refine blk_alloc ?_ _)); (with_reducible repeat (first | refine blk_drewN ?_ _ | refine blk_drew ?_)); exact BK163.out⟩, ⟨by (with_reducible repeat (first | refine blk_drewN ?_ _ | refine blk_drew ?_ | refine blk_alloc ?_ _)); refine blk_far ?_ NB171_174.out _; (with_reducible repeat (first | refine blk_drewN ?_ _ | refine blk_drew ?_ | refine blk_alloc ?_ _)); refine blk_far ?_ NB171_174.out _; (with_reducible repeat (first | refine blk_drewN ?_ _ | refine blk_drew ?_ | refine blk_alloc ?_ _)); refine blk_far ?_ NB171_174.out _; (with_reducible repeat (first | refine blk_drewN ?_ _ | refine blk_drew ?_ | refine blk_alloc ?_ _)); refine blk_far ?_ NB171_174.out _; (with_reducible repeat (first | refine blk_drewN ?_ _ | refine blk_drew ?_ | refine blk_alloc ?_ _)); (with_reducible repeat (first | refine blk_drewN ?_ _ | refine blk_drew ?_)); exact BK171.out⟩, ⟨by (with_reducible repeat (first | refine blk_drewN ?_ _ | refine blk_drew ?_ | refine blk_alloc ?_ _)); refine blk_put (cs := #[.int .i64 1, .int .i64 0, .int .i64 t172, .int .i64 0]) ?_ 3 _ rfl; (with_reducible repeat (first | refine blk_drewN ?_ _ | refine blk_drew ?_ | refine blk_alloc ?_ _)); refine blk_put (cs := #[.int .i64 1, .int .i64 0, .int .i64 t172, .int .i64 10000]) ?_ 3 _ rfl; (with_reducible repeat (first | refine blk_drewN ?_ _ | refine blk_drew ?_ | refine blk_alloc ?_ _)); refine blk_put (cs := #[.int .i64 1, .int .i64 0, .int .i64 t172, .int .i64 10000]) ?_ 1 _ rfl; (with_reducible repeat (first | refine blk_drewN ?_ _ | refine blk_drew ?_ | refine blk_alloc ?_ _)); refine blk_put (cs := #[.int .i64 0, .int .i64 0, .int .i64 t172, .int .i64 10000]) ?_ 0 _ rfl; (with_reducible repeat (first | refine blk_drewN ?_ _ | refine blk_drew ?_ | refine blk_alloc ?_ _)); (with_reducible repeat (first | refine blk_drewN ?_ _ | refine blk_drew ?_)); exact BK174.out⟩, ⟨by repeat (first | (with_reducible first | exact HB.out | apply below_alloc | apply pw_below_drewN | apply below_drew1 | refine below_set ?_ GE163.out | refine below_set ?_ GE171.out | refine below_set ?_ GE174.out) | exact HB.out)⟩⟩
      case rest =>
       clear HC33
       try clear c1
       try clear c2
       try clear p2
       try clear c3
       try clear c4
       try clear c5
       try clear p6
       try clear c9
       try clear c11
       try clear c12
       try clear c13
       try clear c15
       try clear c15b0
       try clear c17
       try clear c17b0
       try clear c19
       try clear c20
       try clear c22
       try clear c26
       try clear c27
       try clear c29
       try clear c32
       try clear c32b0
       try clear c35
       try clear c36
       try clear c38
       try clear c40
       try clear c40b0
       try clear c40b1
       try clear c41
       try clear c42
       try clear c44
       try clear c45
       try clear c46
       try clear c48
       try clear hcz10_0
       try clear hcz10_1
       try clear hcz10_2
       try clear hcz10_3
       try clear hcz10_4
       try clear hcz10_5
       try clear hcz14_0
       try clear hcz14_1
       try clear hcz14_2
       try clear hcz14_3
       try clear hcz21_0
       try clear hcz21_1
       try clear hcz21_2
       try clear hcz21_3
       try clear hcz23_0
       try clear hcz23_1
       try clear hcz23_2
       try clear hcz23_3
       try clear hcz23_4
       try clear hcz23_5
       try clear hcz24_0
       try clear hcz24_1
       try clear hcz24_2
       try clear hcz24_3
       try clear hcz28_0
       try clear hcz28_1
       try clear hcz28_2
       try clear hcz28_3
       try clear hcz30_0
       try clear hcz30_1
       try clear hcz30_2
       try clear hcz30_3
       try clear hcz30_4
       try clear hcz30_5
       try clear hcz31_0
       try clear hcz31_1
       try clear hcz31_2
       try clear hcz31_3
       try clear hcz37_0
       try clear hcz37_1
       try clear hcz37_2
       try clear hcz37_3
       try clear hcz39_0
       try clear hcz39_1
       try clear hcz39_2
       try clear hcz39_3
       try clear hcz39_4
       try clear hcz39_5
       try clear hcz43_0
       try clear hcz43_1
       try clear hcz43_2
       try clear hcz43_3
       try clear hcz43_4
       try clear hcz43_5
       try clear hcz47_0
       try clear hcz47_1
       try clear hcz47_2
       try clear hcz47_3
       try clear hcz47_4
       try clear hcz47_5
       try clear hcz49_0
       try clear hcz49_1
       try clear hcz49_2
       try clear hcz49_3
       try clear hfz10_0
       try clear hfz10_1
       try clear hfz10_2
       try clear hfz10_3
       try clear hfz10_4
       try clear hfz10_5
       try clear hfz14_0
       try clear hfz14_1
       try clear hfz14_2
       try clear hfz14_3
       try clear hfz21_0
       try clear hfz21_1
       try clear hfz21_2
       try clear hfz21_3
       try clear hfz23_0
       try clear hfz23_1
       try clear hfz23_2
       try clear hfz23_3
       try clear hfz23_4
       try clear hfz23_5
       try clear hfz24_0
       try clear hfz24_1
       try clear hfz24_2
       try clear hfz24_3
       try clear hfz28_0
       try clear hfz28_1
       try clear hfz28_2
       try clear hfz28_3
       try clear hfz30_0
       try clear hfz30_1
       try clear hfz30_2
       try clear hfz30_3
       try clear hfz30_4
       try clear hfz30_5
       try clear hfz31_0
       try clear hfz31_1
       try clear hfz31_2
       try clear hfz31_3
       try clear hfz37_0
       try clear hfz37_1
       try clear hfz37_2
       try clear hfz37_3
       try clear hfz39_0
       try clear hfz39_1
       try clear hfz39_2
       try clear hfz39_3
       try clear hfz39_4
       try clear hfz39_5
       try clear hfz43_0
       try clear hfz43_1
       try clear hfz43_2
       try clear hfz43_3
       try clear hfz43_4
       try clear hfz43_5
       try clear hfz47_0
       try clear hfz47_1
       try clear hfz47_2
       try clear hfz47_3
       try clear hfz47_4
       try clear hfz47_5
       try clear hfz49_0
       try clear hfz49_1
       try clear hfz49_2
       try clear hfz49_3
       try clear p2
       obtain ⟨kq, x175000_32, x175001_32, x175003_32, HA, HJ32, BK163, BK171, BK174, HB⟩ := hcut
       cases kq with
       | zero => exact absurd HA.out (by simp [glue_Set.j1])
       | succ kj32 =>
        have H := HA.out
        clear HA
        simp only [glue_Set.j1] at H
        have HC50 := Aside0.mk H
        clear H
        go_wp2
        rw [rounds_succ]
        go_upto_block 2 with (fail)
        go_cut [] (fun wc => ∃ (kq : Nat) (x175000_49 : Int) (x175001_49 : Int) (x175003_49 : Int), Aside0 (glue_Set.j2 kq t164 t165 t166 t167 t168 t169 x175000_49 x175001_49 t172 x175003_49 = some (r1, r2, r3, r4, r5)) ∧ Aside0 (kq ≤ kj32) ∧ Aside0 (wc.heap[gb163]? = some (.cells #[.int .i64 0, .int .i64 0, .int .i64 0, .int .i64 0] 56 (0, 0))) ∧ Aside0 (wc.heap[gb171]? = some (.cells #[.int .i64 t164, .int .i64 t165, .int .i64 t166, .int .i64 t167, .int .i64 t168, .int .i64 t169] 87 (0, 0))) ∧ Aside0 (wc.heap[gb174]? = some (.cells #[.int .i64 x175000_49, .int .i64 x175001_49, .int .i64 t172, .int .i64 x175003_49] 56 (0, 0))) ∧ Aside0 (Below w.heap.size w wc))
        case first =>
         have H := HC50.out
         clear HC50
         by_cases c51 : t167 = 0
         ·rw [if_pos c51] at H
          have c51b0 : (t167 == 0) = true := beq_iff_eq.mpr c51
          have c51b1 : (t167 != 0) = false := bne_eq_false_iff_eq.mpr c51
          clear c51
          (first | rw [c51b0] | (simp only [i64_w, i32_w]; rw [c51b0]) | skip)
          have H' := Aside0.mk H
          clear H
          have hnb52 := NB171_163.out
          have hnc52 := NB163_171.out
          have hnb53 := NB171_174.out
          have hnc53 := NB174_171.out
          obtain ⟨⟨hcz54_0, hfz54_0⟩, ⟨hcz54_1, hfz54_1⟩, ⟨hcz54_2, hfz54_2⟩, ⟨hcz54_3, hfz54_3⟩, ⟨hcz54_4, hfz54_4⟩, hcz54_5, hfz54_5⟩ := cs6_ BK171.out
          go_wp2
          go_meet
          case rel => exact ⟨_, (x175000_32), (x175001_32), (x175003_32), H', ⟨by have := HJ4.out; have := HJ32.out; first | omega | exact Nat.le_refl _⟩, ⟨kv_ BK163.out⟩, ⟨kv_ BK171.out⟩, ⟨kv_ BK174.out⟩, ⟨by repeat (first | (with_reducible first | exact HB.out | apply below_alloc | apply pw_below_drewN | apply below_drew1 | refine below_set ?_ GE163.out | refine below_set ?_ GE171.out | refine below_set ?_ GE174.out) | exact HB.out)⟩⟩
         ·rw [if_neg c51] at H
          have c51b0 : (t167 == 0) = false := beq_eq_false_iff_ne.mpr c51
          have c51b1 : (t167 != 0) = true := bne_iff_ne.mpr c51
          (first | rw [c51b0] | (simp only [i64_w, i32_w]; rw [c51b0]) | skip)
          have H' := Aside0.mk H
          clear H
          have hnb55 := NB171_163.out
          have hnc55 := NB163_171.out
          have hnb56 := NB171_174.out
          have hnc56 := NB174_171.out
          obtain ⟨⟨hcz57_0, hfz57_0⟩, ⟨hcz57_1, hfz57_1⟩, ⟨hcz57_2, hfz57_2⟩, ⟨hcz57_3, hfz57_3⟩, ⟨hcz57_4, hfz57_4⟩, hcz57_5, hfz57_5⟩ := cs6_ BK171.out
          have hnb58 := NB174_163.out
          have hnc58 := NB163_174.out
          obtain ⟨⟨hcz59_0, hfz59_0⟩, ⟨hcz59_1, hfz59_1⟩, ⟨hcz59_2, hfz59_2⟩, hcz59_3, hfz59_3⟩ := cs4_ BK174.out
          go_wp2
          go_meet
          case rel => exact ⟨_, (1), (1), (0), H', ⟨by have := HJ4.out; have := HJ32.out; first | omega | exact Nat.le_refl _⟩, ⟨by (with_reducible repeat (first | refine blk_drewN ?_ _ | refine blk_drew ?_ | refine blk_alloc ?_ _)); refine blk_far ?_ NB163_174.out _; (with_reducible repeat (first | refine blk_drewN ?_ _ | refine blk_drew ?_ | refine blk_alloc ?_ _)); refine blk_far ?_ NB163_174.out _; (with_reducible repeat (first | refine blk_drewN ?_ _ | refine blk_drew ?_ | refine blk_alloc ?_ _)); refine blk_far ?_ NB163_174.out _; (with_reducible repeat (first | refine blk_drewN ?_ _ | refine blk_drew ?_ | refine blk_alloc ?_ _)); exact BK163.out⟩, ⟨by (with_reducible repeat (first | refine blk_drewN ?_ _ | refine blk_drew ?_ | refine blk_alloc ?_ _)); refine blk_far ?_ NB171_174.out _; (with_reducible repeat (first | refine blk_drewN ?_ _ | refine blk_drew ?_ | refine blk_alloc ?_ _)); refine blk_far ?_ NB171_174.out _; (with_reducible repeat (first | refine blk_drewN ?_ _ | refine blk_drew ?_ | refine blk_alloc ?_ _)); refine blk_far ?_ NB171_174.out _; (with_reducible repeat (first | refine blk_drewN ?_ _ | refine blk_drew ?_ | refine blk_alloc ?_ _)); exact BK171.out⟩, ⟨by (with_reducible repeat (first | refine blk_drewN ?_ _ | refine blk_drew ?_ | refine blk_alloc ?_ _)); refine blk_put (cs := #[.int .i64 1, .int .i64 1, .int .i64 t172, .int .i64 x175003_32]) ?_ 3 _ rfl; (with_reducible repeat (first | refine blk_drewN ?_ _ | refine blk_drew ?_ | refine blk_alloc ?_ _)); refine blk_put (cs := #[.int .i64 1, .int .i64 x175001_32, .int .i64 t172, .int .i64 x175003_32]) ?_ 1 _ rfl; (with_reducible repeat (first | refine blk_drewN ?_ _ | refine blk_drew ?_ | refine blk_alloc ?_ _)); refine blk_put (cs := #[.int .i64 x175000_32, .int .i64 x175001_32, .int .i64 t172, .int .i64 x175003_32]) ?_ 0 _ rfl; (with_reducible repeat (first | refine blk_drewN ?_ _ | refine blk_drew ?_ | refine blk_alloc ?_ _)); exact BK174.out⟩, ⟨by repeat (first | (with_reducible first | exact HB.out | apply below_alloc | apply pw_below_drewN | apply below_drew1 | refine below_set ?_ GE163.out | refine below_set ?_ GE171.out | refine below_set ?_ GE174.out) | exact HB.out)⟩⟩
        case rest =>
         clear HC50
         try clear c1
         try clear c2
         try clear p2
         try clear c3
         try clear c4
         try clear c5
         try clear p6
         try clear c9
         try clear c11
         try clear c12
         try clear c13
         try clear c15
         try clear c15b0
         try clear c17
         try clear c17b0
         try clear c19
         try clear c20
         try clear c22
         try clear c26
         try clear c27
         try clear c29
         try clear c32
         try clear c32b0
         try clear c35
         try clear c36
         try clear c38
         try clear c40
         try clear c40b0
         try clear c40b1
         try clear c41
         try clear c42
         try clear c44
         try clear c45
         try clear c46
         try clear c48
         try clear c51
         try clear c51b0
         try clear c51b1
         try clear c52
         try clear c53
         try clear c54
         try clear c55
         try clear c56
         try clear c58
         try clear hcz10_0
         try clear hcz10_1
         try clear hcz10_2
         try clear hcz10_3
         try clear hcz10_4
         try clear hcz10_5
         try clear hcz14_0
         try clear hcz14_1
         try clear hcz14_2
         try clear hcz14_3
         try clear hcz21_0
         try clear hcz21_1
         try clear hcz21_2
         try clear hcz21_3
         try clear hcz23_0
         try clear hcz23_1
         try clear hcz23_2
         try clear hcz23_3
         try clear hcz23_4
         try clear hcz23_5
         try clear hcz24_0
         try clear hcz24_1
         try clear hcz24_2
         try clear hcz24_3
         try clear hcz28_0
         try clear hcz28_1
         try clear hcz28_2
         try clear hcz28_3
         try clear hcz30_0
         try clear hcz30_1
         try clear hcz30_2
         try clear hcz30_3
         try clear hcz30_4
         try clear hcz30_5
         try clear hcz31_0
         try clear hcz31_1
         try clear hcz31_2
         try clear hcz31_3
         try clear hcz37_0
         try clear hcz37_1
         try clear hcz37_2
         try clear hcz37_3
         try clear hcz39_0
         try clear hcz39_1
         try clear hcz39_2
         try clear hcz39_3
         try clear hcz39_4
         try clear hcz39_5
         try clear hcz43_0
         try clear hcz43_1
         try clear hcz43_2
         try clear hcz43_3
         try clear hcz43_4
         try clear hcz43_5
         try clear hcz47_0
         try clear hcz47_1
         try clear hcz47_2
         try clear hcz47_3
         try clear hcz47_4
         try clear hcz47_5
         try clear hcz49_0
         try clear hcz49_1
         try clear hcz49_2
         try clear hcz49_3
         try clear hcz54_0
         try clear hcz54_1
         try clear hcz54_2
         try clear hcz54_3
         try clear hcz54_4
         try clear hcz54_5
         try clear hcz57_0
         try clear hcz57_1
         try clear hcz57_2
         try clear hcz57_3
         try clear hcz57_4
         try clear hcz57_5
         try clear hcz59_0
         try clear hcz59_1
         try clear hcz59_2
         try clear hcz59_3
         try clear hfz10_0
         try clear hfz10_1
         try clear hfz10_2
         try clear hfz10_3
         try clear hfz10_4
         try clear hfz10_5
         try clear hfz14_0
         try clear hfz14_1
         try clear hfz14_2
         try clear hfz14_3
         try clear hfz21_0
         try clear hfz21_1
         try clear hfz21_2
         try clear hfz21_3
         try clear hfz23_0
         try clear hfz23_1
         try clear hfz23_2
         try clear hfz23_3
         try clear hfz23_4
         try clear hfz23_5
         try clear hfz24_0
         try clear hfz24_1
         try clear hfz24_2
         try clear hfz24_3
         try clear hfz28_0
         try clear hfz28_1
         try clear hfz28_2
         try clear hfz28_3
         try clear hfz30_0
         try clear hfz30_1
         try clear hfz30_2
         try clear hfz30_3
         try clear hfz30_4
         try clear hfz30_5
         try clear hfz31_0
         try clear hfz31_1
         try clear hfz31_2
         try clear hfz31_3
         try clear hfz37_0
         try clear hfz37_1
         try clear hfz37_2
         try clear hfz37_3
         try clear hfz39_0
         try clear hfz39_1
         try clear hfz39_2
         try clear hfz39_3
         try clear hfz39_4
         try clear hfz39_5
         try clear hfz43_0
         try clear hfz43_1
         try clear hfz43_2
         try clear hfz43_3
         try clear hfz43_4
         try clear hfz43_5
         try clear hfz47_0
         try clear hfz47_1
         try clear hfz47_2
         try clear hfz47_3
         try clear hfz47_4
         try clear hfz47_5
         try clear hfz49_0
         try clear hfz49_1
         try clear hfz49_2
         try clear hfz49_3
         try clear hfz54_0
         try clear hfz54_1
         try clear hfz54_2
         try clear hfz54_3
         try clear hfz54_4
         try clear hfz54_5
         try clear hfz57_0
         try clear hfz57_1
         try clear hfz57_2
         try clear hfz57_3
         try clear hfz57_4
         try clear hfz57_5
         try clear hfz59_0
         try clear hfz59_1
         try clear hfz59_2
         try clear hfz59_3
         try clear p2
         try clear p6
         obtain ⟨kq, x175000_49, x175001_49, x175003_49, HA, HJ49, BK163, BK171, BK174, HB⟩ := hcut
         cases kq with
         | zero => exact absurd HA.out (by simp [glue_Set.j2])
         | succ kj49 =>
          have H := HA.out
          clear HA
          simp only [glue_Set.j2] at H
          by_cases c60 : t168 = 0
          ·rw [if_pos c60] at H
           have c60b0 : (t168 == 0) = true := beq_iff_eq.mpr c60
           have c60b1 : (t168 != 0) = false := bne_eq_false_iff_eq.mpr c60
           clear c60
           by_cases c61 : t169 = 0
           ·rw [if_pos c61] at H
            have c61b0 : (t169 == 0) = true := beq_iff_eq.mpr c61
            have c61b1 : (t169 != 0) = false := bne_eq_false_iff_eq.mpr c61
            clear c61
            simp only [Option.some.injEq, Prod.mk.injEq] at H
            obtain ⟨rfl, rfl, rfl, rfl, rfl⟩ := H
            have hnb62 := NB171_163.out
            have hnc62 := NB163_171.out
            have hnb63 := NB171_174.out
            have hnc63 := NB174_171.out
            obtain ⟨⟨hcz64_0, hfz64_0⟩, ⟨hcz64_1, hfz64_1⟩, ⟨hcz64_2, hfz64_2⟩, ⟨hcz64_3, hfz64_3⟩, ⟨hcz64_4, hfz64_4⟩, hcz64_5, hfz64_5⟩ := cs6_ BK171.out
            have hnb65 := NB174_163.out
            have hnc65 := NB163_174.out
            obtain ⟨⟨hcz66_0, hfz66_0⟩, ⟨hcz66_1, hfz66_1⟩, ⟨hcz66_2, hfz66_2⟩, hcz66_3, hfz66_3⟩ := cs4_ BK174.out
            obtain ⟨⟨hcz67_0, hfz67_0⟩, ⟨hcz67_1, hfz67_1⟩, ⟨hcz67_2, hfz67_2⟩, hcz67_3, hfz67_3⟩ := cs4_ BK163.out
            go_wp2
            repeat (rw [rounds_succ]; go_wp2)
            refine bodyPost_ret (results_ct rfl _ _ gb163 56 #[.int .i64 x175000_49, .int .i64 x175001_49, .int .i64 t172, .int .i64 x175003_49] (0, 0) _ rfl (by (with_reducible repeat (first | refine blk_drewN ?_ _ | refine blk_drew ?_ | refine blk_alloc ?_ _)); refine blk_put (cs := #[.int .i64 x175000_49, .int .i64 x175001_49, .int .i64 t172, .int .i64 0]) ?_ 3 _ rfl; (with_reducible repeat (first | refine blk_drewN ?_ _ | refine blk_drew ?_ | refine blk_alloc ?_ _)); refine blk_put (cs := #[.int .i64 x175000_49, .int .i64 x175001_49, .int .i64 0, .int .i64 0]) ?_ 2 _ rfl; (with_reducible repeat (first | refine blk_drewN ?_ _ | refine blk_drew ?_ | refine blk_alloc ?_ _)); refine blk_put (cs := #[.int .i64 x175000_49, .int .i64 0, .int .i64 0, .int .i64 0]) ?_ 1 _ rfl; (with_reducible repeat (first | refine blk_drewN ?_ _ | refine blk_drew ?_ | refine blk_alloc ?_ _)); refine blk_put (cs := #[.int .i64 0, .int .i64 0, .int .i64 0, .int .i64 0]) ?_ 0 _ rfl; (with_reducible repeat (first | refine blk_drewN ?_ _ | refine blk_drew ?_ | refine blk_alloc ?_ _)); exact BK163.out) Try.underlying56 rfl (by kernel_rfl)) rfl ?_
            exact ⟨by first | rfl | (simp [errW_none, errW_some] <;> rfl) | (simp [*, errW_none, errW_some] <;> rfl), by repeat (first | (with_reducible first | exact HB.out | apply below_alloc | apply pw_below_drewN | apply below_drew1 | refine below_set ?_ GE163.out | refine below_set ?_ GE171.out | refine below_set ?_ GE174.out) | exact HB.out)⟩
           ·rw [if_neg c61] at H
            have c61b0 : (t169 == 0) = false := beq_eq_false_iff_ne.mpr c61
            have c61b1 : (t169 != 0) = true := bne_iff_ne.mpr c61
            simp only [Option.some.injEq, Prod.mk.injEq] at H
            obtain ⟨rfl, rfl, rfl, rfl, rfl⟩ := H
            have hnb68 := NB171_163.out
            have hnc68 := NB163_171.out
            have hnb69 := NB171_174.out
            have hnc69 := NB174_171.out
            obtain ⟨⟨hcz70_0, hfz70_0⟩, ⟨hcz70_1, hfz70_1⟩, ⟨hcz70_2, hfz70_2⟩, ⟨hcz70_3, hfz70_3⟩, ⟨hcz70_4, hfz70_4⟩, hcz70_5, hfz70_5⟩ := cs6_ BK171.out
            have hnb71 := NB174_163.out
            have hnc71 := NB163_174.out
            obtain ⟨⟨hcz72_0, hfz72_0⟩, ⟨hcz72_1, hfz72_1⟩, ⟨hcz72_2, hfz72_2⟩, hcz72_3, hfz72_3⟩ := cs4_ BK174.out
            obtain ⟨⟨hcz73_0, hfz73_0⟩, ⟨hcz73_1, hfz73_1⟩, ⟨hcz73_2, hfz73_2⟩, hcz73_3, hfz73_3⟩ := cs4_ BK163.out
            go_wp2
            repeat (rw [rounds_succ]; go_wp2)
            refine bodyPost_ret (results_ct rfl _ _ gb163 56 #[.int .i64 1, .int .i64 3, .int .i64 t172, .int .i64 0] (0, 0) _ rfl (by (with_reducible repeat (first | refine blk_drewN ?_ _ | refine blk_drew ?_ | refine blk_alloc ?_ _)); refine blk_put (cs := #[.int .i64 1, .int .i64 3, .int .i64 t172, .int .i64 0]) ?_ 3 _ rfl; (with_reducible repeat (first | refine blk_drewN ?_ _ | refine blk_drew ?_ | refine blk_alloc ?_ _)); refine blk_put (cs := #[.int .i64 1, .int .i64 3, .int .i64 0, .int .i64 0]) ?_ 2 _ rfl; (with_reducible repeat (first | refine blk_drewN ?_ _ | refine blk_drew ?_ | refine blk_alloc ?_ _)); refine blk_put (cs := #[.int .i64 1, .int .i64 0, .int .i64 0, .int .i64 0]) ?_ 1 _ rfl; (with_reducible repeat (first | refine blk_drewN ?_ _ | refine blk_drew ?_ | refine blk_alloc ?_ _)); refine blk_put (cs := #[.int .i64 0, .int .i64 0, .int .i64 0, .int .i64 0]) ?_ 0 _ rfl; (with_reducible repeat (first | refine blk_drewN ?_ _ | refine blk_drew ?_ | refine blk_alloc ?_ _)); refine blk_far ?_ NB163_174.out _; (with_reducible repeat (first | refine blk_drewN ?_ _ | refine blk_drew ?_ | refine blk_alloc ?_ _)); refine blk_far ?_ NB163_174.out _; (with_reducible repeat (first | refine blk_drewN ?_ _ | refine blk_drew ?_ | refine blk_alloc ?_ _)); refine blk_far ?_ NB163_174.out _; (with_reducible repeat (first | refine blk_drewN ?_ _ | refine blk_drew ?_ | refine blk_alloc ?_ _)); exact BK163.out) Try.underlying56 rfl (by kernel_rfl)) rfl ?_
            exact ⟨by first | rfl | (simp [errW_none, errW_some] <;> rfl) | (simp [*, errW_none, errW_some] <;> rfl), by repeat (first | (with_reducible first | exact HB.out | apply below_alloc | apply pw_below_drewN | apply below_drew1 | refine below_set ?_ GE163.out | refine below_set ?_ GE171.out | refine below_set ?_ GE174.out) | exact HB.out)⟩
          ·rw [if_neg c60] at H
           have c60b0 : (t168 == 0) = false := beq_eq_false_iff_ne.mpr c60
           have c60b1 : (t168 != 0) = true := bne_iff_ne.mpr c60
           by_cases c74 : t169 = 0
           ·rw [if_pos c74] at H
            have c74b0 : (t169 == 0) = true := beq_iff_eq.mpr c74
            have c74b1 : (t169 != 0) = false := bne_eq_false_iff_eq.mpr c74
            clear c74
            simp only [Option.some.injEq, Prod.mk.injEq] at H
            obtain ⟨rfl, rfl, rfl, rfl, rfl⟩ := H
            have hnb75 := NB171_163.out
            have hnc75 := NB163_171.out
            have hnb76 := NB171_174.out
            have hnc76 := NB174_171.out
            obtain ⟨⟨hcz77_0, hfz77_0⟩, ⟨hcz77_1, hfz77_1⟩, ⟨hcz77_2, hfz77_2⟩, ⟨hcz77_3, hfz77_3⟩, ⟨hcz77_4, hfz77_4⟩, hcz77_5, hfz77_5⟩ := cs6_ BK171.out
            have hnb78 := NB174_163.out
            have hnc78 := NB163_174.out
            obtain ⟨⟨hcz79_0, hfz79_0⟩, ⟨hcz79_1, hfz79_1⟩, ⟨hcz79_2, hfz79_2⟩, hcz79_3, hfz79_3⟩ := cs4_ BK174.out
            obtain ⟨⟨hcz80_0, hfz80_0⟩, ⟨hcz80_1, hfz80_1⟩, ⟨hcz80_2, hfz80_2⟩, hcz80_3, hfz80_3⟩ := cs4_ BK163.out
            go_wp2
            repeat (rw [rounds_succ]; go_wp2)
            refine bodyPost_ret (results_ct rfl _ _ gb163 56 #[.int .i64 1, .int .i64 2, .int .i64 t172, .int .i64 0] (0, 0) _ rfl (by (with_reducible repeat (first | refine blk_drewN ?_ _ | refine blk_drew ?_ | refine blk_alloc ?_ _)); refine blk_put (cs := #[.int .i64 1, .int .i64 2, .int .i64 t172, .int .i64 0]) ?_ 3 _ rfl; (with_reducible repeat (first | refine blk_drewN ?_ _ | refine blk_drew ?_ | refine blk_alloc ?_ _)); refine blk_put (cs := #[.int .i64 1, .int .i64 2, .int .i64 0, .int .i64 0]) ?_ 2 _ rfl; (with_reducible repeat (first | refine blk_drewN ?_ _ | refine blk_drew ?_ | refine blk_alloc ?_ _)); refine blk_put (cs := #[.int .i64 1, .int .i64 0, .int .i64 0, .int .i64 0]) ?_ 1 _ rfl; (with_reducible repeat (first | refine blk_drewN ?_ _ | refine blk_drew ?_ | refine blk_alloc ?_ _)); refine blk_put (cs := #[.int .i64 0, .int .i64 0, .int .i64 0, .int .i64 0]) ?_ 0 _ rfl; (with_reducible repeat (first | refine blk_drewN ?_ _ | refine blk_drew ?_ | refine blk_alloc ?_ _)); refine blk_far ?_ NB163_174.out _; (with_reducible repeat (first | refine blk_drewN ?_ _ | refine blk_drew ?_ | refine blk_alloc ?_ _)); refine blk_far ?_ NB163_174.out _; (with_reducible repeat (first | refine blk_drewN ?_ _ | refine blk_drew ?_ | refine blk_alloc ?_ _)); refine blk_far ?_ NB163_174.out _; (with_reducible repeat (first | refine blk_drewN ?_ _ | refine blk_drew ?_ | refine blk_alloc ?_ _)); exact BK163.out) Try.underlying56 rfl (by kernel_rfl)) rfl ?_
            exact ⟨by first | rfl | (simp [errW_none, errW_some] <;> rfl) | (simp [*, errW_none, errW_some] <;> rfl), by repeat (first | (with_reducible first | exact HB.out | apply below_alloc | apply pw_below_drewN | apply below_drew1 | refine below_set ?_ GE163.out | refine below_set ?_ GE171.out | refine below_set ?_ GE174.out) | exact HB.out)⟩
           ·rw [if_neg c74] at H
            have c74b0 : (t169 == 0) = false := beq_eq_false_iff_ne.mpr c74
            have c74b1 : (t169 != 0) = true := bne_iff_ne.mpr c74
            simp only [Option.some.injEq, Prod.mk.injEq] at H
            obtain ⟨rfl, rfl, rfl, rfl, rfl⟩ := H
            have hnb81 := NB171_163.out
            have hnc81 := NB163_171.out
            have hnb82 := NB171_174.out
            have hnc82 := NB174_171.out
            obtain ⟨⟨hcz83_0, hfz83_0⟩, ⟨hcz83_1, hfz83_1⟩, ⟨hcz83_2, hfz83_2⟩, ⟨hcz83_3, hfz83_3⟩, ⟨hcz83_4, hfz83_4⟩, hcz83_5, hfz83_5⟩ := cs6_ BK171.out
            have hnb84 := NB174_163.out
            have hnc84 := NB163_174.out
            obtain ⟨⟨hcz85_0, hfz85_0⟩, ⟨hcz85_1, hfz85_1⟩, ⟨hcz85_2, hfz85_2⟩, hcz85_3, hfz85_3⟩ := cs4_ BK174.out
            obtain ⟨⟨hcz86_0, hfz86_0⟩, ⟨hcz86_1, hfz86_1⟩, ⟨hcz86_2, hfz86_2⟩, hcz86_3, hfz86_3⟩ := cs4_ BK163.out
            go_wp2
            rw [rounds_succ]
            go_wp2
            obtain ⟨w50, hw50⟩ : ∃ w50, w50 = (((wc.setCell ⟨gb174, 0, none⟩ (Value.int IntKind.i64 1)).setCell ⟨gb174, 1, none⟩ (Value.int IntKind.i64 2)).setCell ⟨gb174, 3, none⟩ (Value.int IntKind.i64 0)) := ⟨_, rfl⟩
            rw [← hw50]
            have K9 := Aside0.mk (show w50.heap[gb174]? = some (.cells #[.int .i64 1, .int .i64 2, .int .i64 t172, .int .i64 0] 56 (0, 0)) by rw [hw50]; exact blk_put (cs := #[.int .i64 1, .int .i64 2, .int .i64 t172, .int .i64 x175003_49]) (blk_put (cs := #[.int .i64 1, .int .i64 x175001_49, .int .i64 t172, .int .i64 x175003_49]) (blk_put (cs := #[.int .i64 x175000_49, .int .i64 x175001_49, .int .i64 t172, .int .i64 x175003_49]) (BK174.out) 0 _ rfl) 1 _ rfl) 3 _ rfl)
            have K8 := Aside0.mk (show w50.heap[gb163]? = some (.cells #[.int .i64 0, .int .i64 0, .int .i64 0, .int .i64 0] 56 (0, 0)) by rw [hw50]; exact blk_far (blk_far (blk_far (BK163.out) (p := ⟨gb174, 0, none⟩) NB163_174.out _) (p := ⟨gb174, 1, none⟩) NB163_174.out _) (p := ⟨gb174, 3, none⟩) NB163_174.out _)
            have K7 := Aside0.mk (show Below w.heap.size w w50 by rw [hw50]; exact Below.setCell (Below.setCell (Below.setCell (HB.out) GE174.out _) GE174.out _) GE174.out _)
            clear hw50
            try clear hcz79_3
            try clear hfz79_0
            try clear hfz79_1
            try clear hfz79_2
            try clear hfz79_3
            try clear hcz80_0
            try clear hcz80_1
            try clear hcz80_2
            try clear hcz80_3
            try clear hfz80_0
            try clear hfz80_1
            try clear hfz80_2
            try clear hfz80_3
            try clear hcz83_0
            try clear hcz83_1
            try clear hcz83_2
            try clear hcz83_3
            try clear hcz83_4
            try clear hcz83_5
            try clear hfz83_0
            try clear hfz83_1
            try clear hfz83_2
            try clear hfz83_3
            try clear hfz83_4
            try clear hfz83_5
            try clear hcz85_0
            try clear hcz85_1
            try clear hcz85_2
            try clear hcz85_3
            try clear hfz85_0
            try clear hfz85_1
            try clear hfz85_2
            try clear hfz85_3
            try clear hcz86_0
            try clear hcz86_1
            try clear hcz86_2
            try clear hcz86_3
            try clear hfz86_0
            try clear hfz86_1
            try clear hfz86_2
            try clear hfz86_3
            have hp0 : w50.cell? ⟨gb174, 0, none⟩ = some (.int .i64 1) := (blk_cell K9.out 0).trans rfl
            have hq0 := blk_frozen K9.out 0
            have hr0 : w50.cell? ⟨gb163, 0, none⟩ = some (.int .i64 0) := (blk_cell K8.out 0).trans rfl
            have hs0 := blk_frozen K8.out 0
            have hp1 : w50.cell? ⟨gb174, 1, none⟩ = some (.int .i64 2) := (blk_cell K9.out 1).trans rfl
            have hq1 := blk_frozen K9.out 1
            have hr1 : w50.cell? ⟨gb163, 1, none⟩ = some (.int .i64 0) := (blk_cell K8.out 1).trans rfl
            have hs1 := blk_frozen K8.out 1
            have hp2 : w50.cell? ⟨gb174, 2, none⟩ = some (.int .i64 t172) := (blk_cell K9.out 2).trans rfl
            have hq2 := blk_frozen K9.out 2
            have hr2 : w50.cell? ⟨gb163, 2, none⟩ = some (.int .i64 0) := (blk_cell K8.out 2).trans rfl
            have hs2 := blk_frozen K8.out 2
            have hp3 : w50.cell? ⟨gb174, 3, none⟩ = some (.int .i64 0) := (blk_cell K9.out 3).trans rfl
            have hq3 := blk_frozen K9.out 3
            have hr3 : w50.cell? ⟨gb163, 3, none⟩ = some (.int .i64 0) := (blk_cell K8.out 3).trans rfl
            have hs3 := blk_frozen K8.out 3
            repeat (rw [rounds_succ]; go_wp2)
            refine bodyPost_ret (results_ct rfl _ _ gb163 56 #[.int .i64 1, .int .i64 3, .int .i64 t172, .int .i64 0] (0, 0) _ rfl (by exact blk_put (cs := #[.int .i64 1, .int .i64 3, .int .i64 t172, .int .i64 0]) (blk_put (cs := #[.int .i64 1, .int .i64 3, .int .i64 0, .int .i64 0]) (blk_put (cs := #[.int .i64 1, .int .i64 0, .int .i64 0, .int .i64 0]) (blk_put (cs := #[.int .i64 0, .int .i64 0, .int .i64 0, .int .i64 0]) (blk_far (blk_far (blk_far (K8.out) (p := ⟨gb174, 0, none⟩) NB163_174.out _) (p := ⟨gb174, 1, none⟩) NB163_174.out _) (p := ⟨gb174, 3, none⟩) NB163_174.out _) 0 _ rfl) 1 _ rfl) 2 _ rfl) 3 _ rfl) Try.underlying56 rfl (by kernel_rfl)) rfl ?_
            exact ⟨rfl, Below.setCell (Below.setCell (Below.setCell (Below.setCell (Below.setCell (Below.setCell (Below.setCell (K7.out) GE174.out _) GE174.out _) GE174.out _) GE163.out _) GE163.out _) GE163.out _) GE163.out _⟩
     ·rw [if_neg c32] at H
      have c32b0 : decide (0 < t172) = false := decide_eq_false c32
      clear c32
      simp only [Option.some.injEq, Prod.mk.injEq] at H
      obtain ⟨rfl, rfl, rfl, rfl, rfl⟩ := H
      go_wp2_with (first | ((with_reducible refine gate_dst (N := 10) rfl ?_); refine box_event ?hg (N := 10) ?hd (cs := #[.int .i64 0, .int .i64 0, .int .i64 0, .int .i64 0]) (t := 56) ?hr ?_; (case hd => rfl); (case hg => rfl); (case hr => first | (go_simp; done) | (go_simp; rfl)); intro gb174 hg w87 hbox hb; have n0_ := Aside0.mk (kb_ BK163.out hb); have n1_ := Aside0.mk (kb_ BK171.out hb); have n2_ := Aside0.mk (below_step (by repeat (first | (with_reducible first | exact HB.out | apply below_alloc | apply pw_below_drewN | apply below_drew1 | refine below_set ?_ GE163.out | refine below_set ?_ GE171.out) | exact HB.out)) hb); have n3_ := Aside0.mk (hbox); have n4_ := Aside0.mk ((by rw [hg]; exact (below_size (by repeat (first | (with_reducible first | exact HB.out | apply below_alloc | apply pw_below_drewN | apply below_drew1 | refine below_set ?_ GE163.out | refine below_set ?_ GE171.out) | exact HB.out))) : w.heap.size ≤ gb174)); have n5_ := Aside0.mk ((by rw [hg]; exact (below_size (by repeat (first | (with_reducible first | exact HB.out | apply below_alloc | apply pw_below_drewN | apply below_drew1 | refine below_set ?_ GE163.out | refine below_set ?_ GE171.out) | exact HB.out))) : w.heap.size ≤ gb174)); have n6_ := Aside0.mk ((by rw [hg]; exact Nat.ne_of_lt (blk_lt (kv_ BK163.out)) : gb163 ≠ gb174)); have n7_ := Aside0.mk ((by rw [hg]; exact Nat.ne_of_gt (blk_lt (kv_ BK163.out)) : gb174 ≠ gb163)); have n8_ := Aside0.mk ((by rw [hg]; exact Nat.ne_of_lt (blk_lt (kv_ BK171.out)) : gb171 ≠ gb174)); have n9_ := Aside0.mk ((by rw [hg]; exact Nat.ne_of_gt (blk_lt (kv_ BK171.out)) : gb174 ≠ gb171)); clear BK163; clear BK171; clear HB; have BK163 := n0_; have BK171 := n1_; have HB := n2_; have BK174 := n3_; have GW174 := n4_; have GE174 := n5_; have NB163_174 := n6_; have NB174_163 := n7_; have NB171_174 := n8_; have NB174_171 := n9_; clear n0_ n1_ n2_ n3_ n4_ n5_ n6_ n7_ n8_ n9_; clear hb hbox hg; have hnb88 := NB174_163.out; have hnc88 := NB163_174.out; have hnb89 := NB174_171.out; have hnc89 := NB171_174.out; obtain ⟨⟨hcz90_0, hfz90_0⟩, ⟨hcz90_1, hfz90_1⟩, ⟨hcz90_2, hfz90_2⟩, hcz90_3, hfz90_3⟩ := cs4_ BK174.out; have hnb91 := NB163_171.out; have hnc91 := NB171_163.out; have hcz92_0 : w87.cell? ⟨gb163, 0, none⟩ = some (.int .i64 0) := (blk_cell BK163.out 0).trans rfl; have hcz92_1 : w87.cell? ⟨gb163, 1, none⟩ = some (.int .i64 0) := (blk_cell BK163.out 1).trans rfl; have hcz92_2 : w87.cell? ⟨gb163, 2, none⟩ = some (.int .i64 0) := (blk_cell BK163.out 2).trans rfl; have hcz92_3 : w87.cell? ⟨gb163, 3, none⟩ = some (.int .i64 0) := (blk_cell BK163.out 3).trans rfl; have hfz92_0 := blk_frozen BK163.out 0; have hfz92_1 := blk_frozen BK163.out 1; have hfz92_2 := blk_frozen BK163.out 2; have hfz92_3 := blk_frozen BK163.out 3))
      refine bodyPost_ret (results_ct rfl _ _ gb163 56 #[.int .i64 0, .int .i64 0, .int .i64 t172, .int .i64 0] (0, 0) _ rfl (by (with_reducible repeat (first | refine blk_drewN ?_ _ | refine blk_drew ?_ | refine blk_alloc ?_ _)); refine blk_put (cs := #[.int .i64 0, .int .i64 0, .int .i64 t172, .int .i64 0]) ?_ 3 _ rfl; (with_reducible repeat (first | refine blk_drewN ?_ _ | refine blk_drew ?_ | refine blk_alloc ?_ _)); refine blk_put (cs := #[.int .i64 0, .int .i64 0, .int .i64 0, .int .i64 0]) ?_ 2 _ rfl; (with_reducible repeat (first | refine blk_drewN ?_ _ | refine blk_drew ?_ | refine blk_alloc ?_ _)); refine blk_put (cs := #[.int .i64 0, .int .i64 0, .int .i64 0, .int .i64 0]) ?_ 1 _ rfl; (with_reducible repeat (first | refine blk_drewN ?_ _ | refine blk_drew ?_ | refine blk_alloc ?_ _)); refine blk_put (cs := #[.int .i64 0, .int .i64 0, .int .i64 0, .int .i64 0]) ?_ 0 _ rfl; (with_reducible repeat (first | refine blk_drewN ?_ _ | refine blk_drew ?_ | refine blk_alloc ?_ _)); refine blk_far ?_ NB163_174.out _; (with_reducible repeat (first | refine blk_drewN ?_ _ | refine blk_drew ?_ | refine blk_alloc ?_ _)); refine blk_far ?_ NB163_174.out _; (with_reducible repeat (first | refine blk_drewN ?_ _ | refine blk_drew ?_ | refine blk_alloc ?_ _)); refine blk_far ?_ NB163_174.out _; (with_reducible repeat (first | refine blk_drewN ?_ _ | refine blk_drew ?_ | refine blk_alloc ?_ _)); refine blk_far ?_ NB163_174.out _; (with_reducible repeat (first | refine blk_drewN ?_ _ | refine blk_drew ?_ | refine blk_alloc ?_ _)); exact BK163.out) Try.underlying56 rfl (by kernel_rfl)) rfl ?_
      exact ⟨by first | rfl | (simp [errW_none, errW_some] <;> rfl) | (simp [*, errW_none, errW_some] <;> rfl), by repeat (first | (with_reducible first | exact HB.out | apply below_alloc | apply pw_below_drewN | apply below_drew1 | refine below_set ?_ GE163.out | refine below_set ?_ GE171.out | refine below_set ?_ GE174.out) | exact HB.out)⟩

end Go.Proofs.Ytpfnfofaajpdmaa.PKe

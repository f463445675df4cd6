/- Written by a program of this session: functions of the given program as plain Lean functions, the walks that show it, and the row of each law, for every input that its statement speaks of. -/
import Derived.Test.YtjppjlhhdfkloaaPTpx0
import Derived.Test.YtjppjlhhdfkloaaPTpx4
import Derived.Test.YtjppjlhhdfkloaaPTpx5
namespace Go.Proofs.Ytjppjlhhdfkloaa.PTp
open Go.RowKit Go.Proofs.YtjppjlhhdfkloaaW.PrintWords Go.Proofs.YtjppjlhhdfkloaaW.PrintLast Go.Proofs.YtjppjlhhdfkloaaW.PrintMore
attribute [local go_sem] max2_int min2_int max_two min_two max_three min_three max_four min_four   -- for this text's walks alone
set_option linter.unusedVariables false
set_option linter.unusedSimpArgs false

/-! ### variorumref06_Parse: function 8 -/
def variorumref06_Parse.f (k : Nat) (l0 : List (S44)) : Option ((List (S38)) × Int × Int) := (variorumref06_Real.f k l0).bind fun t148 => ((variorumref06_Fault.f k t148).bind fun bt151 => (if bt151.1 = 0 then ((variorumref06_nodes.f k t148).bind fun t154 => (some (t154, bt151.1, bt151.2))) else (some (([] : List (S38)), bt151.1, bt151.2))))
theorem variorumref06_Parse.mono : ∀ a0 k, LeO (variorumref06_Parse.f k a0) (variorumref06_Parse.f (k + 1) a0) := by
 intro a0 k
 unfold variorumref06_Parse.f
 repeat' first
   | (with_reducible exact variorumref06_Fault.mono _ _)
   | (with_reducible exact variorumref06_Real.mono _ _)
   | (with_reducible exact variorumref06_nodes.mono _ _)
   | (with_reducible exact LeO.refl _)
   | (with_reducible exact LeO.none _)
   | (with_reducible refine LeO.ite ?_ ?_)
   | (with_reducible refine LeO.bind ?_ (fun _ => ?_))
   | exact variorumref06_Fault.mono _ _
   | exact variorumref06_Real.mono _ _
   | exact variorumref06_nodes.mono _ _
   | exact LeO.none _
   | refine LeO.ite ?_ ?_
   | refine LeO.bind ?_ (fun _ => ?_)
set_option maxHeartbeats 8000000 in
set_option maxRecDepth 100000 in
theorem variorumref06_Parse.calls (k : Nat) (A0 : Option Addr) (c0 : Nat) (l0 : List (S44)) (r1 : List (S38)) (r2 : Int) (r3 : Int) (w : World) (hr0 : Kd.C k44 w A0 l0.length l0) (hc0 : l0.length ≤ c0) (h : variorumref06_Parse.f k l0 = some (r1, r2, r3)) :
  Calls Try.prog 8 #[.slice A0 l0.length c0] w fun e w' => ∃ v0_ : Value, e = .returned (.tuple #[v0_, .agg #[.int .i64 r2, .int .i64 r3]]) ∧ Kd.R k38 38 w' w.heap.size (fun _ => True) v0_ r1 ∧ Below w.heap.size w w' := by
 have hu26 := Try.underlying26
 have HR0 := Aside0.mk hr0
 have HC0 := Aside0.mk hc0
 clear hr0 hc0
 have HB := Aside0.mk (Below.refl w.heap.size w)
 have H : ((variorumref06_Real.f k l0).bind fun t148 => ((variorumref06_Fault.f k t148).bind fun bt151 => (if bt151.1 = 0 then ((variorumref06_nodes.f k t148).bind fun t154 => (some (t154, bt151.1, bt151.2))) else (some (([] : List (S38)), bt151.1, bt151.2))))) = some (r1, r2, r3) := h
 clear h
 replace H := Option.bind_eq_some_iff.mp H
 obtain ⟨t148, A20, H⟩ := H
 replace H : ((variorumref06_Fault.f k t148).bind fun bt151 => (if bt151.1 = 0 then ((variorumref06_nodes.f k t148).bind fun t154 => (some (t154, bt151.1, bt151.2))) else (some (([] : List (S38)), bt151.1, bt151.2)))) = some (r1, r2, r3) := H
 have A2 := Aside0.mk A20
 clear A20
 replace H := Option.bind_eq_some_iff.mp H
 obtain ⟨⟨t151, t152⟩, A30, H⟩ := H
 replace H : (if t151 = 0 then ((variorumref06_nodes.f k t148).bind fun t154 => (some (t154, t151, t152))) else (some (([] : List (S38)), t151, t152))) = some (r1, r2, r3) := H
 have A3 := Aside0.mk A30
 clear A30
 by_cases c4 : t151 = 0
 ·rw [if_pos c4] at H
  have c4b0 : (t151 == 0) = true := beq_iff_eq.mpr c4
  have c4b1 : (t151 != 0) = false := bne_eq_false_iff_eq.mpr c4
  clear c4
  replace H := Option.bind_eq_some_iff.mp H
  obtain ⟨t154, A50, H⟩ := H
  replace H : (some (t154, t151, t152)) = some (r1, r2, r3) := H
  have A5 := Aside0.mk A50
  clear A50
  simp only [Option.some.injEq, Prod.mk.injEq] at H
  obtain ⟨rfl, rfl, rfl⟩ := H
  go_enter Try.func8, Try.ntmps8
  try go_wp2_with (first | ((with_reducible refine gate_dst (N := 3) rfl ?_); refine box_event ?hg (N := 3) ?hd (cs := #[.int .i64 0, .int .i64 0]) (t := 26) ?hr ?_; (case hd => rfl); (case hg => rfl); (case hr => first | (go_simp; done) | (go_simp; rfl)); intro gb147 hg w6 hbox hb; have n0_ := Aside0.mk (below_step (by repeat (first | (with_reducible first | exact HB.out | apply below_alloc | apply pw_below_drewN | apply below_drew1) | exact HB.out)) hb); have n1_ := Aside0.mk (hbox); have n2_ := Aside0.mk ((by rw [hg]; exact (below_size (by repeat (first | (with_reducible first | exact HB.out | apply below_alloc | apply pw_below_drewN | apply below_drew1) | exact HB.out))) : w.heap.size ≤ gb147)); have n3_ := Aside0.mk ((by rw [hg]; exact (below_size (by repeat (first | (with_reducible first | exact HB.out | apply below_alloc | apply pw_below_drewN | apply below_drew1) | exact HB.out))) : w.heap.size ≤ gb147)); clear HB; have HB := n0_; have BK147 := n1_; have GW147 := n2_; have GE147 := n3_; clear n0_ n1_ n2_ n3_; clear hb hbox hg) | ((with_reducible refine gate_callee (f := 17) rfl ?_); refine goesL_ (some 7) rfl rfl Try.func17 (by kernel_rfl) rfl #[.slice A0 l0.length c0] rfl (by (try simp only [List.map_toArray, List.map_cons, List.map_nil]); first | done | rfl | (simp only [List.length_drop, List.length_take]; rfl)) ?_; (with_reducible refine (variorumref06_Real.calls k _ _ l0 t148 _ ?side1 ?side2 A2.out).mono ?_); (case side1 => repeat (first | exact (Kd.C_below HR0.out HB.out) | (with_reducible refine Kd.C_alloc ?_ _) | (with_reducible refine Kd.C_drewN ?_ _) | (with_reducible refine Kd.C_drew ?_))); (case side2 => exact HC0.out); rintro e w7 ⟨v149, rfl, ho0, hb⟩; refine ⟨_, rfl, ?_⟩; have n0_ := Aside0.mk (Kd.R_lower ho0 (below_size (by repeat (first | (with_reducible first | exact HB.out | apply below_alloc | apply pw_below_drewN | apply below_drew1 | refine below_set ?_ GE147.out) | exact HB.out)))); have n1_ := Aside0.mk (blk_below (g := gb147) (o := .cells #[.int .i64 0, .int .i64 0] 26 (0, 0)) (by (with_reducible repeat (first | refine blk_drewN ?_ _ | refine blk_drew ?_ | refine blk_alloc ?_ _)); exact BK147.out) hb); have n2_ := Aside0.mk (below_step (by repeat (first | (with_reducible first | exact HB.out | apply below_alloc | apply pw_below_drewN | apply below_drew1 | refine below_set ?_ GE147.out) | exact HB.out)) hb); clear BK147; clear HB; have HO150 := n0_; have BK147 := n1_; have HB := n2_; clear n0_ n1_ n2_; (try clear hb); (try clear hb2); (try clear hk); (try clear hi); (try clear ho0); obtain ⟨Ao8, co8, eo8⟩ := Kd.R_slice HO150.out; subst eo8) | ((with_reducible refine gate_callee (f := 21) rfl ?_); refine goesL_ (some 9) rfl rfl Try.func21 (by kernel_rfl) rfl #[.slice Ao8 t148.length co8] rfl (by (try simp only [List.map_toArray, List.map_cons, List.map_nil]); first | done | rfl | (simp only [List.length_drop, List.length_take]; rfl)) ?_; (with_reducible refine (variorumref06_Fault.calls k _ _ t148 t151 t152 _ ?side1 ?side2 A3.out).mono ?_); (case side1 => repeat (first | exact (Kd.R_reads' HO150.out).2.2 | (with_reducible refine Kd.C_alloc ?_ _) | (with_reducible refine Kd.C_drewN ?_ _) | (with_reducible refine Kd.C_drew ?_))); (case side2 => exact (Kd.R_reads' HO150.out).2.1); rintro e w9 ⟨rfl, hb⟩; refine ⟨_, rfl, ?_⟩; have n0_ := Aside0.mk (Kd.R_below (by (with_reducible repeat (first | apply Kd.R_alloc | apply Kd.R_drewN | apply Kd.R_drew)); exact HO150.out) hb); have n1_ := Aside0.mk (blk_below (g := gb147) (o := .cells #[.int .i64 0, .int .i64 0] 26 (0, 0)) (by (with_reducible repeat (first | refine blk_drewN ?_ _ | refine blk_drew ?_ | refine blk_alloc ?_ _)); exact BK147.out) hb); have n2_ := Aside0.mk (below_step (by repeat (first | (with_reducible first | exact HB.out | apply below_alloc | apply pw_below_drewN | apply below_drew1 | refine below_set ?_ GE147.out) | exact HB.out)) hb); clear HO150; clear BK147; clear HB; have HO150 := n0_; have BK147 := n1_; have HB := n2_; clear n0_ n1_ n2_; (try clear hb); (try clear hb2); (try clear hk); (try clear hi)) | ((with_reducible refine gate_dst (N := 5) rfl ?_); refine box_event ?hg (N := 5) ?hd (cs := #[.int .i64 0, .int .i64 0]) (t := 26) ?hr ?_; (case hd => rfl); (case hg => rfl); (case hr => first | (go_simp; done) | (go_simp; rfl)); intro gb153 hg w10 hbox hb; have n0_ := Aside0.mk (Kd.R_below (by (with_reducible repeat (first | apply Kd.R_alloc | apply Kd.R_drewN | apply Kd.R_drew)); exact HO150.out) hb); have n1_ := Aside0.mk (blk_below (g := gb147) (o := .cells #[.int .i64 0, .int .i64 0] 26 (0, 0)) (by (with_reducible repeat (first | refine blk_drewN ?_ _ | refine blk_drew ?_ | refine blk_alloc ?_ _)); exact BK147.out) hb); have n2_ := Aside0.mk (below_step (by repeat (first | (with_reducible first | exact HB.out | apply below_alloc | apply pw_below_drewN | apply below_drew1 | refine below_set ?_ GE147.out) | exact HB.out)) hb); have n3_ := Aside0.mk (hbox); have n4_ := Aside0.mk ((by rw [hg]; exact (below_size (by repeat (first | (with_reducible first | exact HB.out | apply below_alloc | apply pw_below_drewN | apply below_drew1 | refine below_set ?_ GE147.out) | exact HB.out))) : w.heap.size ≤ gb153)); have n5_ := Aside0.mk ((by rw [hg]; exact (below_size (by repeat (first | (with_reducible first | exact HB.out | apply below_alloc | apply pw_below_drewN | apply below_drew1 | refine below_set ?_ GE147.out) | exact HB.out))) : w.heap.size ≤ gb153)); have n6_ := Aside0.mk ((by rw [hg]; exact Nat.ne_of_lt (blk_lt (g := gb147) (o := .cells #[.int .i64 0, .int .i64 0] 26 (0, 0)) (by (with_reducible repeat (first | refine blk_drewN ?_ _ | refine blk_drew ?_ | refine blk_alloc ?_ _)); exact BK147.out)) : gb147 ≠ gb153)); have n7_ := Aside0.mk ((by rw [hg]; exact Nat.ne_of_gt (blk_lt (g := gb147) (o := .cells #[.int .i64 0, .int .i64 0] 26 (0, 0)) (by (with_reducible repeat (first | refine blk_drewN ?_ _ | refine blk_drew ?_ | refine blk_alloc ?_ _)); exact BK147.out)) : gb153 ≠ gb147)); clear HO150; clear BK147; clear HB; have HO150 := n0_; have BK147 := n1_; have HB := n2_; have BK153 := n3_; have GW153 := n4_; have GE153 := n5_; have NB147_153 := n6_; have NB153_147 := n7_; clear n0_ n1_ n2_ n3_ n4_ n5_ n6_ n7_; clear hb hbox hg; have hnb11 := NB153_147.out; have hnc11 := NB147_153.out; have hcz12_0 : w10.cell? ⟨gb153, 0, none⟩ = some (.int .i64 0) := (blk_cell BK153.out 0).trans rfl; have hcz12_1 : w10.cell? ⟨gb153, 1, none⟩ = some (.int .i64 0) := (blk_cell BK153.out 1).trans rfl; have hfz12_0 := blk_frozen BK153.out 0; have hfz12_1 := blk_frozen BK153.out 1))
  have n0_ : Aside0 (Kd.R k44 44 ((w10.setCell ⟨gb153, 0, none⟩ (.int .i64 t151)).setCell ⟨gb153, 1, none⟩ (.int .i64 t152)) w.heap.size (fun _ => True) (.slice Ao8 t148.length co8) t148) := ⟨by (with_reducible repeat (first | apply Kd.R_alloc | apply Kd.R_drewN | apply Kd.R_drew)); exact Kd.R_mono (Kd.R_far (p := ⟨gb153, 1, none⟩) (Kd.R_far (p := ⟨gb153, 0, none⟩) (Kd.R_types HO150.out BK153.out (by decide)) (fun _ hk => hk.2) (.int .i64 t151)) (fun _ hk => hk.2) (.int .i64 t152)) (fun _ hk => trivial)⟩
  have n1_ : Aside0 (((w10.setCell ⟨gb153, 0, none⟩ (.int .i64 t151)).setCell ⟨gb153, 1, none⟩ (.int .i64 t152)).heap[gb147]? = some (.cells #[.int .i64 0, .int .i64 0] 26 (0, 0))) := ⟨by (with_reducible repeat (first | refine blk_drewN ?_ _ | refine blk_drew ?_ | refine blk_alloc ?_ _)); refine blk_far ?_ NB147_153.out _; (with_reducible repeat (first | refine blk_drewN ?_ _ | refine blk_drew ?_ | refine blk_alloc ?_ _)); refine blk_far ?_ NB147_153.out _; (with_reducible repeat (first | refine blk_drewN ?_ _ | refine blk_drew ?_ | refine blk_alloc ?_ _)); exact BK147.out⟩
  have n2_ : Aside0 (((w10.setCell ⟨gb153, 0, none⟩ (.int .i64 t151)).setCell ⟨gb153, 1, none⟩ (.int .i64 t152)).heap[gb153]? = some (.cells #[.int .i64 t151, .int .i64 t152] 26 (0, 0))) := ⟨by (with_reducible repeat (first | refine blk_drewN ?_ _ | refine blk_drew ?_ | refine blk_alloc ?_ _)); refine blk_put (cs := #[.int .i64 t151, .int .i64 0]) ?_ 1 _ rfl; (with_reducible repeat (first | refine blk_drewN ?_ _ | refine blk_drew ?_ | refine blk_alloc ?_ _)); refine blk_put (cs := #[.int .i64 0, .int .i64 0]) ?_ 0 _ rfl; (with_reducible repeat (first | refine blk_drewN ?_ _ | refine blk_drew ?_ | refine blk_alloc ?_ _)); exact BK153.out⟩
  have n3_ : Aside0 (Below w.heap.size w ((w10.setCell ⟨gb153, 0, none⟩ (.int .i64 t151)).setCell ⟨gb153, 1, none⟩ (.int .i64 t152))) := ⟨by repeat (first | (with_reducible first | exact HB.out | apply below_alloc | apply pw_below_drewN | apply below_drew1 | refine below_set ?_ GE147.out | refine below_set ?_ GE153.out) | exact HB.out)⟩
  (try clear HO150)
  (try clear BK147)
  (try clear BK153)
  (try clear HB)
  generalize ((w10.setCell ⟨gb153, 0, none⟩ (.int .i64 t151)).setCell ⟨gb153, 1, none⟩ (.int .i64 t152)) = w13 at n0_ n1_ n2_ n3_ ⊢
  have HO150 := n0_
  have BK147 := n1_
  have BK153 := n2_
  have HB := n3_
  clear n0_ n1_ n2_ n3_
  have n0_ := Aside0.mk (Kd.R_drew HO150.out)
  have n1_ := Aside0.mk (blk_drew BK147.out)
  have n2_ := Aside0.mk (blk_drew BK153.out)
  have n3_ := Aside0.mk (below_drew1 HB.out)
  clear HO150
  clear BK147
  clear BK153
  clear HB
  have HO150 := n0_
  have BK147 := n1_
  have BK153 := n2_
  have HB := n3_
  clear n0_ n1_ n2_ n3_
  refine start_ (n := 5) (S := fun w' => w'.cell? ⟨gb153, 0, none⟩ = some (.int .i64 t151) ∧ w'.cell? ⟨gb153, 1, none⟩ = some (.int .i64 t152)) (ds := []) #[false, false, false, false, false] (by kernel_rfl) rfl rfl ⟨(blk_cell BK153.out 0).trans rfl, (blk_cell BK153.out 1).trans rfl⟩ (fun hHeld => ?_)
  generalize w13.drew = w14 at HO150 BK147 BK153 HB hHeld ⊢
  refine pure_ (i := 0) (N := some 14) (v := ?_) (a' := ?_) #[true, false, false, false, false] rfl rfl (by kernel_rfl) (fun _ _ _ h => h) (Or.inl ⟨by rfl, ?_⟩) ?_ ?_
  rotate_left
  ·intro w'
   go_simp
   with_reducible rfl
  rotate_left
  ·simp only [Act.put, List.setIfInBounds_toArray, List.set_cons_zero, List.set_cons_succ, i64_w, i32_w]
   rfl
  refine take_ (i := 2) (N := some 16) (v := ?_) (a' := ?_) #[true, false, true, false, false] rfl rfl (by kernel_rfl) (fun _ _ _ h => h) (Or.inl ⟨by rfl, ?_⟩) hHeld ?_ ?_
  rotate_left
  ·rintro w' ⟨s0, s1⟩
   go_simp
   with_reducible rfl
  rotate_left
  ·simp only [Act.put, List.setIfInBounds_toArray, List.set_cons_zero, List.set_cons_succ, i64_w, i32_w]
   rfl
  refine one_ (i := 1) (N := some 15) #[true, true, true, false, false] rfl rfl (by kernel_rfl) (by decide) (fun K hK => ?_)
  refine goes_ Try.func22 (by kernel_rfl) rfl #[.slice Ao8 t148.length co8] (by rfl) rfl rfl (by (try simp only [List.map_toArray, List.map_cons, List.map_nil]); first | done | rfl | (simp only [List.length_drop, List.length_take]; rfl)) ?_
  with_reducible refine (variorumref06_nodes.calls k _ _ t148 t154 _ ?side1 ?side2 A5.out).mono ?_
  (case side1 => repeat (first | exact (Kd.R_reads' HO150.out).2.2 | (with_reducible refine Kd.C_alloc ?_ _) | (with_reducible refine Kd.C_drewN ?_ _) | (with_reducible refine Kd.C_drew ?_)))
  (case side2 => exact (Kd.R_reads' HO150.out).2.1)
  rintro e w15 ⟨v155, rfl, ho0, hb⟩
  refine ⟨_, rfl, ?_⟩
  have n0_ := Aside0.mk (Kd.R_below (by (with_reducible repeat (first | apply Kd.R_alloc | apply Kd.R_drewN | apply Kd.R_drew)); exact HO150.out) hb)
  have n1_ := Aside0.mk (Kd.R_lower ho0 (below_size (by repeat (first | (with_reducible first | exact HB.out | apply below_alloc | apply pw_below_drewN | apply below_drew1 | refine below_set ?_ GE147.out | refine below_set ?_ GE153.out) | exact HB.out))))
  have n2_ := Aside0.mk (blk_below (g := gb147) (o := .cells #[.int .i64 0, .int .i64 0] 26 (0, 0)) (by (with_reducible repeat (first | refine blk_drewN ?_ _ | refine blk_drew ?_ | refine blk_alloc ?_ _)); exact BK147.out) hb)
  have n3_ := Aside0.mk (blk_below (g := gb153) (o := .cells #[.int .i64 t151, .int .i64 t152] 26 (0, 0)) (by (with_reducible repeat (first | refine blk_drewN ?_ _ | refine blk_drew ?_ | refine blk_alloc ?_ _)); exact BK153.out) hb)
  have n4_ := Aside0.mk (below_step (by repeat (first | (with_reducible first | exact HB.out | apply below_alloc | apply pw_below_drewN | apply below_drew1 | refine below_set ?_ GE147.out | refine below_set ?_ GE153.out) | exact HB.out)) hb)
  clear HO150
  clear BK147
  clear BK153
  clear HB
  have HO150 := n0_
  have HO156 := n1_
  have BK147 := n2_
  have BK153 := n3_
  have HB := n4_
  clear n0_ n1_ n2_ n3_ n4_
  (try clear hb)
  (try clear hb2)
  (try clear hk)
  (try clear hi)
  (try clear ho0)
  refine hK.out _ _ ⟨(blk_cell BK153.out 0).trans rfl, (blk_cell BK153.out 1).trans rfl⟩ (fun hHeld => ?_)
  clear hK K
  refine norm_ (a' := ?_) ?_ ?_
  rotate_left
  ·show Act.put _ (some 15) _ = _
   simp only [Act.put, List.setIfInBounds_toArray, List.set_cons_zero, List.set_cons_succ, i64_w, i32_w]
   rfl
  refine pure_ (i := 3) (N := some 2) (v := ?_) (a' := ?_) #[true, true, true, true, false] rfl rfl (by kernel_rfl) (fun _ _ _ h => h) (Or.inl ⟨by rfl, ?_⟩) ?_ ?_
  rotate_left
  ·intro w'
   go_simp
   with_reducible rfl
  rotate_left
  ·simp only [Act.put, List.setIfInBounds_toArray, List.set_cons_zero, List.set_cons_succ, i64_w, i32_w]
   rfl
  refine one_ (i := 4) (N := none) #[true, true, true, true, true] rfl rfl (by kernel_rfl) (by decide) (fun K hK => ?_)
  have hs16 : w15.cell? ⟨gb147, 0, none⟩ = some (.int .i64 0) := (blk_cell BK147.out 0).trans rfl
  have hfs16 := blk_frozen BK147.out 0
  have hns16_1 := NB153_147.out
  have hms16_1 := NB147_153.out
  have hs17 : w15.cell? ⟨gb147, 1, none⟩ = some (.int .i64 0) := (blk_cell BK147.out 1).trans rfl
  have hfs17 := blk_frozen BK147.out 1
  have hns17_1 := NB153_147.out
  have hms17_1 := NB147_153.out
  refine skip_ (w1 := ?_) (by rfl) rfl ?_ ?_
  rotate_left
  ·go_simp
   rfl
  refine hK.out _ _ ⟨((cell_far (p := ⟨gb147, _, none⟩) NB153_147.out _).trans (((cell_far (p := ⟨gb147, _, none⟩) NB153_147.out _).trans (hHeld.1)))), ((cell_far (p := ⟨gb147, _, none⟩) NB153_147.out _).trans (((cell_far (p := ⟨gb147, _, none⟩) NB153_147.out _).trans (hHeld.2))))⟩ (fun hHeld => ?_)
  clear hK K
  refine done_ (by kernel_rfl) ?_
  try go_wp2
  refine bodyPost_ret (results_tc rfl _ _ gb147 26 #[.int .i64 t151, .int .i64 t152] (0, 0) _ rfl (by (with_reducible repeat (first | refine blk_drewN ?_ _ | refine blk_drew ?_ | refine blk_alloc ?_ _)); refine blk_put (cs := #[.int .i64 t151, .int .i64 0]) ?_ 1 _ rfl; (with_reducible repeat (first | refine blk_drewN ?_ _ | refine blk_drew ?_ | refine blk_alloc ?_ _)); refine blk_put (cs := #[.int .i64 0, .int .i64 0]) ?_ 0 _ rfl; (with_reducible repeat (first | refine blk_drewN ?_ _ | refine blk_drew ?_ | refine blk_alloc ?_ _)); exact BK147.out) Try.underlying26 rfl (by kernel_rfl)) rfl ?_
  exact ⟨_, by first | rfl | (simp [errW_none, errW_some] <;> rfl) | (simp [*, errW_none, errW_some] <;> rfl), by (with_reducible repeat (first | apply Kd.R_alloc | apply Kd.R_drewN | apply Kd.R_drew)); exact Kd.R_mono (Kd.R_far (p := ⟨gb147, 1, none⟩) (Kd.R_far (p := ⟨gb147, 0, none⟩) (Kd.R_types HO156.out BK147.out (by decide)) (fun _ hk => hk.2) (.int .i64 t151)) (fun _ hk => hk.2) (.int .i64 t152)) (fun _ hk => trivial), by repeat (first | (with_reducible first | exact HB.out | apply below_alloc | apply pw_below_drewN | apply below_drew1 | refine below_set ?_ GE147.out | refine below_set ?_ GE153.out) | exact HB.out)⟩
 ·rw [if_neg c4] at H
  have c4b0 : (t151 == 0) = false := beq_eq_false_iff_ne.mpr c4
  have c4b1 : (t151 != 0) = true := bne_iff_ne.mpr c4
  simp only [Option.some.injEq, Prod.mk.injEq] at H
  obtain ⟨rfl, rfl, rfl⟩ := H
  go_enter Try.func8, Try.ntmps8
  try go_wp2_with (first | ((with_reducible refine gate_dst (N := 3) rfl ?_); refine box_event ?hg (N := 3) ?hd (cs := #[.int .i64 0, .int .i64 0]) (t := 26) ?hr ?_; (case hd => rfl); (case hg => rfl); (case hr => first | (go_simp; done) | (go_simp; rfl)); intro gb147 hg w18 hbox hb; have n0_ := Aside0.mk (below_step (by repeat (first | (with_reducible first | exact HB.out | apply below_alloc | apply pw_below_drewN | apply below_drew1) | exact HB.out)) hb); have n1_ := Aside0.mk (hbox); have n2_ := Aside0.mk ((by rw [hg]; exact (below_size (by repeat (first | (with_reducible first | exact HB.out | apply below_alloc | apply pw_below_drewN | apply below_drew1) | exact HB.out))) : w.heap.size ≤ gb147)); have n3_ := Aside0.mk ((by rw [hg]; exact (below_size (by repeat (first | (with_reducible first | exact HB.out | apply below_alloc | apply pw_below_drewN | apply below_drew1) | exact HB.out))) : w.heap.size ≤ gb147)); clear HB; have HB := n0_; have BK147 := n1_; have GW147 := n2_; have GE147 := n3_; clear n0_ n1_ n2_ n3_; clear hb hbox hg) | ((with_reducible refine gate_callee (f := 17) rfl ?_); refine goesL_ (some 7) rfl rfl Try.func17 (by kernel_rfl) rfl #[.slice A0 l0.length c0] rfl (by (try simp only [List.map_toArray, List.map_cons, List.map_nil]); first | done | rfl | (simp only [List.length_drop, List.length_take]; rfl)) ?_; (with_reducible refine (variorumref06_Real.calls k _ _ l0 t148 _ ?side1 ?side2 A2.out).mono ?_); (case side1 => repeat (first | exact (Kd.C_below HR0.out HB.out) | (with_reducible refine Kd.C_alloc ?_ _) | (with_reducible refine Kd.C_drewN ?_ _) | (with_reducible refine Kd.C_drew ?_))); (case side2 => exact HC0.out); rintro e w19 ⟨v149, rfl, ho0, hb⟩; refine ⟨_, rfl, ?_⟩; have n0_ := Aside0.mk (Kd.R_lower ho0 (below_size (by repeat (first | (with_reducible first | exact HB.out | apply below_alloc | apply pw_below_drewN | apply below_drew1 | refine below_set ?_ GE147.out) | exact HB.out)))); have n1_ := Aside0.mk (blk_below (g := gb147) (o := .cells #[.int .i64 0, .int .i64 0] 26 (0, 0)) (by (with_reducible repeat (first | refine blk_drewN ?_ _ | refine blk_drew ?_ | refine blk_alloc ?_ _)); exact BK147.out) hb); have n2_ := Aside0.mk (below_step (by repeat (first | (with_reducible first | exact HB.out | apply below_alloc | apply pw_below_drewN | apply below_drew1 | refine below_set ?_ GE147.out) | exact HB.out)) hb); clear BK147; clear HB; have HO150 := n0_; have BK147 := n1_; have HB := n2_; clear n0_ n1_ n2_; (try clear hb); (try clear hb2); (try clear hk); (try clear hi); (try clear ho0); obtain ⟨Ao20, co20, eo20⟩ := Kd.R_slice HO150.out; subst eo20) | ((with_reducible refine gate_callee (f := 21) rfl ?_); refine goesL_ (some 9) rfl rfl Try.func21 (by kernel_rfl) rfl #[.slice Ao20 t148.length co20] rfl (by (try simp only [List.map_toArray, List.map_cons, List.map_nil]); first | done | rfl | (simp only [List.length_drop, List.length_take]; rfl)) ?_; (with_reducible refine (variorumref06_Fault.calls k _ _ t148 t151 t152 _ ?side1 ?side2 A3.out).mono ?_); (case side1 => repeat (first | exact (Kd.R_reads' HO150.out).2.2 | (with_reducible refine Kd.C_alloc ?_ _) | (with_reducible refine Kd.C_drewN ?_ _) | (with_reducible refine Kd.C_drew ?_))); (case side2 => exact (Kd.R_reads' HO150.out).2.1); rintro e w21 ⟨rfl, hb⟩; refine ⟨_, rfl, ?_⟩; have n0_ := Aside0.mk (Kd.R_below (by (with_reducible repeat (first | apply Kd.R_alloc | apply Kd.R_drewN | apply Kd.R_drew)); exact HO150.out) hb); have n1_ := Aside0.mk (blk_below (g := gb147) (o := .cells #[.int .i64 0, .int .i64 0] 26 (0, 0)) (by (with_reducible repeat (first | refine blk_drewN ?_ _ | refine blk_drew ?_ | refine blk_alloc ?_ _)); exact BK147.out) hb); have n2_ := Aside0.mk (below_step (by repeat (first | (with_reducible first | exact HB.out | apply below_alloc | apply pw_below_drewN | apply below_drew1 | refine below_set ?_ GE147.out) | exact HB.out)) hb); clear HO150; clear BK147; clear HB; have HO150 := n0_; have BK147 := n1_; have HB := n2_; clear n0_ n1_ n2_; (try clear hb); (try clear hb2); (try clear hk); (try clear hi)) | ((with_reducible refine gate_dst (N := 5) rfl ?_); refine box_event ?hg (N := 5) ?hd (cs := #[.int .i64 0, .int .i64 0]) (t := 26) ?hr ?_; (case hd => rfl); (case hg => rfl); (case hr => first | (go_simp; done) | (go_simp; rfl)); intro gb153 hg w22 hbox hb; have n0_ := Aside0.mk (Kd.R_below (by (with_reducible repeat (first | apply Kd.R_alloc | apply Kd.R_drewN | apply Kd.R_drew)); exact HO150.out) hb); have n1_ := Aside0.mk (blk_below (g := gb147) (o := .cells #[.int .i64 0, .int .i64 0] 26 (0, 0)) (by (with_reducible repeat (first | refine blk_drewN ?_ _ | refine blk_drew ?_ | refine blk_alloc ?_ _)); exact BK147.out) hb); have n2_ := Aside0.mk (below_step (by repeat (first | (with_reducible first | exact HB.out | apply below_alloc | apply pw_below_drewN | apply below_drew1 | refine below_set ?_ GE147.out) | exact HB.out)) hb); have n3_ := Aside0.mk (hbox); have n4_ := Aside0.mk ((by rw [hg]; exact (below_size (by repeat (first | (with_reducible first | exact HB.out | apply below_alloc | apply pw_below_drewN | apply below_drew1 | refine below_set ?_ GE147.out) | exact HB.out))) : w.heap.size ≤ gb153)); have n5_ := Aside0.mk ((by rw [hg]; exact (below_size (by repeat (first | (with_reducible first | exact HB.out | apply below_alloc | apply pw_below_drewN | apply below_drew1 | refine below_set ?_ GE147.out) | exact HB.out))) : w.heap.size ≤ gb153)); have n6_ := Aside0.mk ((by rw [hg]; exact Nat.ne_of_lt (blk_lt (g := gb147) (o := .cells #[.int .i64 0, .int .i64 0] 26 (0, 0)) (by (with_reducible repeat (first | refine blk_drewN ?_ _ | refine blk_drew ?_ | refine blk_alloc ?_ _)); exact BK147.out)) : gb147 ≠ gb153)); have n7_ := Aside0.mk ((by rw [hg]; exact Nat.ne_of_gt (blk_lt (g := gb147) (o := .cells #[.int .i64 0, .int .i64 0] 26 (0, 0)) (by (with_reducible repeat (first | refine blk_drewN ?_ _ | refine blk_drew ?_ | refine blk_alloc ?_ _)); exact BK147.out)) : gb153 ≠ gb147)); clear HO150; clear BK147; clear HB; have HO150 := n0_; have BK147 := n1_; have HB := n2_; have BK153 := n3_; have GW153 := n4_; have GE153 := n5_; have NB147_153 := n6_; have NB153_147 := n7_; clear n0_ n1_ n2_ n3_ n4_ n5_ n6_ n7_; clear hb hbox hg; have hnb23 := NB153_147.out; have hnc23 := NB147_153.out; have hcz24_0 : w22.cell? ⟨gb153, 0, none⟩ = some (.int .i64 0) := (blk_cell BK153.out 0).trans rfl; have hcz24_1 : w22.cell? ⟨gb153, 1, none⟩ = some (.int .i64 0) := (blk_cell BK153.out 1).trans rfl; have hfz24_0 := blk_frozen BK153.out 0; have hfz24_1 := blk_frozen BK153.out 1))
  have n0_ : Aside0 (Kd.R k44 44 ((w22.setCell ⟨gb153, 0, none⟩ (.int .i64 t151)).setCell ⟨gb153, 1, none⟩ (.int .i64 t152)) w.heap.size (fun _ => True) (.slice Ao20 t148.length co20) t148) := ⟨by (with_reducible repeat (first | apply Kd.R_alloc | apply Kd.R_drewN | apply Kd.R_drew)); exact Kd.R_mono (Kd.R_far (p := ⟨gb153, 1, none⟩) (Kd.R_far (p := ⟨gb153, 0, none⟩) (Kd.R_types HO150.out BK153.out (by decide)) (fun _ hk => hk.2) (.int .i64 t151)) (fun _ hk => hk.2) (.int .i64 t152)) (fun _ hk => trivial)⟩
  have n1_ : Aside0 (((w22.setCell ⟨gb153, 0, none⟩ (.int .i64 t151)).setCell ⟨gb153, 1, none⟩ (.int .i64 t152)).heap[gb147]? = some (.cells #[.int .i64 0, .int .i64 0] 26 (0, 0))) := ⟨by (with_reducible repeat (first | refine blk_drewN ?_ _ | refine blk_drew ?_ | refine blk_alloc ?_ _)); refine blk_far ?_ NB147_153.out _; (with_reducible repeat (first | refine blk_drewN ?_ _ | refine blk_drew ?_ | refine blk_alloc ?_ _)); refine blk_far ?_ NB147_153.out _; (with_reducible repeat (first | refine blk_drewN ?_ _ | refine blk_drew ?_ | refine blk_alloc ?_ _)); exact BK147.out⟩
  have n2_ : Aside0 (((w22.setCell ⟨gb153, 0, none⟩ (.int .i64 t151)).setCell ⟨gb153, 1, none⟩ (.int .i64 t152)).heap[gb153]? = some (.cells #[.int .i64 t151, .int .i64 t152] 26 (0, 0))) := ⟨by (with_reducible repeat (first | refine blk_drewN ?_ _ | refine blk_drew ?_ | refine blk_alloc ?_ _)); refine blk_put (cs := #[.int .i64 t151, .int .i64 0]) ?_ 1 _ rfl; (with_reducible repeat (first | refine blk_drewN ?_ _ | refine blk_drew ?_ | refine blk_alloc ?_ _)); refine blk_put (cs := #[.int .i64 0, .int .i64 0]) ?_ 0 _ rfl; (with_reducible repeat (first | refine blk_drewN ?_ _ | refine blk_drew ?_ | refine blk_alloc ?_ _)); exact BK153.out⟩
  have n3_ : Aside0 (Below w.heap.size w ((w22.setCell ⟨gb153, 0, none⟩ (.int .i64 t151)).setCell ⟨gb153, 1, none⟩ (.int .i64 t152))) := ⟨by repeat (first | (with_reducible first | exact HB.out | apply below_alloc | apply pw_below_drewN | apply below_drew1 | refine below_set ?_ GE147.out | refine below_set ?_ GE153.out) | exact HB.out)⟩
  (try clear HO150)
  (try clear BK147)
  (try clear BK153)
  (try clear HB)
  generalize ((w22.setCell ⟨gb153, 0, none⟩ (.int .i64 t151)).setCell ⟨gb153, 1, none⟩ (.int .i64 t152)) = w25 at n0_ n1_ n2_ n3_ ⊢
  have HO150 := n0_
  have BK147 := n1_
  have BK153 := n2_
  have HB := n3_
  clear n0_ n1_ n2_ n3_
  have n0_ := Aside0.mk (Kd.R_drew HO150.out)
  have n1_ := Aside0.mk (blk_drew BK147.out)
  have n2_ := Aside0.mk (blk_drew BK153.out)
  have n3_ := Aside0.mk (below_drew1 HB.out)
  clear HO150
  clear BK147
  clear BK153
  clear HB
  have HO150 := n0_
  have BK147 := n1_
  have BK153 := n2_
  have HB := n3_
  clear n0_ n1_ n2_ n3_
  refine start_ (n := 3) (S := fun w' => w'.cell? ⟨gb153, 0, none⟩ = some (.int .i64 t151) ∧ w'.cell? ⟨gb153, 1, none⟩ = some (.int .i64 t152)) (ds := []) #[false, false, false] (by kernel_rfl) rfl rfl ⟨(blk_cell BK153.out 0).trans rfl, (blk_cell BK153.out 1).trans rfl⟩ (fun hHeld => ?_)
  generalize w25.drew = w26 at HO150 BK147 BK153 HB hHeld ⊢
  refine pure_ (i := 1) (N := some 2) (v := ?_) (a' := ?_) #[false, true, false] rfl rfl (by kernel_rfl) (fun _ _ _ h => h) (Or.inl ⟨by rfl, ?_⟩) ?_ ?_
  rotate_left
  ·intro w'
   go_simp
   with_reducible rfl
  rotate_left
  ·simp only [Act.put, List.setIfInBounds_toArray, List.set_cons_zero, List.set_cons_succ, i64_w, i32_w]
   rfl
  refine take_ (i := 0) (N := some 13) (v := ?_) (a' := ?_) #[true, true, false] rfl rfl (by kernel_rfl) (fun _ _ _ h => h) (Or.inl ⟨by rfl, ?_⟩) hHeld ?_ ?_
  rotate_left
  ·rintro w' ⟨s0, s1⟩
   go_simp
   with_reducible rfl
  rotate_left
  ·simp only [Act.put, List.setIfInBounds_toArray, List.set_cons_zero, List.set_cons_succ, i64_w, i32_w]
   rfl
  refine one_ (i := 2) (N := none) #[true, true, true] rfl rfl (by kernel_rfl) (by decide) (fun K hK => ?_)
  have hs27 : w26.cell? ⟨gb147, 0, none⟩ = some (.int .i64 0) := (blk_cell BK147.out 0).trans rfl
  have hfs27 := blk_frozen BK147.out 0
  have hns27_1 := NB153_147.out
  have hms27_1 := NB147_153.out
  have hs28 : w26.cell? ⟨gb147, 1, none⟩ = some (.int .i64 0) := (blk_cell BK147.out 1).trans rfl
  have hfs28 := blk_frozen BK147.out 1
  have hns28_1 := NB153_147.out
  have hms28_1 := NB147_153.out
  refine skip_ (w1 := ?_) (by rfl) rfl ?_ ?_
  rotate_left
  ·go_simp
   rfl
  refine hK.out _ _ ⟨((cell_far (p := ⟨gb147, _, none⟩) NB153_147.out _).trans (((cell_far (p := ⟨gb147, _, none⟩) NB153_147.out _).trans (hHeld.1)))), ((cell_far (p := ⟨gb147, _, none⟩) NB153_147.out _).trans (((cell_far (p := ⟨gb147, _, none⟩) NB153_147.out _).trans (hHeld.2))))⟩ (fun hHeld => ?_)
  clear hK K
  refine done_ (by kernel_rfl) ?_
  try go_wp2
  refine bodyPost_ret (results_tc rfl _ _ gb147 26 #[.int .i64 t151, .int .i64 t152] (0, 0) _ rfl (by (with_reducible repeat (first | refine blk_drewN ?_ _ | refine blk_drew ?_ | refine blk_alloc ?_ _)); refine blk_put (cs := #[.int .i64 t151, .int .i64 0]) ?_ 1 _ rfl; (with_reducible repeat (first | refine blk_drewN ?_ _ | refine blk_drew ?_ | refine blk_alloc ?_ _)); refine blk_put (cs := #[.int .i64 0, .int .i64 0]) ?_ 0 _ rfl; (with_reducible repeat (first | refine blk_drewN ?_ _ | refine blk_drew ?_ | refine blk_alloc ?_ _)); exact BK147.out) Try.underlying26 rfl (by kernel_rfl)) rfl ?_
  exact ⟨_, by first | rfl | (simp [errW_none, errW_some] <;> rfl) | (simp [*, errW_none, errW_some] <;> rfl), by first | exact Kd.R_nil _ _ _ _ _ | exact Kd.N_nil _ _ _ _ _ | exact Kd.V_nil _ _ _ _ _ | exact Kd.Q_nil _ _ _ _ _ | exact Kd.S_nil _ _ _ _ _, by repeat (first | (with_reducible first | exact HB.out | apply below_alloc | apply pw_below_drewN | apply below_drew1 | refine below_set ?_ GE147.out | refine below_set ?_ GE153.out) | exact HB.out)⟩

def Keep38 (w w' : World) : Prop := ∀ (k : Nat) (cs : Array Value), w.heap[k]? = some (.cells cs 38 (0, 0)) → w'.heap[k]? = some (.cells cs 38 (0, 0))
theorem Keep38.refl (w : World) : Keep38 w w := fun _ _ h => h
theorem Keep38.trans {a b c : World} (h : Keep38 a b) (k : Keep38 b c) : Keep38 a c := fun i cs hi => k i cs (h i cs hi)
theorem Keep38.below {a b : World} (h : Below a.heap.size a b) : Keep38 a b := fun _ _ hi => blk_below hi h
/-! ### tree.Words: functions 28 (its closure), 27 (walk with it) and 12, by hand -/
theorem tWords.info : (Try.prog.info? 9).map (fun i => (i.zero, i.size, i.bytes)) = some (some (.string ⟨#[]⟩), 1, 16) := by kernel_rfl
def tWords.tell (K : Int) (n : S38) (xs : List ByteArray) : Option (List ByteArray) := if K = 0 then (if xs.length < 8796093022208 then some (xs ++ [n.f1]) else none) else some xs
mutual
def tWords.f : Nat → List S38 → Int → List ByteArray → Option (List ByteArray)
 | 0, _, _, _ => none
 | k + 1, l, d, xs => tWords.l0 k l d xs 0
def tWords.l0 : Nat → List S38 → Int → List ByteArray → Int → Option (List ByteArray)
 | 0, _, _, _, _ => none
 | k + 1, l, d, xs, i => if i < (l.length : Int) then (if 0 ≤ i then (if (rd_T38 l i).f0 = true then ((tWords.tell 1 (rd_T38 l i) xs).bind fun ys => if d = 0 then tWords.l0 k l d ys (wrap64 (i + 1)) else tWords.l1 k l d ys i 0) else ((tWords.tell 0 (rd_T38 l i) xs).bind fun ys => tWords.l0 k l d ys (wrap64 (i + 1)))) else none) else some xs
def tWords.l1 : Nat → List S38 → Int → List ByteArray → Int → Int → Option (List ByteArray)
 | 0, _, _, _, _, _ => none
 | k + 1, l, d, xs, i, j => if j < ((rd_T38 l i).f2.length : Int) then (if 0 ≤ j then ((tWords.tell 2 (rd_T38 l i) xs).bind fun x1 => (tWords.f k (rd_L5 (rd_T38 l i).f2 j) (wrap64 (d - 1)) x1).bind fun x2 => (tWords.tell 3 (rd_T38 l i) x2).bind fun x3 => tWords.l1 k l d x3 i (wrap64 (j + 1))) else none) else tWords.l0 k l d xs (wrap64 (i + 1))
end
theorem tWords.mono_l : ∀ k, (∀ l d xs, LeO (tWords.f k l d xs) (tWords.f (k + 1) l d xs)) ∧ (∀ l d xs i, LeO (tWords.l0 k l d xs i) (tWords.l0 (k + 1) l d xs i)) ∧ (∀ l d xs i j, LeO (tWords.l1 k l d xs i j) (tWords.l1 (k + 1) l d xs i j))
 | 0 => ⟨fun _ _ _ r h => by simp [tWords.f] at h, fun _ _ _ _ r h => by simp [tWords.l0] at h, fun _ _ _ _ _ r h => by simp [tWords.l1] at h⟩
 | k + 1 => by
  obtain ⟨ih0, ih1, ih2⟩ := tWords.mono_l k
  refine ⟨?_, ?_, ?_⟩
  ·intro l d xs
   unfold tWords.f
   exact ih1 _ _ _ _
  ·intro l d xs i
   unfold tWords.l0
   repeat' first | (with_reducible first | exact ih0 _ _ _ | exact ih1 _ _ _ _ | exact ih2 _ _ _ _ _ | exact LeO.refl _ | exact LeO.none _ | refine LeO.ite ?_ ?_ | refine LeO.bind ?_ (fun _ => ?_)) | exact LeO.none _ | refine LeO.ite ?_ ?_ | refine LeO.bind ?_ (fun _ => ?_)
  ·intro l d xs i j
   unfold tWords.l1
   repeat' first | (with_reducible first | exact ih0 _ _ _ | exact ih1 _ _ _ _ | exact ih2 _ _ _ _ _ | exact LeO.refl _ | exact LeO.none _ | refine LeO.ite ?_ ?_ | refine LeO.bind ?_ (fun _ => ?_)) | exact LeO.none _ | refine LeO.ite ?_ ?_ | refine LeO.bind ?_ (fun _ => ?_)
set_option maxHeartbeats 8000000 in
set_option maxRecDepth 100000 in
theorem tWords.clo (w0 w : World) (gb : Nat) (K : Int) (n : S38) (A2 : Option Addr) (c2 : Nat) (v : Value) (xs ys : List ByteArray) (hb : w.heap[gb]? = some (.cells #[v] 34 (0, 0))) (hgb : w0.heap.size ≤ gb) (ho : Kd.R Kd.string 9 w w0.heap.size (fun _ => True) v xs) (hB : Below w0.heap.size w0 w) (h : tWords.tell K n xs = some ys) :
  Calls Try.prog 28 #[.int .i64 K, .agg #[.bool n.f0, .string n.f1, .slice A2 n.f2.length c2, .int .i64 n.f3], .pointer (some ⟨gb, 0, none⟩)] w fun e w' => e = .returned (.tuple #[]) ∧ ∃ v' : Value, w'.heap[gb]? = some (.cells #[v'] 34 (0, 0)) ∧ Kd.R Kd.string 9 w' w0.heap.size (fun _ => True) v' ys ∧ Below w0.heap.size w0 w' ∧ Keep38 w w' := by
 have hu := Try.underlying34
 have hu38 := Try.underlying38
 have hu44 := Try.underlying44
 obtain ⟨A9, k9, e9⟩ := Kd.R_slice ho
 subst e9
 have BK := Aside0.mk hb
 have GE := Aside0.mk hgb
 have HO := Aside0.mk ho
 have HB := Aside0.mk hB
 have H2 := Aside0.mk (show (if K = 0 then (if xs.length < 8796093022208 then some (xs ++ [n.f1]) else none) else some xs) = some ys from h)
 clear hb hgb ho hB h
 go_enter Try.func28, Try.ntmps28
 go_upto_region 1 with ((with_reducible refine gate_dst (N := 4) rfl ?_); refine box_event ?hg (N := 4) ?hd (cs := #[.bool n.f0, .string n.f1, .slice A2 n.f2.length c2, .int .i64 n.f3]) (t := 38) ?hr ?_; (case hd => rfl); (case hg => rfl); (case hr => first | (go_simp; done) | (go_simp; rfl)); intro g4 hg w1 hbox hb; have B4 := Aside0.mk hbox; have nBK := Aside0.mk (blk_below BK.out hb); have nHO := Aside0.mk (Kd.R_below HO.out hb); have nHB := Aside0.mk (below_then HB.out HB.out.size hb); have K1 := Aside0.mk (Keep38.below hb); clear hg hbox hb; clear BK HO HB; have BK := nBK; have HO := nHO; have HB := nHB; clear nBK nHO nHB)
 have H := H2.out
 clear H2
 by_cases z : K = 0
 ·rw [if_pos z] at H
  by_cases lm : xs.length < 8796093022208
  rotate_left
  ·rw [if_neg lm] at H
   exact absurd H (by simp)
  rw [if_pos lm] at H
  obtain rfl := Option.some.inj H
  have LM := Aside0.mk lm
  subst z
  clear H lm
  have hc0 : w1.cell? ⟨gb, 0, none⟩ = some (.slice A9 xs.length k9) := (blk_cell BK.out 0).trans rfl
  have hf0 := blk_frozen BK.out 0
  have h41 : w1.cell? ⟨g4, 1, none⟩ = some (.string n.f1) := (blk_cell B4.out 1).trans rfl
  go_wp2_with ((with_reducible refine gate_builtin (b := .append) (xs := #[.tmp 7, .tmp 10]) rfl ?_); at_builtin; refine Kd.R_append Kd.string (w0 := w0) w0.heap.size rfl (.tmp 7) (.tmp 10) 34 9 (.string ⟨#[]⟩) 16 rfl Try.underlying34 tWords.info rfl (by decide) (by omega) (.slice A9 xs.length k9) xs n.f1 [.string n.f1] (fun _ => True) (fun _ => False) rfl rfl ?aP (fun _ hk => hk.elim) ?aF ?aO ?aB ?aS ?aL ?_; (case aP => exact rfl); (case aF => exact (fun _ _ => trivial)); (case aO => exact HO.out); (case aB => exact HB.out); (case aS => exact HB.out.size); (case aL => have := LM.out; omega); intro v1 w5 ho hb hg hat; have K5 := Aside0.mk (show Keep38 w w5 from fun k cs hk => blk_grown (K1.out k cs hk) hg (Kd.R_ne HO.out (K1.out k cs hk) (by decide))); have BK5 := Aside0.mk (blk_grown BK.out hg (Kd.R_ne HO.out BK.out (by decide))); have HO5 := Aside0.mk ho; have HB5 := Aside0.mk hb; clear ho hb hg hat hc0 hf0; have hd0 : w5.cell? ⟨gb, 0, none⟩ = some (.slice A9 xs.length k9) := (blk_cell BK5.out 0).trans rfl; have hg0 := blk_frozen BK5.out 0; obtain ⟨A5, k5, e5⟩ := Kd.R_slice HO5.out; rw [List.length_append] at e5; subst e5)
  go_end0
  exact ⟨rfl, _, blk_put BK5.out 0 _ rfl, Kd.R_set HO5.out BK5.out (by decide) 0 _, Below.setCell HB5.out GE.out _, fun k cs hk => blk_far (K5.out k cs hk) (p := ⟨gb, 0, none⟩) (blk_ne (K5.out k cs hk) BK5.out (by decide)) _⟩
 ·rw [if_neg z] at H
  obtain rfl := Option.some.inj H
  have zb : (K == 0) = false := beq_eq_false_iff_ne.mpr z
  clear H z
  go_wp2
  go_end0
  exact ⟨rfl, _, BK.out, HO.out, HB.out, K1.out⟩
def tWords.S (k : Nat) : Prop := ∀ (w0 w : World) (gb : Nat) (A : Option Addr) (c : Nat) (l : List S38) (d : Int) (v : Value) (xs ys : List ByteArray), Kd.C k38 w0 A l.length l → l.length ≤ c → w.heap[gb]? = some (.cells #[v] 34 (0, 0)) → w0.heap.size ≤ gb → Kd.R Kd.string 9 w w0.heap.size (fun _ => True) v xs → Below w0.heap.size w0 w → tWords.f k l d xs = some ys →
  Calls Try.prog 27 #[.slice A l.length c, .int .i64 d, .func (.func 28) #[] #[.pointer (some ⟨gb, 0, none⟩)]] w fun e w' => e = .returned (.tuple #[]) ∧ ∃ v' : Value, w'.heap[gb]? = some (.cells #[v'] 34 (0, 0)) ∧ Kd.R Kd.string 9 w' w0.heap.size (fun _ => True) v' ys ∧ Below w0.heap.size w0 w' ∧ Keep38 w w'
set_option maxHeartbeats 8000000 in
set_option maxRecDepth 100000 in
theorem tWords.step (kk : Nat) (ih : ∀ m, m < kk → tWords.S m) : tWords.S kk := by
 intro w0 w gb A c l d v xs ys hr hc hb hgb ho hB h
 have hu := Try.underlying34
 have hu23 := Try.underlying23
 have hu36 := Try.underlying36
 have hu38 := Try.underlying38
 have hu54 := Try.underlying54
 cases kk with
 | zero => exact absurd h (by simp [tWords.f])
 | succ k =>
  have IH := Aside0.mk ih
  have HR := Aside0.mk hr
  have HC := Aside0.mk hc
  have BK := Aside0.mk hb
  have GE := Aside0.mk hgb
  have HO := Aside0.mk ho
  have HB := Aside0.mk hB
  have KP := Aside0.mk (Keep38.refl w)
  have H' := Aside0.mk (show tWords.l0 k l d xs 0 = some ys from h)
  clear hr hc hb hgb ho hB h ih
  go_enter Try.func27, Try.ntmps27
  go_wp2
  go_loopg [12] k (fun kq v12 w' => ∃ (i : Int) (v : Value) (xs : List ByteArray), v12 = .int .i64 i ∧ Aside0 (tWords.l0 kq l d xs i = some ys) ∧ Aside0 (kq ≤ k) ∧ Aside0 (w'.heap[gb]? = some (.cells #[v] 34 (0, 0))) ∧ Aside0 (Kd.R Kd.string 9 w' w0.heap.size (fun _ => True) v xs) ∧ Aside0 (Below w0.heap.size w0 w') ∧ Aside0 (Keep38 w w'))
  case atStart => exact ⟨0, v, xs, rfl, H', ⟨Nat.le_refl _⟩, BK, HO, HB, KP⟩
  case round =>
   clear H' BK HO HB KP v xs
   obtain ⟨i, v, xs, rfl, HA, HK0, BK, HO, HB, KP⟩ := hrel
   cases gk with
   | zero => exact absurd HA.out (by simp [tWords.l0])
   | succ k1 =>
    have H := HA.out
    clear HA
    simp only [tWords.l0] at H
    by_cases c5 : i < (l.length : Int)
    rotate_left
    ·rw [if_neg c5] at H
     obtain rfl := Option.some.inj H
     have c5b := decide_eq_false c5
     replace c5 := eq_false c5
     clear H
     go_wp2
     go_end0
     exact ⟨rfl, v, BK.out, HO.out, HB.out, KP.out⟩
    rw [if_pos c5] at H
    by_cases c6 : 0 ≤ i
    rotate_left
    ·rw [if_neg c6] at H
     exact absurd H (by simp)
    rw [if_pos c6] at H
    obtain ⟨ad, A2, c2, e1, hx0, hx1, hx2, hx3, hl2, hg2⟩ := at_T38 HR.out i c6 c5
    cases e1
    replace hx0 := (HB.out.cell (World.block_lt_of_cell? w0 _ hx0)).trans hx0
    replace hx1 := (HB.out.cell (World.block_lt_of_cell? w0 _ hx1)).trans hx1
    replace hx2 := (HB.out.cell (World.block_lt_of_cell? w0 _ hx2)).trans hx2
    replace hx3 := (HB.out.cell (World.block_lt_of_cell? w0 _ hx3)).trans hx3
    generalize hn : rd_T38 l i = n at H hx0 hx1 hx2 hx3 hl2 hg2
    obtain ⟨f0, f1, f2, f3⟩ := n
    dsimp only at H hx0 hx1 hx2 hx3 hl2 hg2
    have HN := Aside0.mk hn
    have HL2 := Aside0.mk hl2
    have HG2 := Aside0.mk hg2
    have H2 := Aside0.mk H
    clear H hn hl2 hg2
    have c5b := decide_eq_true c5
    replace c6 := eq_true c6
    replace c5 := eq_true c5
    go_upto_region 3 with ((with_reducible refine gate_dst (N := 7) rfl ?_); refine box_event ?hg (N := 7) ?hd (cs := #[.bool false, .string ⟨#[]⟩, .slice none 0 0, .int .i64 0]) (t := 38) ?hr ?_; (case hd => rfl); (case hg => rfl); (case hr => first | (go_simp; done) | (go_simp; rfl)); intro g7 hg w3 hbox hb; have B7 := Aside0.mk hbox; have G7 := Aside0.mk (show w0.heap.size ≤ g7 by rw [hg]; exact HB.out.size); have N7 := Aside0.mk (show ∀ (k : Nat) (cs : Array Value), w.heap[k]? = some (.cells cs 38 (0, 0)) → k ≠ g7 from fun k cs hk => by rw [hg]; exact Nat.ne_of_lt (blk_lt (KP.out k cs hk))); have NB := Aside0.mk (show gb ≠ g7 by rw [hg]; exact Nat.ne_of_lt (blk_lt BK.out)); have nBK := Aside0.mk (blk_below BK.out hb); have nHO := Aside0.mk (Kd.R_below HO.out hb); have nHB := Aside0.mk (below_then HB.out HB.out.size hb); have nKP := Aside0.mk (Keep38.trans KP.out (Keep38.below hb)); replace hx0 := (hb.cell (World.block_lt_of_cell? _ _ hx0)).trans hx0; replace hx1 := (hb.cell (World.block_lt_of_cell? _ _ hx1)).trans hx1; replace hx2 := (hb.cell (World.block_lt_of_cell? _ _ hx2)).trans hx2; replace hx3 := (hb.cell (World.block_lt_of_cell? _ _ hx3)).trans hx3; clear hg hbox hb; clear BK HO HB KP; have BK := nBK; have HO := nHO; have HB := nHB; have KP := nKP; clear nBK nHO nHB nKP; have hz0 : w3.cell? ⟨g7, 0, none⟩ = some (.bool false) := (blk_cell B7.out 0).trans rfl; have hz1 : w3.cell? ⟨g7, 1, none⟩ = some (.string ⟨#[]⟩) := (blk_cell B7.out 1).trans rfl; have hz2 : w3.cell? ⟨g7, 2, none⟩ = some (.slice none 0 0) := (blk_cell B7.out 2).trans rfl; have hz3 : w3.cell? ⟨g7, 3, none⟩ = some (.int .i64 0) := (blk_cell B7.out 3).trans rfl; have hzf0 := blk_frozen B7.out 0; have hzf1 := blk_frozen B7.out 1; have hzf2 := blk_frozen B7.out 2; have hzf3 := blk_frozen B7.out 3)
    obtain ⟨w4, hw_⟩ : ∃ w_, w_ = ((((w3.setCell ⟨g7, 0, none⟩ (.bool f0)).setCell ⟨g7, 1, none⟩ (.string f1)).setCell ⟨g7, 2, none⟩ (.slice A2 f2.length c2)).setCell ⟨g7, 3, none⟩ (.int .i64 f3)) := ⟨_, rfl⟩
    rw [← hw_]
    have nBK := Aside0.mk (show w4.heap[gb]? = some (.cells #[v] 34 (0, 0)) by rw [hw_]; exact blk_far (blk_far (blk_far (blk_far (BK.out) (p := ⟨g7, 0, none⟩) NB.out _) (p := ⟨g7, 1, none⟩) NB.out _) (p := ⟨g7, 2, none⟩) NB.out _) (p := ⟨g7, 3, none⟩) NB.out _)
    have nHO := Aside0.mk (show Kd.R Kd.string 9 w4 w0.heap.size (fun _ => True) v xs by rw [hw_]; exact Kd.R_set (Kd.R_set (Kd.R_set (Kd.R_set (HO.out) (B7.out) (by decide) 0 _) (blk_put (cs := #[.bool false, .string ⟨#[]⟩, .slice none 0 0, .int .i64 0]) (B7.out) 0 _ rfl) (by decide) 1 _) (blk_put (cs := #[.bool f0, .string ⟨#[]⟩, .slice none 0 0, .int .i64 0]) (blk_put (cs := #[.bool false, .string ⟨#[]⟩, .slice none 0 0, .int .i64 0]) (B7.out) 0 _ rfl) 1 _ rfl) (by decide) 2 _) (blk_put (cs := #[.bool f0, .string f1, .slice none 0 0, .int .i64 0]) (blk_put (cs := #[.bool f0, .string ⟨#[]⟩, .slice none 0 0, .int .i64 0]) (blk_put (cs := #[.bool false, .string ⟨#[]⟩, .slice none 0 0, .int .i64 0]) (B7.out) 0 _ rfl) 1 _ rfl) 2 _ rfl) (by decide) 3 _)
    have nHB := Aside0.mk (show Below w0.heap.size w0 w4 by rw [hw_]; exact Below.setCell (Below.setCell (Below.setCell (Below.setCell (HB.out) G7.out _) G7.out _) G7.out _) G7.out _)
    have nKP := Aside0.mk (show Keep38 w w4 from fun k cs hk => by rw [hw_]; exact blk_far (blk_far (blk_far (blk_far (KP.out k cs hk) (p := ⟨g7, 0, none⟩) (N7.out k cs hk) _) (p := ⟨g7, 1, none⟩) (N7.out k cs hk) _) (p := ⟨g7, 2, none⟩) (N7.out k cs hk) _) (p := ⟨g7, 3, none⟩) (N7.out k cs hk) _)
    have nB7 := Aside0.mk (show w4.heap[g7]? = some (.cells #[.bool f0, .string f1, .slice A2 f2.length c2, .int .i64 f3] 38 (0, 0)) by rw [hw_]; exact blk_put (cs := #[.bool f0, .string f1, .slice A2 f2.length c2, .int .i64 0]) (blk_put (cs := #[.bool f0, .string f1, .slice none 0 0, .int .i64 0]) (blk_put (cs := #[.bool f0, .string ⟨#[]⟩, .slice none 0 0, .int .i64 0]) (blk_put (cs := #[.bool false, .string ⟨#[]⟩, .slice none 0 0, .int .i64 0]) (B7.out) 0 _ rfl) 1 _ rfl) 2 _ rfl) 3 _ rfl)
    clear hw_ hx0 hx1 hx2 hx3 hz0 hzf0 hz1 hzf1 hz2 hzf2 hz3 hzf3
    clear BK HO HB KP B7
    have BK := nBK
    have HO := nHO
    have HB := nHB
    have KP := nKP
    have B7 := nB7
    clear nBK nHO nHB nKP nB7
    have H := H2.out
    clear H2
    cases f0 with
    | false =>
     rw [if_neg (by decide)] at H
     obtain ⟨y1, ht, H⟩ := Option.bind_eq_some_iff.mp H
     have HT := Aside0.mk ht
     have H' := Aside0.mk H
     clear ht H
     have h70 : w4.cell? ⟨g7, 0, none⟩ = some (.bool false) := (blk_cell B7.out 0).trans rfl
     have h71 : w4.cell? ⟨g7, 1, none⟩ = some (.string f1) := (blk_cell B7.out 1).trans rfl
     have h72 : w4.cell? ⟨g7, 2, none⟩ = some (.slice A2 f2.length c2) := (blk_cell B7.out 2).trans rfl
     have h73 : w4.cell? ⟨g7, 3, none⟩ = some (.int .i64 f3) := (blk_cell B7.out 3).trans rfl
     go_wp2_with (go_at_call 28; refine (tWords.clo w0 _ gb 0 (⟨false, f1, f2, f3⟩ : S38) A2 c2 v xs y1 BK.out GE.out HO.out HB.out HT.out).mono ?_; rintro e w5 ⟨rfl, v', hb, ho, hB, hk⟩; have nBK := Aside0.mk hb; have nHO := Aside0.mk ho; have nHB := Aside0.mk hB; have nKP := Aside0.mk (Keep38.trans KP.out hk); have nB7 := Aside0.mk (hk _ _ B7.out); clear hb ho hB hk; clear BK HO HB KP B7; have BK := nBK; have HO := nHO; have HB := nHB; have KP := nKP; have B7 := nB7; clear nBK nHO nHB nKP nB7; clear h70 h71 h72 h73)
     go_roundg k1
     case measure => omega
     case rel => exact ⟨_, _, y1, rfl, H', ⟨by have := HK0.out; omega⟩, BK, HO, HB, KP⟩
    | true =>
     rw [if_pos rfl] at H
     obtain ⟨y1, ht, H⟩ := Option.bind_eq_some_iff.mp H
     have HT := Aside0.mk ht
     have H2 := Aside0.mk H
     clear ht H
     have h70 : w4.cell? ⟨g7, 0, none⟩ = some (.bool true) := (blk_cell B7.out 0).trans rfl
     have h71 : w4.cell? ⟨g7, 1, none⟩ = some (.string f1) := (blk_cell B7.out 1).trans rfl
     have h72 : w4.cell? ⟨g7, 2, none⟩ = some (.slice A2 f2.length c2) := (blk_cell B7.out 2).trans rfl
     have h73 : w4.cell? ⟨g7, 3, none⟩ = some (.int .i64 f3) := (blk_cell B7.out 3).trans rfl
     go_upto_region 6 with (go_at_call 28; refine (tWords.clo w0 _ gb 1 (⟨true, f1, f2, f3⟩ : S38) A2 c2 v xs y1 BK.out GE.out HO.out HB.out HT.out).mono ?_; rintro e w5 ⟨rfl, v', hb, ho, hB, hk⟩; have nBK := Aside0.mk hb; have nHO := Aside0.mk ho; have nHB := Aside0.mk hB; have nKP := Aside0.mk (Keep38.trans KP.out hk); have nB7 := Aside0.mk (hk _ _ B7.out); clear hb ho hB hk; clear BK HO HB KP B7; have BK := nBK; have HO := nHO; have HB := nHB; have KP := nKP; have B7 := nB7; clear nBK nHO nHB nKP nB7; clear h70 h71 h72 h73)
     have H := H2.out
     clear H2
     by_cases z : d = 0
     ·rw [if_pos z] at H
      have zb : (d == 0) = true := beq_iff_eq.mpr z
      have H' := Aside0.mk H
      clear H z
      go_wp2
      go_roundg k1
      case measure => omega
      case rel => exact ⟨_, _, y1, rfl, H', ⟨by have := HK0.out; omega⟩, BK, HO, HB, KP⟩
     rw [if_neg z] at H
     have zb : (d == 0) = false := beq_eq_false_iff_ne.mpr z
     have H' := Aside0.mk H
     clear H z
     have h70 : w5.cell? ⟨g7, 0, none⟩ = some (.bool true) := (blk_cell B7.out 0).trans rfl
     have h71 : w5.cell? ⟨g7, 1, none⟩ = some (.string f1) := (blk_cell B7.out 1).trans rfl
     have h72 : w5.cell? ⟨g7, 2, none⟩ = some (.slice A2 f2.length c2) := (blk_cell B7.out 2).trans rfl
     have h73 : w5.cell? ⟨g7, 3, none⟩ = some (.int .i64 f3) := (blk_cell B7.out 3).trans rfl
     go_wp2
     clear zb
     clear h70 h71 h72 h73
     go_loopg [30] k1 (fun kq v30 w' => ∃ (j : Int) (v : Value) (xs : List ByteArray), v30 = .int .i64 j ∧ Aside0 (tWords.l1 kq l d xs i j = some ys) ∧ Aside0 (kq ≤ k1) ∧ Aside0 (w'.heap[gb]? = some (.cells #[v] 34 (0, 0))) ∧ Aside0 (Kd.R Kd.string 9 w' w0.heap.size (fun _ => True) v xs) ∧ Aside0 (Below w0.heap.size w0 w') ∧ Aside0 (Keep38 w w') ∧ Aside0 (w'.heap[g7]? = some (.cells #[.bool true, .string f1, .slice A2 f2.length c2, .int .i64 f3] 38 (0, 0))))
     case atStart => exact ⟨0, _, y1, rfl, H', ⟨Nat.le_refl _⟩, BK, HO, HB, KP, B7⟩
     case round =>
      clear H' BK HO HB KP B7 HT
      obtain ⟨j, v2, x0, rfl, HA, HK1, BK, HO, HB, KP, B7⟩ := hrel
      cases gk with
      | zero => exact absurd HA.out (by simp [tWords.l1])
      | succ k2 =>
       have H := HA.out
       clear HA
       simp only [tWords.l1, HN.out] at H
       by_cases d5 : j < (f2.length : Int)
       rotate_left
       ·rw [if_neg d5] at H
        have H' := Aside0.mk H
        have d5b := decide_eq_false d5
        replace d5 := eq_false d5
        clear H
        go_wp2
        go_roundg k2
        case measure => (have := HK1.out; omega)
        case rel => exact ⟨_, v2, x0, rfl, H', ⟨by have := HK0.out; have := HK1.out; omega⟩, BK, HO, HB, KP⟩
       rw [if_pos d5] at H
       by_cases d6 : 0 ≤ j
       rotate_left
       ·rw [if_neg d6] at H
        exact absurd H (by simp)
       rw [if_pos d6] at H
       obtain ⟨x1, ht1, H⟩ := Option.bind_eq_some_iff.mp H
       obtain ⟨x2, hw2, H⟩ := Option.bind_eq_some_iff.mp H
       obtain ⟨x3, ht3, H⟩ := Option.bind_eq_some_iff.mp H
       have HT1 := Aside0.mk ht1
       have HW2 := Aside0.mk hw2
       have HT3 := Aside0.mk ht3
       have H' := Aside0.mk H
       clear ht1 hw2 ht3 H
       obtain ⟨ad2, A3, c3, e2, hy0, hl3, hg3⟩ := at_L5 HG2.out j d6 d5
       cases e2
       replace hy0 := (HB.out.cell (World.block_lt_of_cell? w0 _ hy0)).trans hy0
       have HL3 := Aside0.mk hl3
       have HG3 := Aside0.mk hg3
       clear hl3 hg3
       have d5b := decide_eq_true d5
       replace d6 := eq_true d6
       replace d5 := eq_true d5
       have h70 : wr.cell? ⟨g7, 0, none⟩ = some (.bool true) := (blk_cell B7.out 0).trans rfl
       have h71 : wr.cell? ⟨g7, 1, none⟩ = some (.string f1) := (blk_cell B7.out 1).trans rfl
       have h72 : wr.cell? ⟨g7, 2, none⟩ = some (.slice (some ad2) f2.length c2) := (blk_cell B7.out 2).trans rfl
       have h73 : wr.cell? ⟨g7, 3, none⟩ = some (.int .i64 f3) := (blk_cell B7.out 3).trans rfl
       go_upto_region 11 with (go_at_call 28; refine (tWords.clo w0 _ gb 2 (⟨true, f1, f2, f3⟩ : S38) (some ad2) c2 _ x0 x1 BK.out GE.out HO.out HB.out HT1.out).mono ?_; rintro e w6 ⟨rfl, v', hb, ho, hB, hk⟩; have nBK := Aside0.mk hb; have nHO := Aside0.mk ho; have nHB := Aside0.mk hB; have nKP := Aside0.mk (Keep38.trans KP.out hk); have nB7 := Aside0.mk (hk _ _ B7.out); clear hb ho hB hk; clear BK HO HB KP B7; have BK := nBK; have HO := nHO; have HB := nHB; have KP := nKP; have B7 := nB7; clear nBK nHO nHB nKP nB7; clear h70 h71 h72 h73)
       go_upto_region 12 with (go_at_call 27; refine (IH.out k2 (by have := HK0.out; have := HK1.out; omega) w0 _ gb A3 c3 (rd_L5 f2 j) (wrap64 (d - 1)) _ x1 x2 HG3.out HL3.out BK.out GE.out HO.out HB.out HW2.out).mono ?_; rintro e w7 ⟨rfl, v4, hb, ho, hB, hk⟩; have nBK := Aside0.mk hb; have nHO := Aside0.mk ho; have nHB := Aside0.mk hB; have nKP := Aside0.mk (Keep38.trans KP.out hk); have nB7 := Aside0.mk (hk _ _ B7.out); clear hb ho hB hk; clear BK HO HB KP B7; have BK := nBK; have HO := nHO; have HB := nHB; have KP := nKP; have B7 := nB7; clear nBK nHO nHB nKP nB7)
       have h70 : w7.cell? ⟨g7, 0, none⟩ = some (.bool true) := (blk_cell B7.out 0).trans rfl
       have h71 : w7.cell? ⟨g7, 1, none⟩ = some (.string f1) := (blk_cell B7.out 1).trans rfl
       have h72 : w7.cell? ⟨g7, 2, none⟩ = some (.slice (some ad2) f2.length c2) := (blk_cell B7.out 2).trans rfl
       have h73 : w7.cell? ⟨g7, 3, none⟩ = some (.int .i64 f3) := (blk_cell B7.out 3).trans rfl
       go_wp2_with (go_at_call 28; refine (tWords.clo w0 _ gb 3 (⟨true, f1, f2, f3⟩ : S38) (some ad2) c2 _ x2 x3 BK.out GE.out HO.out HB.out HT3.out).mono ?_; rintro e w8 ⟨rfl, v', hb, ho, hB, hk⟩; have nBK := Aside0.mk hb; have nHO := Aside0.mk ho; have nHB := Aside0.mk hB; have nKP := Aside0.mk (Keep38.trans KP.out hk); have nB7 := Aside0.mk (hk _ _ B7.out); clear hb ho hB hk; clear BK HO HB KP B7; have BK := nBK; have HO := nHO; have HB := nHB; have KP := nKP; have B7 := nB7; clear nBK nHO nHB nKP nB7; clear h70 h71 h72 h73)
       go_roundg k2
       case measure => omega
       case rel => exact ⟨_, _, x3, rfl, H', ⟨by have := HK1.out; omega⟩, BK, HO, HB, KP, B7⟩
theorem tWords.walk : ∀ k, tWords.S k := by
 intro k
 induction k using Nat.strongRecOn with
 | _ k ih => exact tWords.step k ih
/-! tree.Words -/
def tree_Words.f (k : Nat) (l0 : List (S38)) : Option (List ByteArray) := tWords.f k l0 100 []
theorem tree_Words.mono : ∀ a0 k, LeO (tree_Words.f k a0) (tree_Words.f (k + 1) a0) := fun a0 k => (tWords.mono_l k).1 _ _ _
set_option maxHeartbeats 8000000 in
set_option maxRecDepth 100000 in
theorem tree_Words.calls (k : Nat) (A0 : Option Addr) (c0 : Nat) (l0 : List (S38)) (r : List ByteArray) (w : World) (hr0 : Kd.C k38 w A0 l0.length l0) (hc0 : l0.length ≤ c0) (h : tree_Words.f k l0 = some r) :
  Calls Try.prog 12 #[.slice A0 l0.length c0] w fun e w' => ∃ v0_ : Value, e = .returned v0_ ∧ Kd.R Kd.string 9 w' w.heap.size (fun _ => True) v0_ r ∧ Below w.heap.size w w' := by
 have hu := Try.underlying34
 have hu23 := Try.underlying23
 have hu54 := Try.underlying54
 have hmf : ∀ (fn : Fn) (first cap : Array Value) (w : World), (Instr.makeFunc fn first cap).run Try.prog w = .ok (.func fn first cap) w := fun _ _ _ _ => rfl
 have HR0 := Aside0.mk hr0
 have HC0 := Aside0.mk hc0
 have H2 := Aside0.mk (show tWords.f k l0 100 [] = some r from h)
 clear hr0 hc0 h
 go_enter Try.func12, Try.ntmps12
 go_wp2_with (first | ((with_reducible refine gate_dst (N := 3) rfl ?_); refine box_event ?hg (N := 3) ?hd (cs := #[.slice none 0 0]) (t := 34) ?hr ?_; (case hd => rfl); (case hg => rfl); (case hr => first | (go_simp; done) | (go_simp; rfl)); intro gb hg w1 hbox hb; have BK := Aside0.mk hbox; have HB := Aside0.mk hb; have GE := Aside0.mk (show w.heap.size ≤ gb by rw [hg]; exact Nat.le_refl _); clear hg hbox hb) | (go_at_call 27; refine (tWords.walk k w _ gb A0 c0 l0 100 _ [] r HR0.out HC0.out BK.out GE.out ⟨fun k hk => by simp [Value.ownBlock] at hk, OwnRow.none_ _ _ _ _ _⟩ HB.out H2.out).mono ?_; rintro e w2 ⟨rfl, v2, hb, ho, hB, hk⟩; have nBK := Aside0.mk hb; have HO := Aside0.mk ho; have nHB := Aside0.mk hB; clear hb ho hB hk BK HB; have BK := nBK; have HB := nHB; clear nBK nHB; have hc0 : w2.cell? ⟨gb, 0, none⟩ = some v2 := (blk_cell BK.out 0).trans rfl))
 refine bodyPost_ret (results_tmp rfl _ _ _) rfl ?_
 exact ⟨_, rfl, HO.out, HB.out⟩

/-! ### tree_depth: function 29 -/
mutual
def tree_depth.l0 : Nat → Int → Int → List (S38) → Int → Int → Option (Int)
 | 0, _, _, _, _, _ => none
 | k + 1, x1, x5, x10, x11, x12 => if x12 < x11 then (if 0 ≤ x12 then (if x12 < (x10.length : Int) then (tree_depth.l1 k x1 x5 x10 x11 x12 ((rd_T38 x10 x12).f2) (((rd_T38 x10 x12).f2).length : Int) 0) else (none)) else (none)) else (some x5)
def tree_depth.l1 : Nat → Int → Int → List (S38) → Int → Int → List (List (S38)) → Int → Int → Option (Int)
 | 0, _, _, _, _, _, _, _, _ => none
 | k + 1, x1, x5, x10, x11, x12, x17, x18, x19 => if x19 < x18 then (if 0 ≤ x19 then (if x19 < (x17.length : Int) then (if x1 > 0 then ((tree_depth.f k (rd_L5 x17 x19) (wrap64 (x1 - 1))).bind fun t160 => (tree_depth.l1 k x1 (mx x5 (wrap64 (1 + t160))) x10 x11 x12 x17 x18 (wrap64 (x19 + 1)))) else (tree_depth.l1 k x1 x5 x10 x11 x12 x17 x18 (wrap64 (x19 + 1)))) else (none)) else (none)) else (tree_depth.l0 k x1 x5 x10 x11 (wrap64 (x12 + 1)))
def tree_depth.f : Nat → List (S38) → Int → Option (Int)
 | 0, _, _ => none
 | k + 1, l0, a1 => tree_depth.l0 k a1 0 l0 (l0.length : Int) 0
end
theorem tree_depth.mono_l : ∀ k, (∀ y0 y1, LeO (tree_depth.f k y0 y1) (tree_depth.f (k + 1) y0 y1)) ∧ (∀ y0 y1 y2 y3 y4, LeO (tree_depth.l0 k y0 y1 y2 y3 y4) (tree_depth.l0 (k + 1) y0 y1 y2 y3 y4)) ∧ (∀ y0 y1 y2 y3 y4 y5 y6 y7, LeO (tree_depth.l1 k y0 y1 y2 y3 y4 y5 y6 y7) (tree_depth.l1 (k + 1) y0 y1 y2 y3 y4 y5 y6 y7))
 | 0 => ⟨fun _ _ r h => by simp [tree_depth.f] at h, fun _ _ _ _ _ r h => by simp [tree_depth.l0] at h, fun _ _ _ _ _ _ _ _ r h => by simp [tree_depth.l1] at h⟩
 | k + 1 => by
  obtain ⟨ih0, ih1, ih2⟩ := tree_depth.mono_l k
  refine ⟨?_, ?_, ?_⟩
  ·intro y0 y1
   unfold tree_depth.f
   repeat' first
   | (with_reducible exact ih0 _ _)
   | (with_reducible exact ih1 _ _ _ _ _)
   | (with_reducible exact ih2 _ _ _ _ _ _ _ _)
   | (with_reducible exact LeO.refl _)
   | (with_reducible exact LeO.none _)
   | (with_reducible refine LeO.ite ?_ ?_)
   | (with_reducible refine LeO.bind ?_ (fun _ => ?_))
   | exact ih0 _ _
   | exact ih1 _ _ _ _ _
   | exact ih2 _ _ _ _ _ _ _ _
   | exact LeO.none _
   | refine LeO.ite ?_ ?_
   | refine LeO.bind ?_ (fun _ => ?_)
  ·intro y0 y1 y2 y3 y4
   unfold tree_depth.l0
   repeat' first
   | (with_reducible exact ih0 _ _)
   | (with_reducible exact ih1 _ _ _ _ _)
   | (with_reducible exact ih2 _ _ _ _ _ _ _ _)
   | (with_reducible exact LeO.refl _)
   | (with_reducible exact LeO.none _)
   | (with_reducible refine LeO.ite ?_ ?_)
   | (with_reducible refine LeO.bind ?_ (fun _ => ?_))
   | exact ih0 _ _
   | exact ih1 _ _ _ _ _
   | exact ih2 _ _ _ _ _ _ _ _
   | exact LeO.none _
   | refine LeO.ite ?_ ?_
   | refine LeO.bind ?_ (fun _ => ?_)
  ·intro y0 y1 y2 y3 y4 y5 y6 y7
   unfold tree_depth.l1
   repeat' first
   | (with_reducible exact ih0 _ _)
   | (with_reducible exact ih1 _ _ _ _ _)
   | (with_reducible exact ih2 _ _ _ _ _ _ _ _)
   | (with_reducible exact LeO.refl _)
   | (with_reducible exact LeO.none _)
   | (with_reducible refine LeO.ite ?_ ?_)
   | (with_reducible refine LeO.bind ?_ (fun _ => ?_))
   | exact ih0 _ _
   | exact ih1 _ _ _ _ _
   | exact ih2 _ _ _ _ _ _ _ _
   | exact LeO.none _
   | refine LeO.ite ?_ ?_
   | refine LeO.bind ?_ (fun _ => ?_)
theorem tree_depth.mono : ∀ a0 a1 k, LeO (tree_depth.f k a0 a1) (tree_depth.f (k + 1) a0 a1) := by
 intro a0 a1 k
 obtain ⟨ih0, ih1, ih2⟩ := tree_depth.mono_l k
 exact ih0 a0 a1
set_option maxHeartbeats 8000000 in
set_option maxRecDepth 100000 in
theorem tree_depth.calls (k : Nat) : ∀ (A0 : Option Addr) (c0 : Nat) (l0 : List (S38)) (a1 : Int) (r : Int) (w : World) (hr0 : Kd.C k38 w A0 l0.length l0) (hc0 : l0.length ≤ c0) (h : tree_depth.f k l0 a1 = some r),
  Calls Try.prog 29 #[.slice A0 l0.length c0, .int .i64 a1] w fun e w' => e = .returned (.int .i64 r) ∧ Below w.heap.size w w' := by
 induction k using Nat.strongRecOn with
 | _ k ih =>
 intro A0 c0 l0 a1 r w hr0 hc0 h
 cases k with
 | zero => exact absurd h (by simp [tree_depth.f])
 | succ k =>
 simp only [tree_depth.f] at h
 have hu38 := Try.underlying38
 have HR0 := Aside0.mk hr0
 have HC0 := Aside0.mk hc0
 clear hr0 hc0
 have HB := Aside0.mk (Below.refl w.heap.size w)
 have H : (tree_depth.l0 k a1 0 l0 (l0.length : Int) 0) = some r := h
 clear h
 have H' := Aside0.mk H
 clear H
 go_enter Try.func29, Try.ntmps29
 go_wp2
 go_loopg [5, 12] k (fun kq v5 v12 w' => ∃ (x5_1 : Int) (x12_1 : Int), v5 = .int .i64 x5_1 ∧ v12 = .int .i64 x12_1 ∧ Aside0 (tree_depth.l0 kq a1 x5_1 l0 (l0.length : Int) x12_1 = some r) ∧ Aside0 (kq ≤ k) ∧ Aside0 (Below w.heap.size w w'))
 case atStart => exact ⟨(0), (0), (by first | rfl | (simp; done) | (simp [*]; done)), (by first | rfl | (simp; done) | (simp [*]; done)), H', ⟨Nat.le_refl _⟩, ⟨by repeat (first | (with_reducible first | exact HB.out | apply below_alloc | apply pw_below_drewN | apply below_drew1) | exact HB.out)⟩⟩
 case round =>
  clear H'
  try clear c2
  try clear p2
  obtain ⟨x5_1, x12_1, rfl, rfl, HA, HK1, HB⟩ := hrel
  cases gk with
  | zero => exact absurd HA.out (by simp [tree_depth.l0])
  | succ k1 =>
   have H := HA.out
   clear HA
   simp only [tree_depth.l0] at H
   by_cases c3 : x12_1 < (l0.length : Int)
   ·rw [if_pos c3] at H
    have c3b0 : decide (x12_1 < (l0.length : Int)) = true := decide_eq_true c3
    clear c3
    by_cases c4 : 0 ≤ x12_1
    ·rw [if_pos c4] at H
     have c4b0 : decide (0 ≤ x12_1) = true := decide_eq_true c4
     clear c4
     by_cases c5 : x12_1 < (l0.length : Int)
     ·rw [if_pos c5] at H
      have c5b0 : decide (x12_1 < (l0.length : Int)) = true := decide_eq_true c5
      clear c5
      have H' := Aside0.mk H
      clear H
      have p157 : 0 ≤ (x12_1 : Int) := of_decide_eq_true (by first | (with_reducible assumption) | assumption)
      have q157 : x12_1 < (l0.length : Int) := of_decide_eq_true (by first | (with_reducible assumption) | assumption)
      obtain ⟨ad157, A157_2, c157_2, e157, hx157_0, hx157_1, hx157_2, hx157_3, hl157_2, hi157_2⟩ := at_T38 HR0.out x12_1 p157 q157
      cases e157
      replace hx157_0 := (HB.out.cell (World.block_lt_of_cell? w _ hx157_0)).trans hx157_0
      replace hx157_1 := (HB.out.cell (World.block_lt_of_cell? w _ hx157_1)).trans hx157_1
      replace hx157_2 := (HB.out.cell (World.block_lt_of_cell? w _ hx157_2)).trans hx157_2
      replace hx157_3 := (HB.out.cell (World.block_lt_of_cell? w _ hx157_3)).trans hx157_3
      have HR157_2 := Aside0.mk hi157_2
      have HC157_2 := Aside0.mk hl157_2
      clear hi157_2 hl157_2
      replace p157 := eq_true p157
      replace q157 := eq_true q157
      go_wp2_with (first | ((with_reducible refine gate_dst (N := 7) rfl ?_); refine box_event ?hg (N := 7) ?hd (cs := #[.bool false, .string (⟨#[]⟩ : ByteArray), .slice none 0 0, .int .i64 0]) (t := 38) ?hr ?_; (case hd => rfl); (case hg => rfl); (case hr => first | (go_simp; done) | (go_simp; rfl)); intro gb158 hg w6 hbox hb; have n0_ := Aside0.mk (below_step (by repeat (first | (with_reducible first | exact HB.out | apply below_alloc | apply pw_below_drewN | apply below_drew1) | exact HB.out)) hb); have n1_ := Aside0.mk (hbox); have n2_ := Aside0.mk ((by rw [hg]; exact (below_size (by repeat (first | (with_reducible first | exact HB.out | apply below_alloc | apply pw_below_drewN | apply below_drew1) | exact HB.out))) : w.heap.size ≤ gb158)); have n3_ := Aside0.mk ((by rw [hg]; exact (below_size (by repeat (first | (with_reducible first | exact HB.out | apply below_alloc | apply pw_below_drewN | apply below_drew1) | exact HB.out))) : w.heap.size ≤ gb158)); clear HB; have HB := n0_; have BK158 := n1_; have GW158 := n2_; have GE158 := n3_; clear n0_ n1_ n2_ n3_; clear hb hbox hg; have hcz7_0 : w6.cell? ⟨gb158, 0, none⟩ = some (.bool false) := (blk_cell BK158.out 0).trans rfl; have hcz7_1 : w6.cell? ⟨gb158, 1, none⟩ = some (.string (⟨#[]⟩ : ByteArray)) := (blk_cell BK158.out 1).trans rfl; have hcz7_2 : w6.cell? ⟨gb158, 2, none⟩ = some (.slice none 0 0) := (blk_cell BK158.out 2).trans rfl; have hcz7_3 : w6.cell? ⟨gb158, 3, none⟩ = some (.int .i64 0) := (blk_cell BK158.out 3).trans rfl; have hfz7_0 := blk_frozen BK158.out 0; have hfz7_1 := blk_frozen BK158.out 1; have hfz7_2 := blk_frozen BK158.out 2; have hfz7_3 := blk_frozen BK158.out 3))
      go_loopg [5, 19] k1 (fun kq v5 v19 w' => ∃ (x5_2 : Int) (x19_2 : Int), v5 = .int .i64 x5_2 ∧ v19 = .int .i64 x19_2 ∧ Aside0 (tree_depth.l1 kq a1 x5_2 l0 (l0.length : Int) x12_1 ((rd_T38 l0 x12_1).f2) (((rd_T38 l0 x12_1).f2).length : Int) x19_2 = some r) ∧ Aside0 (kq ≤ k1) ∧ Aside0 (w'.heap[gb158]? = some (.cells #[.bool ((rd_T38 l0 x12_1).f0), .string ((rd_T38 l0 x12_1).f1), (.slice A157_2 ((rd_T38 l0 x12_1).f2).length c157_2), .int .i64 ((rd_T38 l0 x12_1).f3)] 38 (0, 0))) ∧ Aside0 (Below w.heap.size w w'))
      case atStart => exact ⟨(x5_1), (0), (by first | rfl | (simp; done) | (simp [*]; done)), (by first | rfl | (simp; done) | (simp [*]; done)), H', ⟨Nat.le_refl _⟩, ⟨by (with_reducible repeat (first | refine blk_drewN ?_ _ | refine blk_drew ?_ | refine blk_alloc ?_ _)); refine blk_put (cs := #[.bool ((rd_T38 l0 x12_1).f0), .string ((rd_T38 l0 x12_1).f1), .slice A157_2 ((rd_T38 l0 x12_1).f2).length c157_2, .int .i64 0]) ?_ 3 _ rfl; (with_reducible repeat (first | refine blk_drewN ?_ _ | refine blk_drew ?_ | refine blk_alloc ?_ _)); refine blk_put (cs := #[.bool ((rd_T38 l0 x12_1).f0), .string ((rd_T38 l0 x12_1).f1), .slice none 0 0, .int .i64 0]) ?_ 2 _ rfl; (with_reducible repeat (first | refine blk_drewN ?_ _ | refine blk_drew ?_ | refine blk_alloc ?_ _)); refine blk_put (cs := #[.bool ((rd_T38 l0 x12_1).f0), .string (⟨#[]⟩ : ByteArray), .slice none 0 0, .int .i64 0]) ?_ 1 _ rfl; (with_reducible repeat (first | refine blk_drewN ?_ _ | refine blk_drew ?_ | refine blk_alloc ?_ _)); refine blk_put (cs := #[.bool false, .string (⟨#[]⟩ : ByteArray), .slice none 0 0, .int .i64 0]) ?_ 0 _ rfl; (with_reducible repeat (first | refine blk_drewN ?_ _ | refine blk_drew ?_ | refine blk_alloc ?_ _)); exact BK158.out⟩, ⟨by repeat (first | (with_reducible first | exact HB.out | apply below_alloc | apply pw_below_drewN | apply below_drew1 | refine below_set ?_ GE158.out) | exact HB.out)⟩⟩
      case round =>
       clear H'
       try clear c1
       try clear p1
       try clear q1
       try clear hx1
       try clear c2
       try clear p2
       try clear c3
       try clear c3b0
       try clear c4
       try clear c4b0
       try clear c5
       try clear c5b0
       try clear hcz7_0
       try clear hcz7_1
       try clear hcz7_2
       try clear hcz7_3
       try clear hfz7_0
       try clear hfz7_1
       try clear hfz7_2
       try clear hfz7_3
       try clear hx157_0
       try clear hx157_1
       try clear hx157_2
       try clear hx157_3
       try clear p157
       try clear p2
       try clear q157
       obtain ⟨x5_2, x19_2, rfl, rfl, HA, HK2, BK158, HB⟩ := hrel
       cases gk with
       | zero => exact absurd HA.out (by simp [tree_depth.l1])
       | succ k2 =>
        have H := HA.out
        clear HA
        simp only [tree_depth.l1] at H
        by_cases c8 : x19_2 < (((rd_T38 l0 x12_1).f2).length : Int)
        ·rw [if_pos c8] at H
         have c8b0 : decide (x19_2 < (((rd_T38 l0 x12_1).f2).length : Int)) = true := decide_eq_true c8
         clear c8
         by_cases c9 : 0 ≤ x19_2
         ·rw [if_pos c9] at H
          have c9b0 : decide (0 ≤ x19_2) = true := decide_eq_true c9
          clear c9
          by_cases c10 : x19_2 < (((rd_T38 l0 x12_1).f2).length : Int)
          ·rw [if_pos c10] at H
           have c10b0 : decide (x19_2 < (((rd_T38 l0 x12_1).f2).length : Int)) = true := decide_eq_true c10
           clear c10
           by_cases c11 : a1 > 0
           ·rw [if_pos c11] at H
            have c11b0 : decide (0 < a1) = true := decide_eq_true c11
            clear c11
            replace H := Option.bind_eq_some_iff.mp H
            obtain ⟨t160, A120, H⟩ := H
            replace H : (tree_depth.l1 k2 a1 (mx x5_2 (wrap64 (1 + t160))) l0 (l0.length : Int) x12_1 ((rd_T38 l0 x12_1).f2) (((rd_T38 l0 x12_1).f2).length : Int) (wrap64 (x19_2 + 1))) = some r := H
            have A12 := Aside0.mk A120
            clear A120
            obtain ⟨ji13, hji13⟩ : ∃ j_ : Int, (mx x5_2 (wrap64 (1 + t160))) = j_ := ⟨_, rfl⟩
            replace H : (tree_depth.l1 k2 a1 ji13 l0 (l0.length : Int) x12_1 ((rd_T38 l0 x12_1).f2) (((rd_T38 l0 x12_1).f2).length : Int) (wrap64 (x19_2 + 1))) = some r := by first | (rw [hji13] at H; exact H) | (simp only [hji13] at H ⊢; exact H)
            (try rw [hji13] at A12)
            have hji13_ : (if x5_2 < (wrap64 (1 + t160)) then (wrap64 (1 + t160)) else x5_2) = ji13 := hji13
            have H' := Aside0.mk H
            clear H
            have p159 : 0 ≤ (x19_2 : Int) := of_decide_eq_true (by first | (with_reducible assumption) | assumption)
            have q159 : x19_2 < (((rd_T38 l0 x12_1).f2).length : Int) := of_decide_eq_true (by first | (with_reducible assumption) | assumption)
            obtain ⟨ad159, A159_0, c159_0, e159, hx159_0, hl159_0, hi159_0⟩ := at_L5 HR157_2.out x19_2 p159 q159
            cases e159
            replace hx159_0 := (HB.out.cell (World.block_lt_of_cell? w _ hx159_0)).trans hx159_0
            have HR159_0 := Aside0.mk hi159_0
            have HC159_0 := Aside0.mk hl159_0
            clear hi159_0 hl159_0
            replace p159 := eq_true p159
            replace q159 := eq_true q159
            go_wp2_with (first | ((with_reducible refine gate_callee (f := 29) rfl ?_); refine goesL_ (some 29) rfl rfl Try.func29 (by kernel_rfl) rfl #[.slice A159_0 (rd_L5 ((rd_T38 l0 x12_1).f2) x19_2).length c159_0, .int .i64 (wrap64 (a1 - 1))] rfl (by (try simp only [List.map_toArray, List.map_cons, List.map_nil]); first | done | rfl | (simp only [List.length_drop, List.length_take]; rfl)) ?_; (with_reducible refine (ih k2 (by have := HK1.out; have := HK2.out; omega) _ _ (rd_L5 ((rd_T38 l0 x12_1).f2) x19_2) (wrap64 (a1 - 1)) t160 _ ?side1 ?side2 A12.out).mono ?_); (case side1 => repeat (first | exact (Kd.C_below HR159_0.out HB.out) | (with_reducible refine Kd.C_alloc ?_ _) | (with_reducible refine Kd.C_drewN ?_ _) | (with_reducible refine Kd.C_drew ?_))); (case side2 => exact HC159_0.out); rintro e w14 ⟨rfl, hb⟩; refine ⟨_, rfl, ?_⟩; have n0_ := Aside0.mk (blk_below (g := gb158) (o := .cells #[.bool ((rd_T38 l0 x12_1).f0), .string ((rd_T38 l0 x12_1).f1), .slice (some ad159) ((rd_T38 l0 x12_1).f2).length c157_2, .int .i64 ((rd_T38 l0 x12_1).f3)] 38 (0, 0)) (by (with_reducible repeat (first | refine blk_drewN ?_ _ | refine blk_drew ?_ | refine blk_alloc ?_ _)); exact BK158.out) hb); have n1_ := Aside0.mk (below_step (by repeat (first | (with_reducible first | exact HB.out | apply below_alloc | apply pw_below_drewN | apply below_drew1 | refine below_set ?_ GE158.out) | exact HB.out)) hb); clear BK158; clear HB; have BK158 := n0_; have HB := n1_; clear n0_ n1_; (try clear hb); (try clear hb2); (try clear hk); (try clear hi)))
            go_roundg k2
            case measure => have := HK1.out; have := HK2.out; omega
            case rel => exact ⟨(ji13), (wrap64 (x19_2 + 1)), (by first | rfl | (simp; done) | (simp only [← hji13] <;> (first | rfl | simp)) | (simp [*]; done)), (by first | rfl | (simp; done) | (simp [*]; done)), H', ⟨by have := HK1.out; have := HK2.out; omega⟩, ⟨by (with_reducible repeat (first | refine blk_drewN ?_ _ | refine blk_drew ?_ | refine blk_alloc ?_ _)); exact BK158.out⟩, ⟨by repeat (first | (with_reducible first | exact HB.out | apply below_alloc | apply pw_below_drewN | apply below_drew1 | refine below_set ?_ GE158.out) | exact HB.out)⟩⟩
           ·rw [if_neg c11] at H
            have c11b0 : decide (0 < a1) = false := decide_eq_false c11
            clear c11
            have H' := Aside0.mk H
            clear H
            have p159 : 0 ≤ (x19_2 : Int) := of_decide_eq_true (by first | (with_reducible assumption) | assumption)
            have q159 : x19_2 < (((rd_T38 l0 x12_1).f2).length : Int) := of_decide_eq_true (by first | (with_reducible assumption) | assumption)
            obtain ⟨ad159, A159_0, c159_0, e159, hx159_0, hl159_0, hi159_0⟩ := at_L5 HR157_2.out x19_2 p159 q159
            cases e159
            replace hx159_0 := (HB.out.cell (World.block_lt_of_cell? w _ hx159_0)).trans hx159_0
            have HR159_0 := Aside0.mk hi159_0
            have HC159_0 := Aside0.mk hl159_0
            clear hi159_0 hl159_0
            replace p159 := eq_true p159
            replace q159 := eq_true q159
            go_wp2
            go_roundg k2
            case measure => have := HK1.out; have := HK2.out; omega
            case rel => exact ⟨(x5_2), (wrap64 (x19_2 + 1)), (by first | rfl | (simp; done) | (simp [*]; done)), (by first | rfl | (simp; done) | (simp [*]; done)), H', ⟨by have := HK1.out; have := HK2.out; omega⟩, ⟨by (with_reducible repeat (first | refine blk_drewN ?_ _ | refine blk_drew ?_ | refine blk_alloc ?_ _)); exact BK158.out⟩, ⟨by repeat (first | (with_reducible first | exact HB.out | apply below_alloc | apply pw_below_drewN | apply below_drew1 | refine below_set ?_ GE158.out) | exact HB.out)⟩⟩
          ·rw [if_neg c10] at H
           exact absurd H (by simp)
         ·rw [if_neg c9] at H
          exact absurd H (by simp)
        ·rw [if_neg c8] at H
         have c8b0 : decide (x19_2 < (((rd_T38 l0 x12_1).f2).length : Int)) = false := decide_eq_false c8
         clear c8
         have H' := Aside0.mk H
         clear H
         go_wp2
         go_roundg k2
         case measure => have := HK1.out; have := HK2.out; omega
         case rel => exact ⟨(x5_2), (wrap64 (x12_1 + 1)), (by first | rfl | (simp; done) | (simp [*]; done)), (by first | rfl | (simp; done) | (simp [*]; done)), H', ⟨by have := HK1.out; have := HK2.out; omega⟩, ⟨by repeat (first | (with_reducible first | exact HB.out | apply below_alloc | apply pw_below_drewN | apply below_drew1 | refine below_set ?_ GE158.out) | exact HB.out)⟩⟩
     ·rw [if_neg c5] at H
      exact absurd H (by simp)
    ·rw [if_neg c4] at H
     exact absurd H (by simp)
   ·rw [if_neg c3] at H
    have c3b0 : decide (x12_1 < (l0.length : Int)) = false := decide_eq_false c3
    clear c3
    obtain rfl := Option.some.inj H
    go_wp2
    go_ret
    exact ⟨by first | rfl | (simp [errW_none, errW_some] <;> rfl) | (simp [*, errW_none, errW_some] <;> rfl), by repeat (first | (with_reducible first | exact HB.out | apply below_alloc | apply pw_below_drewN | apply below_drew1) | exact HB.out)⟩

/-! ### tree_Depth: function 13 -/
def tree_Depth.f (k : Nat) (l0 : List (S38)) : Option (Int) := (tree_depth.f k l0 101).bind fun t161 => (some t161)
theorem tree_Depth.mono : ∀ a0 k, LeO (tree_Depth.f k a0) (tree_Depth.f (k + 1) a0) := by
 intro a0 k
 unfold tree_Depth.f
 repeat' first
   | (with_reducible exact tree_depth.mono _ _ _)
   | (with_reducible exact LeO.refl _)
   | (with_reducible exact LeO.none _)
   | (with_reducible refine LeO.ite ?_ ?_)
   | (with_reducible refine LeO.bind ?_ (fun _ => ?_))
   | exact tree_depth.mono _ _ _
   | exact LeO.none _
   | refine LeO.ite ?_ ?_
   | refine LeO.bind ?_ (fun _ => ?_)
set_option maxHeartbeats 8000000 in
set_option maxRecDepth 100000 in
theorem tree_Depth.calls (k : Nat) (A0 : Option Addr) (c0 : Nat) (l0 : List (S38)) (r : Int) (w : World) (hr0 : Kd.C k38 w A0 l0.length l0) (hc0 : l0.length ≤ c0) (h : tree_Depth.f k l0 = some r) :
  Calls Try.prog 13 #[.slice A0 l0.length c0] w fun e w' => e = .returned (.int .i64 r) ∧ Below w.heap.size w w' := by
 have HR0 := Aside0.mk hr0
 have HC0 := Aside0.mk hc0
 clear hr0 hc0
 have HB := Aside0.mk (Below.refl w.heap.size w)
 have H : ((tree_depth.f k l0 101).bind fun t161 => (some t161)) = some r := h
 clear h
 replace H := Option.bind_eq_some_iff.mp H
 obtain ⟨t161, A20, H⟩ := H
 replace H : (some t161) = some r := H
 have A2 := Aside0.mk A20
 clear A20
 obtain rfl := Option.some.inj H
 go_enter Try.func13, Try.ntmps13
 go_wp2_with (first | ((with_reducible refine gate_callee (f := 29) rfl ?_); refine goesL_ (some 4) rfl rfl Try.func29 (by kernel_rfl) rfl #[.slice A0 l0.length c0, .int .i64 101] rfl (by (try simp only [List.map_toArray, List.map_cons, List.map_nil]); first | done | rfl | (simp only [List.length_drop, List.length_take]; rfl)) ?_; (with_reducible refine (tree_depth.calls k _ _ l0 101 t161 _ ?side1 ?side2 A2.out).mono ?_); (case side1 => repeat (first | exact HR0.out | (with_reducible refine Kd.C_alloc ?_ _) | (with_reducible refine Kd.C_drewN ?_ _) | (with_reducible refine Kd.C_drew ?_))); (case side2 => exact HC0.out); rintro e w3 ⟨rfl, hb⟩; refine ⟨_, rfl, ?_⟩; have n0_ := Aside0.mk (below_step (by repeat (first | (with_reducible first | exact HB.out | apply below_alloc | apply pw_below_drewN | apply below_drew1) | exact HB.out)) hb); clear HB; have HB := n0_; clear n0_; (try clear hb); (try clear hb2); (try clear hk); (try clear hi)))
 go_ret
 exact ⟨by first | rfl | (simp [errW_none, errW_some] <;> rfl) | (simp [*, errW_none, errW_some] <;> rfl), by repeat (first | (with_reducible first | exact HB.out | apply below_alloc | apply pw_below_drewN | apply below_drew1) | exact HB.out)⟩

end Go.Proofs.Ytjppjlhhdfkloaa.PTp

/- Written by a program of this session: functions of the given program as plain Lean functions, the walks that show it, and the row of each law, for every input that its statement speaks of. -/
import Derived.Test.YtjppjlhhdfkloaaPTpx0
import Derived.Test.YtjppjlhhdfkloaaPTpx1
import Derived.Test.YtjppjlhhdfkloaaPTpx3
import Derived.Test.YtjppjlhhdfkloaaPTpx6
import Derived.Test.YtjppjlhhdfkloaaPTpx8
import Derived.Test.YtjppjlhhdfkloaaPTpx10
namespace Go.Proofs.Ytjppjlhhdfkloaa.PTp
open Go.RowKit Go.Proofs.YtjppjlhhdfkloaaW.PrintWords Go.Proofs.YtjppjlhhdfkloaaW.PrintLast Go.Proofs.YtjppjlhhdfkloaaW.PrintMore
attribute [local go_sem] max2_int min2_int max_two min_two max_three min_three max_four min_four   -- for this text's walks alone
set_option linter.unusedVariables false
set_option linter.unusedSimpArgs false

attribute [local go_sem high] eqA26
/-! ### variorumlaw06_TreeParses: function 3 -/
def variorumlaw06_TreeParses.f (k : Nat) (l0 : List (S44)) : Option (Bool) := (tree_Parse.f k l0).bind fun bt256 => ((variorumref06_Parse.f k l0).bind fun bt262 => ((variorumlaw06_fixed.f k).bind fun t268 => (if t268 = true then ((variorumref06_Places.f k bt256.1 bt262.1).bind fun t269 => (if t269 = true then (some (bt256.2.1 == bt262.2.1 && (bt256.2.2 == bt262.2.2))) else (none))) else (none))))
theorem variorumlaw06_TreeParses.mono : ∀ a0 k, LeO (variorumlaw06_TreeParses.f k a0) (variorumlaw06_TreeParses.f (k + 1) a0) := by
 intro a0 k
 unfold variorumlaw06_TreeParses.f
 repeat' first
   | (with_reducible exact tree_Parse.mono _ _)
   | (with_reducible exact variorumlaw06_fixed.mono _)
   | (with_reducible exact variorumref06_Parse.mono _ _)
   | (with_reducible exact variorumref06_Places.mono _ _ _)
   | (with_reducible exact LeO.refl _)
   | (with_reducible exact LeO.none _)
   | (with_reducible refine LeO.ite ?_ ?_)
   | (with_reducible refine LeO.bind ?_ (fun _ => ?_))
   | exact tree_Parse.mono _ _
   | exact variorumlaw06_fixed.mono _
   | exact variorumref06_Parse.mono _ _
   | exact variorumref06_Places.mono _ _ _
   | exact LeO.none _
   | refine LeO.ite ?_ ?_
   | refine LeO.bind ?_ (fun _ => ?_)
set_option maxHeartbeats 8000000 in
set_option maxRecDepth 100000 in
theorem variorumlaw06_TreeParses.calls (k : Nat) (A0 : Option Addr) (c0 : Nat) (l0 : List (S44)) (r : Bool) (w : World) (hr0 : Kd.C k44 w A0 l0.length l0) (hc0 : l0.length ≤ c0) (h : variorumlaw06_TreeParses.f k l0 = some r) :
  Calls Try.prog 3 #[.slice A0 l0.length c0] w fun e w' => e = .returned (.bool r) ∧ Below w.heap.size w w' := by
 have hu26 := Try.underlying26
 have HR0 := a_ hr0
 have HC0 := a_ hc0
 clear hr0 hc0
 have HB := a_ (Below.refl w.heap.size w)
 have H : ((tree_Parse.f k l0).bind fun bt256 => ((variorumref06_Parse.f k l0).bind fun bt262 => ((variorumlaw06_fixed.f k).bind fun t268 => (if t268 = true then ((variorumref06_Places.f k bt256.1 bt262.1).bind fun t269 => (if t269 = true then (some (bt256.2.1 == bt262.2.1 && (bt256.2.2 == bt262.2.2))) else (none))) else (none))))) = some r := h
 clear h
 replace H := Option.bind_eq_some_iff.mp H
 obtain ⟨⟨t256, t259, t260⟩, A20, H⟩ := H
 replace H : ((variorumref06_Parse.f k l0).bind fun bt262 => ((variorumlaw06_fixed.f k).bind fun t268 => (if t268 = true then ((variorumref06_Places.f k t256 bt262.1).bind fun t269 => (if t269 = true then (some (t259 == bt262.2.1 && (t260 == bt262.2.2))) else (none))) else (none)))) = some r := H
 have A2 := a_ A20
 clear A20
 replace H := Option.bind_eq_some_iff.mp H
 obtain ⟨⟨t262, t265, t266⟩, A30, H⟩ := H
 replace H : ((variorumlaw06_fixed.f k).bind fun t268 => (if t268 = true then ((variorumref06_Places.f k t256 t262).bind fun t269 => (if t269 = true then (some (t259 == t265 && (t260 == t266))) else (none))) else (none))) = some r := H
 have A3 := a_ A30
 clear A30
 replace H := Option.bind_eq_some_iff.mp H
 obtain ⟨t268, A40, H⟩ := H
 replace H : (if t268 = true then ((variorumref06_Places.f k t256 t262).bind fun t269 => (if t269 = true then (some (t259 == t265 && (t260 == t266))) else (none))) else (none)) = some r := H
 have A4 := a_ A40
 clear A40
 by_cases c5 : t268 = true
 ·subst c5
  have H1 : ((variorumref06_Places.f k t256 t262).bind fun t269 => (if t269 = true then (some (t259 == t265 && (t260 == t266))) else (none))) = some r := by rw [if_pos rfl] at H; exact H
  clear H
  have H := H1
  clear H1
  replace H := Option.bind_eq_some_iff.mp H
  obtain ⟨t269, A60, H⟩ := H
  replace H : (if t269 = true then (some (t259 == t265 && (t260 == t266))) else (none)) = some r := H
  have A6 := a_ A60
  clear A60
  by_cases c7 : t269 = true
  ·subst c7
   have H1 : (some (t259 == t265 && (t260 == t266))) = some r := by rw [if_pos rfl] at H; exact H
   clear H
   have H := H1
   clear H1
   obtain rfl := Option.some.inj H
   go_enter Try.func3, Try.ntmps3
   go_wp2_with (first | ((with_reducible refine gate_callee (f := 7) rfl ?_); refine gl_ (some 9) Try.func7 (by kernel_rfl) #[.slice A0 l0.length c0] ?_; (with_reducible refine (tree_Parse.calls k _ _ l0 t256 t259 t260 _ ?side1 ?side2 A2.out).mono ?_); (case side1 => repeat (first | exact HR0.out | (with_reducible refine Kd.C_alloc ?_ _) | (with_reducible refine Kd.C_drewN ?_ _) | (with_reducible refine Kd.C_drew ?_))); (case side2 => exact HC0.out); rintro e w8 ⟨v257, rfl, ho0, hb⟩; refine ⟨_, rfl, ?_⟩; have n0_ := a_ (Kd.R_lower ho0 (below_size (bv_ HB.out))); have n1_ := a_ (bs_ HB.out hb); clear HB; have HO258 := n0_; have HB := n1_; clear n0_ n1_; (try clear hb); (try clear hb2); (try clear hk); (try clear hi); (try clear ho0)) | ((with_reducible refine gate_dst (N := 4) rfl ?_); refine box_event ?hg (N := 4) ?hd (cs := #[.int .i64 0, .int .i64 0]) (t := 26) ?hr ?_; (case hd => rfl); (case hg => rfl); (case hr => first | (go_simp; done) | (go_simp; rfl)); intro gb261 hg w9 hbox hb; have n0_ := a_ (Kd.R_below (rv_ HO258.out) hb); have n1_ := a_ (bs_ HB.out hb); have n2_ := a_ (hbox); have n3_ := a_ ((by rw [hg]; exact (below_size (bv_ HB.out)) : w.heap.size ≤ gb261)); have n4_ := a_ ((by rw [hg]; exact (below_size (bv_ HB.out)) : w.heap.size ≤ gb261)); clear HO258; clear HB; have HO258 := n0_; have HB := n1_; have BK261 := n2_; have GW261 := n3_; have GE261 := n4_; clear n0_ n1_ n2_ n3_ n4_; clear hb hbox hg; obtain ⟨⟨Z10_0, Y10_0⟩, Z10_1, Y10_1⟩ := cs2_ BK261.out) | ((with_reducible refine gate_callee (f := 8) rfl ?_); refine gl_ (some 14) Try.func8 (by kernel_rfl) #[.slice A0 l0.length c0] ?_; (with_reducible refine (variorumref06_Parse.calls k _ _ l0 t262 t265 t266 _ ?side1 ?side2 A3.out).mono ?_); (case side1 => exact Kd.C_below HR0.out (bS1_ HB.out GE261.out)); (case side2 => exact HC0.out); rintro e w11 ⟨v263, rfl, ho0, hb⟩; refine ⟨_, rfl, ?_⟩; have n0_ := a_ (Kd.R_elder' (by (with_reducible repeat (first | apply Kd.R_alloc | apply Kd.R_drewN | apply Kd.R_drew)); exact (Kd.R_mono (Kd.R_far (p := ⟨gb261, 1, none⟩) (Kd.R_far (p := ⟨gb261, 0, none⟩) (Kd.R_types HO258.out BK261.out (by decide)) (fun _ hk => hk.2) (.int .i64 t259)) (fun _ hk => hk.2) (.int .i64 t260)) (fun _ h_ => h_.1))) (Kd.R_base ho0) hb); have n1_ := a_ (Kd.R_lower (Kd.R_new' ho0 (Kd.R_lt (by (with_reducible repeat (first | apply Kd.R_alloc | apply Kd.R_drewN | apply Kd.R_drew)); exact (Kd.R_mono (Kd.R_far (p := ⟨gb261, 1, none⟩) (Kd.R_far (p := ⟨gb261, 0, none⟩) (Kd.R_types HO258.out BK261.out (by decide)) (fun _ hk => hk.2) (.int .i64 t259)) (fun _ hk => hk.2) (.int .i64 t260)) (fun _ h_ => h_.1))))) (below_size (bS1_ HB.out GE261.out))); have n2_ := a_ (blk_below (g := gb261) (o := .cells #[.int .i64 t259, .int .i64 t260] 26 (0, 0)) (kp0_ BK261.out) hb); have n3_ := a_ (below_step (bS1_ HB.out GE261.out) hb); clear HO258; clear BK261; clear HB; have HO258 := n0_; have HO264 := n1_; have BK261 := n2_; have HB := n3_; clear n0_ n1_ n2_ n3_; (try clear hb); (try clear hb2); (try clear hk); (try clear hi); (try clear ho0)) | ((with_reducible refine gate_dst (N := 6) rfl ?_); refine box_event ?hg (N := 6) ?hd (cs := #[.int .i64 0, .int .i64 0]) (t := 26) ?hr ?_; (case hd => rfl); (case hg => rfl); (case hr => first | (go_simp; done) | (go_simp; rfl)); intro gb267 hg w12 hbox hb; have n0_ := a_ (Kd.R_below (rv_ HO258.out) hb); have n1_ := a_ (Kd.R_below (rv_ HO264.out) hb); have n2_ := a_ (kb_ BK261.out hb); have n3_ := a_ (below_step (bS1_ HB.out GE261.out) hb); have n4_ := a_ (hbox); have n5_ := a_ ((by rw [hg]; exact (below_size (bS1_ HB.out GE261.out)) : w.heap.size ≤ gb267)); have n6_ := a_ ((by rw [hg]; exact (below_size (bS1_ HB.out GE261.out)) : w.heap.size ≤ gb267)); have n7_ := a_ ((by rw [hg]; exact Nat.ne_of_lt (blk_lt (kv_ BK261.out)) : gb261 ≠ gb267)); have n8_ := a_ ((by rw [hg]; exact Nat.ne_of_gt (blk_lt (kv_ BK261.out)) : gb267 ≠ gb261)); clear HO258; clear HO264; clear BK261; clear HB; have HO258 := n0_; have HO264 := n1_; have BK261 := n2_; have HB := n3_; have BK267 := n4_; have GW267 := n5_; have GE267 := n6_; have NB261_267 := n7_; have NB267_261 := n8_; clear n0_ n1_ n2_ n3_ n4_ n5_ n6_ n7_ n8_; clear hb hbox hg; have hnb13 := NB267_261.out; have hnc13 := NB261_267.out; obtain ⟨⟨Z14_0, Y14_0⟩, Z14_1, Y14_1⟩ := cs2_ BK267.out) | ((with_reducible refine gate_callee (f := 9) rfl ?_); refine gl_ (some 17) Try.func9 (by kernel_rfl) #[] ?_; (with_reducible refine (variorumlaw06_fixed.calls k  true _ A4.out).mono ?_); rintro e w15 ⟨rfl, hb⟩; refine ⟨_, rfl, ?_⟩; have n0_ := a_ (Kd.R_below (by (with_reducible repeat (first | apply Kd.R_alloc | apply Kd.R_drewN | apply Kd.R_drew)); exact (Kd.R_mono (Kd.R_far (p := ⟨gb267, 1, none⟩) (Kd.R_far (p := ⟨gb267, 0, none⟩) (Kd.R_types HO258.out BK267.out (by decide)) (fun _ hk => hk.2) (.int .i64 t265)) (fun _ hk => hk.2) (.int .i64 t266)) (fun _ h_ => h_.1))) hb); have n1_ := a_ (Kd.R_below (by (with_reducible repeat (first | apply Kd.R_alloc | apply Kd.R_drewN | apply Kd.R_drew)); exact (Kd.R_mono (Kd.R_far (p := ⟨gb267, 1, none⟩) (Kd.R_far (p := ⟨gb267, 0, none⟩) (Kd.R_types HO264.out BK267.out (by decide)) (fun _ hk => hk.2) (.int .i64 t265)) (fun _ hk => hk.2) (.int .i64 t266)) (fun _ h_ => h_.1))) hb); have n2_ := a_ (blk_below (kf1_ BK261.out NB261_267.out) hb); have n3_ := a_ (blk_below (g := gb267) (o := .cells #[.int .i64 t265, .int .i64 t266] 26 (0, 0)) (kp0_ BK267.out) hb); have n4_ := a_ (below_step (bS2_ HB.out GE261.out GE267.out) hb); clear HO258; clear HO264; clear BK261; clear BK267; clear HB; have HO258 := n0_; have HO264 := n1_; have BK261 := n2_; have BK267 := n3_; have HB := n4_; clear n0_ n1_ n2_ n3_ n4_; (try clear hb); (try clear hb2); (try clear hk); (try clear hi); obtain ⟨Ao16, co16, eo16⟩ := Kd.R_slice HO258.out; subst eo16; obtain ⟨Ao17, co17, eo17⟩ := Kd.R_slice HO264.out; subst eo17) | (go_at_call 10; (with_reducible refine (variorumref06_Places.calls k _ _ t256 _ _ t262 true _ ?side1 ?side2 ?side3 ?side4 A6.out).mono ?_); (case side1 => exact cr_ (Kd.R_reads' HO258.out).2.2); (case side2 => exact (Kd.R_reads' HO258.out).2.1); (case side3 => exact cr_ (Kd.R_reads' HO264.out).2.2); (case side4 => exact (Kd.R_reads' HO264.out).2.1); rintro e w18 ⟨rfl, hb⟩; have n0_ := a_ (Kd.R_below (rv_ HO258.out) hb); have n1_ := a_ (Kd.R_below (rv_ HO264.out) hb); have n2_ := a_ (kb_ BK261.out hb); have n3_ := a_ (kb_ BK267.out hb); have n4_ := a_ (below_step (bS2_ HB.out GE261.out GE267.out) hb); clear HO258; clear HO264; clear BK261; clear BK267; clear HB; have HO258 := n0_; have HO264 := n1_; have BK261 := n2_; have BK267 := n3_; have HB := n4_; clear n0_ n1_ n2_ n3_ n4_; (try clear hb); (try clear hb2); (try clear hk); (try clear hi); obtain ⟨⟨Z19_0, Y19_0⟩, Z19_1, Y19_1⟩ := cs2_ BK261.out; obtain ⟨⟨Z20_0, Y20_0⟩, Z20_1, Y20_1⟩ := cs2_ BK267.out))
   go_ret
   exact ⟨by first | rfl | (simp [errW_none, errW_some] <;> rfl) | (simp [*, errW_none, errW_some] <;> rfl), bS2_ HB.out GE261.out GE267.out⟩
  ·replace c7 := Bool.eq_false_iff.mpr c7
   subst c7
   have H1 : (none) = some r := by rw [if_neg (show ¬ (false = true) by decide)] at H; exact H
   clear H
   have H := H1
   clear H1
   exact absurd H (by simp)
 ·replace c5 := Bool.eq_false_iff.mpr c5
  subst c5
  have H1 : (none) = some r := by rw [if_neg (show ¬ (false = true) by decide)] at H; exact H
  clear H
  have H := H1
  clear H1
  exact absurd H (by simp)

/-- The one statement about numbers and lists that is left of the law. -/
def variorumlaw06_TreeParses.Pure : Prop := ∀ (x0 : List (S44)), (x0.length * 32 ≤ 140737488351232 ∧ ∀ y0 ∈ x0, ((Lit.int .i64 y0.f0).wf = true ∧ (y0.f1.size ≤ 140737488351232 ∧ ((Lit.int .i64 y0.f2).wf = true)))) → (Go.Proofs.Ytjppjlhhdfkloaa.OpenB.bulkOf (fun _ => 1) x0 ≤ 1048576) → ∃ k, variorumlaw06_TreeParses.f k x0 = some true

end Go.Proofs.Ytjppjlhhdfkloaa.PTp

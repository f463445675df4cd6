/- Written by a program of this session: functions of the given program as plain Lean functions, the walks that show it, and the row of each law, for every input that its statement speaks of. -/
import Derived.Test.YtjppjlhhdfkloaaOpenN
import Derived.Test.YtjppjlhhdfkloaaPTpx0
import Derived.Test.YtjppjlhhdfkloaaPTpx3
import Derived.Test.YtjppjlhhdfkloaaPTpx8
import Derived.Test.YtjppjlhhdfkloaaPTpx13
import Derived.Test.YtjppjlhhdfkloaaPTpx14
import Derived.Test.YtjppjlhhdfkloaaPTpx4
import Derived.Test.YtjppjlhhdfkloaaPTpx15
namespace Go.Proofs.Ytjppjlhhdfkloaa.PTp
open Go.RowKit Go.Proofs.YtjppjlhhdfkloaaW.PrintWords Go.Proofs.YtjppjlhhdfkloaaW.PrintLast Go.Proofs.YtjppjlhhdfkloaaW.PrintMore
attribute [local go_sem] max2_int min2_int max_two min_two max_three min_three max_four min_four   -- for this text's walks alone
set_option linter.unusedVariables false
set_option linter.unusedSimpArgs false

/-! ### variorumlaw06_TreeBack: function 6 -/
mutual
def variorumlaw06_TreeBack.j0 : Nat → List (S44) → Bool → Option (Bool)
 | 0, _, _ => none
 | k + 1, x1, x33 => if x33 = true then (none) else ((tree_Parse.f k x1).bind fun bt223 => (if bt223.2.1 = 0 then ((variorumref06_Real.f k x1).bind fun t229 => (variorumlaw06_TreeBack.l0 k bt223.1 t229 0)) else (some ((bt223.1.length : Int) == 0))))
def variorumlaw06_TreeBack.l0 : Nat → List (S38) → List (S44) → Int → Option (Bool)
 | 0, _, _, _ => none
 | k + 1, x7, x9, x10 => if x10 < (x9.length : Int) then (if 0 ≤ x10 then (if ((rd_T44 x9 x10).f0) > 1 then (variorumlaw06_TreeBack.l0 k x7 (x9.set (x10 : Int).toNat (⟨(rd_T44 x9 x10).f0, (⟨#[]⟩ : ByteArray), (rd_T44 x9 x10).f2⟩ : S44)) (wrap64 (x10 + 1))) else (variorumlaw06_TreeBack.l0 k x7 x9 (wrap64 (x10 + 1)))) else (none)) else ((tree_May.f k x7).bind fun t234 => (if t234 = true then ((tree_Flat.f k x7).bind fun t235 => ((variorumref05_Plain.f k t235).bind fun t238 => ((variorumref05_Plain.f k x9).bind fun t241 => ((variorumref05_Same.f k t238 t241).bind fun t244 => (some t244))))) else (none)))
end
def variorumlaw06_TreeBack.f (k : Nat) (l0 : List (S38)) (l1 : List (S44)) : Option (Bool) := (tree_Flat.f k l0).bind fun t211 => ((tree_Parse.f k t211).bind fun bt214 => ((variorumlaw06_fixed.f k).bind fun t220 => (if t220 = true then ((tree_May.f k l0).bind fun t221 => (if t221 = true then (if bt214.2.1 = 0 then ((tree_Same.f k bt214.1 l0).bind fun t222 => (variorumlaw06_TreeBack.j0 k l1 (!t222))) else (variorumlaw06_TreeBack.j0 k l1 true)) else (variorumlaw06_TreeBack.j0 k l1 false))) else (variorumlaw06_TreeBack.j0 k l1 true))))
theorem variorumlaw06_TreeBack.mono_l : ∀ k, (∀ y0 y1, LeO (variorumlaw06_TreeBack.j0 k y0 y1) (variorumlaw06_TreeBack.j0 (k + 1) y0 y1)) ∧ (∀ y0 y1 y2, LeO (variorumlaw06_TreeBack.l0 k y0 y1 y2) (variorumlaw06_TreeBack.l0 (k + 1) y0 y1 y2))
 | 0 => ⟨fun _ _ r h => by simp [variorumlaw06_TreeBack.j0] at h, fun _ _ _ r h => by simp [variorumlaw06_TreeBack.l0] at h⟩
 | k + 1 => by
  obtain ⟨ih0, ih1⟩ := variorumlaw06_TreeBack.mono_l k
  refine ⟨?_, ?_⟩
  ·intro y0 y1
   unfold variorumlaw06_TreeBack.j0
   repeat' first | (with_reducible first | exact ih0 _ _ | exact ih1 _ _ _ | exact tree_Flat.mono _ _ | exact tree_May.mono _ _ | exact tree_Parse.mono _ _ | exact tree_Same.mono _ _ _ | exact variorumlaw06_fixed.mono _ | exact variorumref05_Plain.mono _ _ | exact variorumref05_Same.mono _ _ _ | exact variorumref06_Real.mono _ _ | exact LeO.refl _ | exact LeO.none _ | refine LeO.ite ?_ ?_ | refine LeO.bind ?_ (fun _ => ?_)) | exact LeO.none _ | refine LeO.ite ?_ ?_ | refine LeO.bind ?_ (fun _ => ?_)
  ·intro y0 y1 y2
   unfold variorumlaw06_TreeBack.l0
   repeat' first | (with_reducible first | exact ih0 _ _ | exact ih1 _ _ _ | exact tree_Flat.mono _ _ | exact tree_May.mono _ _ | exact tree_Parse.mono _ _ | exact tree_Same.mono _ _ _ | exact variorumlaw06_fixed.mono _ | exact variorumref05_Plain.mono _ _ | exact variorumref05_Same.mono _ _ _ | exact variorumref06_Real.mono _ _ | exact LeO.refl _ | exact LeO.none _ | refine LeO.ite ?_ ?_ | refine LeO.bind ?_ (fun _ => ?_)) | exact LeO.none _ | refine LeO.ite ?_ ?_ | refine LeO.bind ?_ (fun _ => ?_)
theorem variorumlaw06_TreeBack.mono : ∀ a0 a1 k, LeO (variorumlaw06_TreeBack.f k a0 a1) (variorumlaw06_TreeBack.f (k + 1) a0 a1) := by
 intro a0 a1 k
 obtain ⟨ih0, ih1⟩ := variorumlaw06_TreeBack.mono_l k
 unfold variorumlaw06_TreeBack.f
 repeat' first
   | (with_reducible exact ih0 _ _)
   | (with_reducible exact ih1 _ _ _)
   | (with_reducible exact tree_Flat.mono _ _)
   | (with_reducible exact tree_May.mono _ _)
   | (with_reducible exact tree_Parse.mono _ _)
   | (with_reducible exact tree_Same.mono _ _ _)
   | (with_reducible exact variorumlaw06_fixed.mono _)
   | (with_reducible exact variorumref05_Plain.mono _ _)
   | (with_reducible exact variorumref05_Same.mono _ _ _)
   | (with_reducible exact variorumref06_Real.mono _ _)
   | (with_reducible exact LeO.refl _)
   | (with_reducible exact LeO.none _)
   | (with_reducible refine LeO.ite ?_ ?_)
   | (with_reducible refine LeO.bind ?_ (fun _ => ?_))
   | exact ih0 _ _
   | exact ih1 _ _ _
   | exact tree_Flat.mono _ _
   | exact tree_May.mono _ _
   | exact tree_Parse.mono _ _
   | exact tree_Same.mono _ _ _
   | exact variorumlaw06_fixed.mono _
   | exact variorumref05_Plain.mono _ _
   | exact variorumref05_Same.mono _ _ _
   | exact variorumref06_Real.mono _ _
   | exact LeO.none _
   | refine LeO.ite ?_ ?_
   | refine LeO.bind ?_ (fun _ => ?_)
set_option maxHeartbeats 8000000 in
set_option maxRecDepth 100000 in
theorem variorumlaw06_TreeBack.calls (k : Nat) (A0 : Option Addr) (c0 : Nat) (l0 : List (S38)) (A1 : Option Addr) (c1 : Nat) (l1 : List (S44)) (r : Bool) (w : World) (hr0 : Kd.C k38 w A0 l0.length l0) (hc0 : l0.length ≤ c0) (hr1 : Kd.C k44 w A1 l1.length l1) (hc1 : l1.length ≤ c1) (h : variorumlaw06_TreeBack.f k l0 l1 = some r) :
  Calls Try.prog 6 #[.slice A0 l0.length c0, .slice A1 l1.length c1] w fun e w' => e = .returned (.bool r) ∧ Below w.heap.size w w' := by
 have hu26 := Try.underlying26
 have HR0 := a_ hr0
 have HC0 := a_ hc0
 clear hr0 hc0
 have HR1 := a_ hr1
 have HC1 := a_ hc1
 clear hr1 hc1
 have HB := a_ (Below.refl w.heap.size w)
 have H : ((tree_Flat.f k l0).bind fun t211 => ((tree_Parse.f k t211).bind fun bt214 => ((variorumlaw06_fixed.f k).bind fun t220 => (if t220 = true then ((tree_May.f k l0).bind fun t221 => (if t221 = true then (if bt214.2.1 = 0 then ((tree_Same.f k bt214.1 l0).bind fun t222 => (variorumlaw06_TreeBack.j0 k l1 (!t222))) else (variorumlaw06_TreeBack.j0 k l1 true)) else (variorumlaw06_TreeBack.j0 k l1 false))) else (variorumlaw06_TreeBack.j0 k l1 true))))) = some r := h
 clear h
 replace H := Option.bind_eq_some_iff.mp H
 obtain ⟨t211, A30, H⟩ := H
 replace H : ((tree_Parse.f k t211).bind fun bt214 => ((variorumlaw06_fixed.f k).bind fun t220 => (if t220 = true then ((tree_May.f k l0).bind fun t221 => (if t221 = true then (if bt214.2.1 = 0 then ((tree_Same.f k bt214.1 l0).bind fun t222 => (variorumlaw06_TreeBack.j0 k l1 (!t222))) else (variorumlaw06_TreeBack.j0 k l1 true)) else (variorumlaw06_TreeBack.j0 k l1 false))) else (variorumlaw06_TreeBack.j0 k l1 true)))) = some r := H
 have A3 := a_ A30
 clear A30
 replace H := Option.bind_eq_some_iff.mp H
 obtain ⟨⟨t214, t217, t218⟩, A40, H⟩ := H
 replace H : ((variorumlaw06_fixed.f k).bind fun t220 => (if t220 = true then ((tree_May.f k l0).bind fun t221 => (if t221 = true then (if t217 = 0 then ((tree_Same.f k t214 l0).bind fun t222 => (variorumlaw06_TreeBack.j0 k l1 (!t222))) else (variorumlaw06_TreeBack.j0 k l1 true)) else (variorumlaw06_TreeBack.j0 k l1 false))) else (variorumlaw06_TreeBack.j0 k l1 true))) = some r := H
 have A4 := a_ A40
 clear A40
 have HC5 := a_ H
 clear H
 go_enter Try.func6, Try.ntmps6
 go_upto_region 2 with (first | ((with_reducible refine gate_callee (f := 15) rfl ?_); refine gl_ (some 13) Try.func15 (by kernel_rfl) #[.slice A0 l0.length c0] ?_; (with_reducible refine (tree_Flat.calls k _ _ l0 t211 _ ?side1 ?side2 A3.out).mono ?_); (case side1 => repeat (first | exact HR0.out | (with_reducible refine Kd.C_alloc ?_ _) | (with_reducible refine Kd.C_drewN ?_ _) | (with_reducible refine Kd.C_drew ?_))); (case side2 => exact HC0.out); rintro e w6 ⟨v212, rfl, ho0, hb⟩; refine ⟨_, rfl, ?_⟩; have n0_ := a_ (Kd.R_lower ho0 (below_size (bv_ HB.out))); have n1_ := a_ (bs_ HB.out hb); clear HB; have HO213 := n0_; have HB := n1_; clear n0_ n1_; (try clear hb); (try clear hb2); (try clear hk); (try clear hi); (try clear ho0); obtain ⟨Ao7, co7, eo7⟩ := Kd.R_slice HO213.out; subst eo7) | ((with_reducible refine gate_callee (f := 7) rfl ?_); refine gl_ (some 14) Try.func7 (by kernel_rfl) #[.slice Ao7 t211.length co7] ?_; (with_reducible refine (tree_Parse.calls k _ _ t211 t214 t217 t218 _ ?side1 ?side2 A4.out).mono ?_); (case side1 => exact cr_ (Kd.R_reads' HO213.out).2.2); (case side2 => exact (Kd.R_reads' HO213.out).2.1); rintro e w8 ⟨v215, rfl, ho0, hb⟩; refine ⟨_, rfl, ?_⟩; have n0_ := a_ (Kd.R_below (rv_ HO213.out) hb); have n1_ := a_ (Kd.R_lower ho0 (below_size (bv_ HB.out))); have n2_ := a_ (bs_ HB.out hb); clear HO213; clear HB; have HO213 := n0_; have HO216 := n1_; have HB := n2_; clear n0_ n1_ n2_; (try clear hb); (try clear hb2); (try clear hk); (try clear hi); (try clear ho0)) | ((with_reducible refine gate_dst (N := 6) rfl ?_); refine box_event ?hg (N := 6) ?hd (cs := #[.int .i64 0, .int .i64 0]) (t := 26) ?hr ?_; (case hd => rfl); (case hg => rfl); (case hr => first | (go_simp; done) | (go_simp; rfl)); intro gb219 hg w9 hbox hb; have n0_ := a_ (Kd.R_below (rv_ HO213.out) hb); have n1_ := a_ (Kd.R_below (rv_ HO216.out) hb); have n2_ := a_ (bs_ HB.out hb); have n3_ := a_ (hbox); have n4_ := a_ ((by rw [hg]; exact (below_size (bv_ HB.out)) : w.heap.size ≤ gb219)); have n5_ := a_ ((by rw [hg]; exact (below_size (bv_ HB.out)) : w.heap.size ≤ gb219)); clear HO213; clear HO216; clear HB; have HO213 := n0_; have HO216 := n1_; have HB := n2_; have BK219 := n3_; have GW219 := n4_; have GE219 := n5_; clear n0_ n1_ n2_ n3_ n4_ n5_; clear hb hbox hg; obtain ⟨⟨Z10_0, Y10_0⟩, Z10_1, Y10_1⟩ := cs2_ BK219.out))
 (try simp only [Act.put, List.setIfInBounds_toArray, List.set_cons_zero, List.set_cons_succ])
 go_cut [33] (fun v33 wc => ∃ (kq : Nat) (x33_4 : Bool), v33 = .bool x33_4 ∧ Aside0 (variorumlaw06_TreeBack.j0 kq l1 x33_4 = some r) ∧ Aside0 (kq ≤ k) ∧ Aside0 (wc.heap[gb219]? = some (.cells #[.int .i64 t217, .int .i64 t218] 26 (0, 0))) ∧ Aside0 (Below w.heap.size w wc))
 case first =>
  have H := HC5.out
  clear HC5
  replace H := Option.bind_eq_some_iff.mp H
  obtain ⟨t220, A110, H⟩ := H
  replace H : (if t220 = true then ((tree_May.f k l0).bind fun t221 => (if t221 = true then (if t217 = 0 then ((tree_Same.f k t214 l0).bind fun t222 => (variorumlaw06_TreeBack.j0 k l1 (!t222))) else (variorumlaw06_TreeBack.j0 k l1 true)) else (variorumlaw06_TreeBack.j0 k l1 false))) else (variorumlaw06_TreeBack.j0 k l1 true)) = some r := H
  have A11 := a_ A110
  clear A110
  by_cases c12 : t220 = true
  ·subst c12
   have H1 : ((tree_May.f k l0).bind fun t221 => (if t221 = true then (if t217 = 0 then ((tree_Same.f k t214 l0).bind fun t222 => (variorumlaw06_TreeBack.j0 k l1 (!t222))) else (variorumlaw06_TreeBack.j0 k l1 true)) else (variorumlaw06_TreeBack.j0 k l1 false))) = some r := by rw [if_pos rfl] at H; exact H
   clear H
   have H := H1
   clear H1
   replace H := Option.bind_eq_some_iff.mp H
   obtain ⟨t221, A130, H⟩ := H
   replace H : (if t221 = true then (if t217 = 0 then ((tree_Same.f k t214 l0).bind fun t222 => (variorumlaw06_TreeBack.j0 k l1 (!t222))) else (variorumlaw06_TreeBack.j0 k l1 true)) else (variorumlaw06_TreeBack.j0 k l1 false)) = some r := H
   have A13 := a_ A130
   clear A130
   by_cases c14 : t221 = true
   ·subst c14
    have H1 : (if t217 = 0 then ((tree_Same.f k t214 l0).bind fun t222 => (variorumlaw06_TreeBack.j0 k l1 (!t222))) else (variorumlaw06_TreeBack.j0 k l1 true)) = some r := by rw [if_pos rfl] at H; exact H
    clear H
    have H := H1
    clear H1
    by_cases c15 : t217 = 0
    ·rw [if_pos c15] at H
     have c15b0 : (t217 == 0) = true := beq_iff_eq.mpr c15
     have c15b1 : (t217 != 0) = false := bne_eq_false_iff_eq.mpr c15
     clear c15
     (first | rw [c15b0] | (simp only [i64_w, i32_w]; rw [c15b0]) | skip)
     replace H := Option.bind_eq_some_iff.mp H
     obtain ⟨t222, A160, H⟩ := H
     replace H : (variorumlaw06_TreeBack.j0 k l1 (!t222)) = some r := H
     have A16 := a_ A160
     clear A160
     have H' := a_ H
     clear H
     go_wp2_with (first | ((with_reducible refine gate_callee (f := 9) rfl ?_); refine gl_ (some 17) Try.func9 (by kernel_rfl) #[] ?_; (with_reducible refine (variorumlaw06_fixed.calls k  true _ A11.out).mono ?_); rintro e w17 ⟨rfl, hb⟩; refine ⟨_, rfl, ?_⟩; have n0_ := a_ (Kd.R_below (by (with_reducible repeat (first | apply Kd.R_alloc | apply Kd.R_drewN | apply Kd.R_drew)); exact (Kd.R_mono (Kd.R_far (p := ⟨gb219, 1, none⟩) (Kd.R_far (p := ⟨gb219, 0, none⟩) (Kd.R_types HO213.out BK219.out (by decide)) (fun _ hk => hk.2) (.int .i64 t217)) (fun _ hk => hk.2) (.int .i64 t218)) (fun _ h_ => h_.1))) hb); have n1_ := a_ (Kd.R_below (by (with_reducible repeat (first | apply Kd.R_alloc | apply Kd.R_drewN | apply Kd.R_drew)); exact (Kd.R_mono (Kd.R_far (p := ⟨gb219, 1, none⟩) (Kd.R_far (p := ⟨gb219, 0, none⟩) (Kd.R_types HO216.out BK219.out (by decide)) (fun _ hk => hk.2) (.int .i64 t217)) (fun _ hk => hk.2) (.int .i64 t218)) (fun _ h_ => h_.1))) hb); have n2_ := a_ (blk_below (g := gb219) (o := .cells #[.int .i64 t217, .int .i64 t218] 26 (0, 0)) (kp0_ BK219.out) hb); have n3_ := a_ (below_step (bS1_ HB.out GE219.out) hb); clear HO213; clear HO216; clear BK219; clear HB; have HO213 := n0_; have HO216 := n1_; have BK219 := n2_; have HB := n3_; clear n0_ n1_ n2_ n3_; (try clear hb); (try clear hb2); (try clear hk); (try clear hi)) | (go_at_call 11; (with_reducible refine (tree_May.calls k _ _ l0 true _ ?side1 ?side2 A13.out).mono ?_); (case side1 => exact cw_ HR0.out HB.out); (case side2 => exact HC0.out); rintro e w18 ⟨rfl, hb⟩; have n0_ := a_ (Kd.R_below (rv_ HO213.out) hb); have n1_ := a_ (Kd.R_below (rv_ HO216.out) hb); have n2_ := a_ (kb_ BK219.out hb); have n3_ := a_ (below_step (bS1_ HB.out GE219.out) hb); clear HO213; clear HO216; clear BK219; clear HB; have HO213 := n0_; have HO216 := n1_; have BK219 := n2_; have HB := n3_; clear n0_ n1_ n2_ n3_; (try clear hb); (try clear hb2); (try clear hk); (try clear hi); obtain ⟨⟨Z19_0, Y19_0⟩, Z19_1, Y19_1⟩ := cs2_ BK219.out; obtain ⟨Ao20, co20, eo20⟩ := Kd.R_slice HO216.out; subst eo20) | (go_at_call 16; (with_reducible refine (tree_Same.calls k _ _ t214 _ _ l0 t222 _ ?side1 ?side2 ?side3 ?side4 A16.out).mono ?_); (case side1 => exact cr_ (Kd.R_reads' HO216.out).2.2); (case side2 => exact (Kd.R_reads' HO216.out).2.1); (case side3 => exact cw_ HR0.out HB.out); (case side4 => exact HC0.out); rintro e w21 ⟨rfl, hb⟩; have n0_ := a_ (Kd.R_below (rv_ HO213.out) hb); have n1_ := a_ (Kd.R_below (rv_ HO216.out) hb); have n2_ := a_ (kb_ BK219.out hb); have n3_ := a_ (below_step (bS1_ HB.out GE219.out) hb); clear HO213; clear HO216; clear BK219; clear HB; have HO213 := n0_; have HO216 := n1_; have BK219 := n2_; have HB := n3_; clear n0_ n1_ n2_ n3_; (try clear hb); (try clear hb2); (try clear hk); (try clear hi)))
     go_meet
     case rel => exact ⟨_, (!t222), (by first | rfl | (simp; done) | (simp [*]; done)), H', ⟨by first | omega | exact Nat.le_refl _⟩, ⟨kv_ BK219.out⟩, ⟨bS1_ HB.out GE219.out⟩⟩
    ·rw [if_neg c15] at H
     have c15b0 : (t217 == 0) = false := beq_eq_false_iff_ne.mpr c15
     have c15b1 : (t217 != 0) = true := bne_iff_ne.mpr c15
     (first | rw [c15b0] | (simp only [i64_w, i32_w]; rw [c15b0]) | skip)
     have H' := a_ H
     clear H
     go_wp2_with (first | ((with_reducible refine gate_callee (f := 9) rfl ?_); refine gl_ (some 17) Try.func9 (by kernel_rfl) #[] ?_; (with_reducible refine (variorumlaw06_fixed.calls k  true _ A11.out).mono ?_); rintro e w22 ⟨rfl, hb⟩; refine ⟨_, rfl, ?_⟩; have n0_ := a_ (Kd.R_below (by (with_reducible repeat (first | apply Kd.R_alloc | apply Kd.R_drewN | apply Kd.R_drew)); exact (Kd.R_mono (Kd.R_far (p := ⟨gb219, 1, none⟩) (Kd.R_far (p := ⟨gb219, 0, none⟩) (Kd.R_types HO213.out BK219.out (by decide)) (fun _ hk => hk.2) (.int .i64 t217)) (fun _ hk => hk.2) (.int .i64 t218)) (fun _ h_ => h_.1))) hb); have n1_ := a_ (Kd.R_below (by (with_reducible repeat (first | apply Kd.R_alloc | apply Kd.R_drewN | apply Kd.R_drew)); exact (Kd.R_mono (Kd.R_far (p := ⟨gb219, 1, none⟩) (Kd.R_far (p := ⟨gb219, 0, none⟩) (Kd.R_types HO216.out BK219.out (by decide)) (fun _ hk => hk.2) (.int .i64 t217)) (fun _ hk => hk.2) (.int .i64 t218)) (fun _ h_ => h_.1))) hb); have n2_ := a_ (blk_below (g := gb219) (o := .cells #[.int .i64 t217, .int .i64 t218] 26 (0, 0)) (kp0_ BK219.out) hb); have n3_ := a_ (below_step (bS1_ HB.out GE219.out) hb); clear HO213; clear HO216; clear BK219; clear HB; have HO213 := n0_; have HO216 := n1_; have BK219 := n2_; have HB := n3_; clear n0_ n1_ n2_ n3_; (try clear hb); (try clear hb2); (try clear hk); (try clear hi)) | (go_at_call 11; (with_reducible refine (tree_May.calls k _ _ l0 true _ ?side1 ?side2 A13.out).mono ?_); (case side1 => exact cw_ HR0.out HB.out); (case side2 => exact HC0.out); rintro e w23 ⟨rfl, hb⟩; have n0_ := a_ (Kd.R_below (rv_ HO213.out) hb); have n1_ := a_ (Kd.R_below (rv_ HO216.out) hb); have n2_ := a_ (kb_ BK219.out hb); have n3_ := a_ (below_step (bS1_ HB.out GE219.out) hb); clear HO213; clear HO216; clear BK219; clear HB; have HO213 := n0_; have HO216 := n1_; have BK219 := n2_; have HB := n3_; clear n0_ n1_ n2_ n3_; (try clear hb); (try clear hb2); (try clear hk); (try clear hi); obtain ⟨⟨Z24_0, Y24_0⟩, Z24_1, Y24_1⟩ := cs2_ BK219.out))
     go_meet
     case rel => exact ⟨_, (true), (by first | rfl | (simp; done) | (simp [*]; done)), H', ⟨by first | omega | exact Nat.le_refl _⟩, ⟨kv_ BK219.out⟩, ⟨bS1_ HB.out GE219.out⟩⟩
   ·replace c14 := Bool.eq_false_iff.mpr c14
    subst c14
    have H1 : (variorumlaw06_TreeBack.j0 k l1 false) = some r := by rw [if_neg (show ¬ (false = true) by decide)] at H; exact H
    clear H
    have H := H1
    clear H1
    have H' := a_ H
    clear H
    go_wp2_with (first | ((with_reducible refine gate_callee (f := 9) rfl ?_); refine gl_ (some 17) Try.func9 (by kernel_rfl) #[] ?_; (with_reducible refine (variorumlaw06_fixed.calls k  true _ A11.out).mono ?_); rintro e w25 ⟨rfl, hb⟩; refine ⟨_, rfl, ?_⟩; have n0_ := a_ (Kd.R_below (by (with_reducible repeat (first | apply Kd.R_alloc | apply Kd.R_drewN | apply Kd.R_drew)); exact (Kd.R_mono (Kd.R_far (p := ⟨gb219, 1, none⟩) (Kd.R_far (p := ⟨gb219, 0, none⟩) (Kd.R_types HO213.out BK219.out (by decide)) (fun _ hk => hk.2) (.int .i64 t217)) (fun _ hk => hk.2) (.int .i64 t218)) (fun _ h_ => h_.1))) hb); have n1_ := a_ (Kd.R_below (by (with_reducible repeat (first | apply Kd.R_alloc | apply Kd.R_drewN | apply Kd.R_drew)); exact (Kd.R_mono (Kd.R_far (p := ⟨gb219, 1, none⟩) (Kd.R_far (p := ⟨gb219, 0, none⟩) (Kd.R_types HO216.out BK219.out (by decide)) (fun _ hk => hk.2) (.int .i64 t217)) (fun _ hk => hk.2) (.int .i64 t218)) (fun _ h_ => h_.1))) hb); have n2_ := a_ (blk_below (g := gb219) (o := .cells #[.int .i64 t217, .int .i64 t218] 26 (0, 0)) (kp0_ BK219.out) hb); have n3_ := a_ (below_step (bS1_ HB.out GE219.out) hb); clear HO213; clear HO216; clear BK219; clear HB; have HO213 := n0_; have HO216 := n1_; have BK219 := n2_; have HB := n3_; clear n0_ n1_ n2_ n3_; (try clear hb); (try clear hb2); (try clear hk); (try clear hi)) | (go_at_call 11; (with_reducible refine (tree_May.calls k _ _ l0 false _ ?side1 ?side2 A13.out).mono ?_); (case side1 => exact cw_ HR0.out HB.out); (case side2 => exact HC0.out); rintro e w26 ⟨rfl, hb⟩; have n0_ := a_ (Kd.R_below (rv_ HO213.out) hb); have n1_ := a_ (Kd.R_below (rv_ HO216.out) hb); have n2_ := a_ (kb_ BK219.out hb); have n3_ := a_ (below_step (bS1_ HB.out GE219.out) hb); clear HO213; clear HO216; clear BK219; clear HB; have HO213 := n0_; have HO216 := n1_; have BK219 := n2_; have HB := n3_; clear n0_ n1_ n2_ n3_; (try clear hb); (try clear hb2); (try clear hk); (try clear hi)))
    go_meet
    case rel => exact ⟨_, (false), (by first | rfl | (simp; done) | (simp [*]; done)), H', ⟨by first | omega | exact Nat.le_refl _⟩, ⟨kv_ BK219.out⟩, ⟨bS1_ HB.out GE219.out⟩⟩
  ·replace c12 := Bool.eq_false_iff.mpr c12
   subst c12
   have H1 : (variorumlaw06_TreeBack.j0 k l1 true) = some r := by rw [if_neg (show ¬ (false = true) by decide)] at H; exact H
   clear H
   have H := H1
   clear H1
   have H' := a_ H
   clear H
   go_wp2_with (first | ((with_reducible refine gate_callee (f := 9) rfl ?_); refine gl_ (some 17) Try.func9 (by kernel_rfl) #[] ?_; (with_reducible refine (variorumlaw06_fixed.calls k  false _ A11.out).mono ?_); rintro e w27 ⟨rfl, hb⟩; refine ⟨_, rfl, ?_⟩; have n0_ := a_ (Kd.R_below (by (with_reducible repeat (first | apply Kd.R_alloc | apply Kd.R_drewN | apply Kd.R_drew)); exact (Kd.R_mono (Kd.R_far (p := ⟨gb219, 1, none⟩) (Kd.R_far (p := ⟨gb219, 0, none⟩) (Kd.R_types HO213.out BK219.out (by decide)) (fun _ hk => hk.2) (.int .i64 t217)) (fun _ hk => hk.2) (.int .i64 t218)) (fun _ h_ => h_.1))) hb); have n1_ := a_ (Kd.R_below (by (with_reducible repeat (first | apply Kd.R_alloc | apply Kd.R_drewN | apply Kd.R_drew)); exact (Kd.R_mono (Kd.R_far (p := ⟨gb219, 1, none⟩) (Kd.R_far (p := ⟨gb219, 0, none⟩) (Kd.R_types HO216.out BK219.out (by decide)) (fun _ hk => hk.2) (.int .i64 t217)) (fun _ hk => hk.2) (.int .i64 t218)) (fun _ h_ => h_.1))) hb); have n2_ := a_ (blk_below (g := gb219) (o := .cells #[.int .i64 t217, .int .i64 t218] 26 (0, 0)) (kp0_ BK219.out) hb); have n3_ := a_ (below_step (bS1_ HB.out GE219.out) hb); clear HO213; clear HO216; clear BK219; clear HB; have HO213 := n0_; have HO216 := n1_; have BK219 := n2_; have HB := n3_; clear n0_ n1_ n2_ n3_; (try clear hb); (try clear hb2); (try clear hk); (try clear hi)))
   go_meet
   case rel => exact ⟨_, (true), (by first | rfl | (simp; done) | (simp [*]; done)), H', ⟨by first | omega | exact Nat.le_refl _⟩, ⟨kv_ BK219.out⟩, ⟨bS1_ HB.out GE219.out⟩⟩
 case rest =>
  clear HC5
  try clear c1
  try clear p2
  try clear c6
  try clear c7
  try clear c9
  try clear c12
  try clear c14
  try clear c15
  try clear c15b0
  try clear c15b1
  try clear Z10_0
  try clear Z10_1
  try clear Z19_0
  try clear Z19_1
  try clear Z24_0
  try clear Z24_1
  try clear Y10_0
  try clear Y10_1
  try clear Y19_0
  try clear Y19_1
  try clear Y24_0
  try clear Y24_1
  obtain ⟨kq, x33_4, rfl, HA, HJ4, BK219, HB⟩ := hcut
  cases kq with
  | zero => exact absurd HA.out (by simp [variorumlaw06_TreeBack.j0])
  | succ kj4 =>
   have H := HA.out
   clear HA
   simp only [variorumlaw06_TreeBack.j0] at H
   by_cases c28 : x33_4 = true
   ·subst c28
    have H1 : (none) = some r := by rw [if_pos rfl] at H; exact H
    clear H
    have H := H1
    clear H1
    exact absurd H (by simp)
   ·replace c28 := Bool.eq_false_iff.mpr c28
    subst c28
    have H1 : ((tree_Parse.f kj4 l1).bind fun bt223 => (if bt223.2.1 = 0 then ((variorumref06_Real.f kj4 l1).bind fun t229 => (variorumlaw06_TreeBack.l0 kj4 bt223.1 t229 0)) else (some ((bt223.1.length : Int) == 0)))) = some r := by rw [if_neg (show ¬ (false = true) by decide)] at H; exact H
    clear H
    have H := H1
    clear H1
    replace H := Option.bind_eq_some_iff.mp H
    obtain ⟨⟨t223, t226, t227⟩, A290, H⟩ := H
    replace H : (if t226 = 0 then ((variorumref06_Real.f kj4 l1).bind fun t229 => (variorumlaw06_TreeBack.l0 kj4 t223 t229 0)) else (some ((t223.length : Int) == 0))) = some r := H
    have A29 := a_ A290
    clear A290
    by_cases c30 : t226 = 0
    ·rw [if_pos c30] at H
     have c30b0 : (t226 == 0) = true := beq_iff_eq.mpr c30
     have c30b1 : (t226 != 0) = false := bne_eq_false_iff_eq.mpr c30
     clear c30
     replace H := Option.bind_eq_some_iff.mp H
     obtain ⟨t229, A310, H⟩ := H
     replace H : (variorumlaw06_TreeBack.l0 kj4 t223 t229 0) = some r := H
     have A31 := a_ A310
     clear A310
     have H' := a_ H
     clear H
     go_wp2_with (first | ((with_reducible refine gate_callee (f := 7) rfl ?_); refine gl_ (some 36) Try.func7 (by kernel_rfl) #[.slice A1 l1.length c1] ?_; (with_reducible refine (tree_Parse.calls kj4 _ _ l1 t223 t226 t227 _ ?side1 ?side2 A29.out).mono ?_); (case side1 => exact cw_ HR1.out HB.out); (case side2 => exact HC1.out); rintro e w32 ⟨v224, rfl, ho0, hb⟩; refine ⟨_, rfl, ?_⟩; have n0_ := a_ (Kd.R_lower ho0 (below_size (bS1_ HB.out GE219.out))); have n1_ := a_ (kb_ BK219.out hb); have n2_ := a_ (below_step (bS1_ HB.out GE219.out) hb); clear BK219; clear HB; have HO225 := n0_; have BK219 := n1_; have HB := n2_; clear n0_ n1_ n2_; (try clear hb); (try clear hb2); (try clear hk); (try clear hi); (try clear ho0)) | ((with_reducible refine gate_dst (N := 8) rfl ?_); refine box_event ?hg (N := 8) ?hd (cs := #[.int .i64 0, .int .i64 0]) (t := 26) ?hr ?_; (case hd => rfl); (case hg => rfl); (case hr => first | (go_simp; done) | (go_simp; rfl)); intro gb228 hg w33 hbox hb; have n0_ := a_ (Kd.R_below (rv_ HO225.out) hb); have n1_ := a_ (kb_ BK219.out hb); have n2_ := a_ (below_step (bS1_ HB.out GE219.out) hb); have n3_ := a_ (hbox); have n4_ := a_ ((by rw [hg]; exact (below_size (bS1_ HB.out GE219.out)) : w.heap.size ≤ gb228)); have n5_ := a_ ((by rw [hg]; exact (below_size (bS1_ HB.out GE219.out)) : w.heap.size ≤ gb228)); have n6_ := a_ ((by rw [hg]; exact Nat.ne_of_lt (blk_lt (kv_ BK219.out)) : gb219 ≠ gb228)); have n7_ := a_ ((by rw [hg]; exact Nat.ne_of_gt (blk_lt (kv_ BK219.out)) : gb228 ≠ gb219)); clear HO225; clear BK219; clear HB; have HO225 := n0_; have BK219 := n1_; have HB := n2_; have BK228 := n3_; have GW228 := n4_; have GE228 := n5_; have NB219_228 := n6_; have NB228_219 := n7_; clear n0_ n1_ n2_ n3_ n4_ n5_ n6_ n7_; clear hb hbox hg; have hnb34 := NB228_219.out; have hnc34 := NB219_228.out; obtain ⟨⟨Z35_0, Y35_0⟩, Z35_1, Y35_1⟩ := cs2_ BK228.out) | ((with_reducible refine gate_callee (f := 17) rfl ?_); refine gl_ (some 46) Try.func17 (by kernel_rfl) #[.slice A1 l1.length c1] ?_; (with_reducible refine (variorumref06_Real.calls kj4 _ _ l1 t229 _ ?side1 ?side2 A31.out).mono ?_); (case side1 => exact Kd.C_below HR1.out (bS2_ HB.out GE219.out GE228.out)); (case side2 => exact HC1.out); rintro e w36 ⟨v230, rfl, ho0, hb⟩; refine ⟨_, rfl, ?_⟩; have n0_ := a_ (Kd.R_below (by (with_reducible repeat (first | apply Kd.R_alloc | apply Kd.R_drewN | apply Kd.R_drew)); exact (Kd.R_mono (Kd.R_far (p := ⟨gb228, 1, none⟩) (Kd.R_far (p := ⟨gb228, 0, none⟩) (Kd.R_types HO225.out BK228.out (by decide)) (fun _ hk => hk.2) (.int .i64 t226)) (fun _ hk => hk.2) (.int .i64 t227)) (fun _ h_ => h_.1))) hb); have n1_ := a_ (Kd.R_lower ho0 (below_size (bS2_ HB.out GE219.out GE228.out))); have n2_ := a_ (blk_below (kf1_ BK219.out NB219_228.out) hb); have n3_ := a_ (blk_below (g := gb228) (o := .cells #[.int .i64 t226, .int .i64 t227] 26 (0, 0)) (kp0_ BK228.out) hb); have n4_ := a_ (below_step (bS2_ HB.out GE219.out GE228.out) hb); clear HO225; clear BK219; clear BK228; clear HB; have HO225 := n0_; have HO231 := n1_; have BK219 := n2_; have BK228 := n3_; have HB := n4_; clear n0_ n1_ n2_ n3_ n4_; (try clear hb); (try clear hb2); (try clear hk); (try clear hi); (try clear ho0)))
     go_loopg [10] kj4 (fun kq v10 w' => ∃ (x9_2 : List (S44)) (x10_2 : Int), v10 = .int .i64 x10_2 ∧ Aside0 (variorumlaw06_TreeBack.l0 kq t223 x9_2 x10_2 = some r) ∧ Aside0 (kq ≤ kj4) ∧ Aside0 (Kd.R k38 38 w' w.heap.size (fun _ => True) v224 t223) ∧ Aside0 (Kd.R k44 44 w' w.heap.size (fun _ => True) v230 x9_2) ∧ Aside0 (w'.heap[gb219]? = some (.cells #[.int .i64 t217, .int .i64 t218] 26 (0, 0))) ∧ Aside0 (w'.heap[gb228]? = some (.cells #[.int .i64 t226, .int .i64 t227] 26 (0, 0))) ∧ Aside0 (Below w.heap.size w w'))
     case atStart => exact ⟨(t229), (0), (by first | rfl | (simp; done) | (simp [*]; done)), H', ⟨Nat.le_refl _⟩, ⟨by (with_reducible repeat (first | apply Kd.R_alloc | apply Kd.R_drewN | apply Kd.R_drew)); exact HO225.out⟩, ⟨by (with_reducible repeat (first | apply Kd.R_alloc | apply Kd.R_drewN | apply Kd.R_drew)); exact HO231.out⟩, ⟨kv_ BK219.out⟩, ⟨kv_ BK228.out⟩, ⟨bS2_ HB.out GE219.out GE228.out⟩⟩
     case round =>
      clear H'
      try clear c1
      try clear c2
      try clear p2
      try clear c3
      try clear c6
      try clear c7
      try clear c9
      try clear c12
      try clear c14
      try clear c15
      try clear c15b0
      try clear c15b1
      try clear c17
      try clear c28
      try clear c30
      try clear c30b0
      try clear c30b1
      try clear c34
      try clear Z10_0
      try clear Z10_1
      try clear Z19_0
      try clear Z19_1
      try clear Z24_0
      try clear Z24_1
      try clear Z35_0
      try clear Z35_1
      try clear Y10_0
      try clear Y10_1
      try clear Y19_0
      try clear Y19_1
      try clear Y24_0
      try clear Y24_1
      try clear Y35_0
      try clear Y35_1
      try clear p2
      obtain ⟨x9_2, x10_2, rfl, HA, HK2, HO_7, HO_9, BK219, BK228, HB⟩ := hrel
      cases gk with
      | zero => exact absurd HA.out (by simp [variorumlaw06_TreeBack.l0])
      | succ k2 =>
       have H := HA.out
       clear HA
       simp only [variorumlaw06_TreeBack.l0] at H
       by_cases c37 : x10_2 < (x9_2.length : Int)
       ·rw [if_pos c37] at H
        have c37b0 : decide (x10_2 < (x9_2.length : Int)) = true := decide_eq_true c37
        clear c37
        by_cases c38 : 0 ≤ x10_2
        ·rw [if_pos c38] at H
         have c38b0 : decide (0 ≤ x10_2) = true := decide_eq_true c38
         clear c38
         by_cases c39 : ((rd_T44 x9_2 x10_2).f0) > 1
         ·rw [if_pos c39] at H
          have c39b0 : decide (1 < ((rd_T44 x9_2 x10_2).f0)) = true := decide_eq_true c39
          clear c39
          obtain ⟨y233, hy233⟩ : ∃ y_ : List (S44), y_ = (x9_2.set (x10_2 : Int).toNat (⟨(rd_T44 x9_2 x10_2).f0, (⟨#[]⟩ : ByteArray), (rd_T44 x9_2 x10_2).f2⟩ : S44)) := ⟨_, rfl⟩
          replace H : (variorumlaw06_TreeBack.l0 k2 t223 y233 (wrap64 (x10_2 + 1))) = some r := by first | (rw [hy233]; with_reducible exact H) | (have H2_ := (Option.bind_some _ _).symm.trans H; rw [hy233]; with_reducible exact H2_) | (have H2_ := (Option.bind_some _ _).symm.trans H; with_reducible exact H2_) | with_reducible exact H | (rw [hy233]; exact H) | exact H
          have Ny233 := a_ hy233
          clear hy233
          have H' := a_ H
          clear H
          obtain ⟨Ao41, co41, eo41⟩ := Kd.R_slice HO_9.out
          subst eo41
          have p232 : 0 ≤ (x10_2 : Int) := od_
          have q232 : x10_2 < (x9_2.length : Int) := od_
          obtain ⟨ad232, e232, hx232_0, hx232_1, hx232_2⟩ := at_T44 (Kd.R_reads' HO_9.out).2.2 x10_2 p232 q232
          cases e232
          replace p232 := eq_true p232
          replace q232 := eq_true q232
          have p40 : 0 ≤ (x10_2 : Int) := od_
          have q40 : (x10_2 : Int) < ((x9_2.length : Int) : Int) := od_
          obtain ⟨go40, co40, eo40, gb40, gl40, cl40, HG40⟩ := Kd.R_form HO_9.out (by omega)
          (first | cases eo40 | (injection eo40 with ea_ en_ ec_; (first | subst ea_ | (injection ea_ with ea_; subst ea_)); subst ec_; clear en_))
          have GB40 := a_ gb40
          have GG40 := a_ HG40
          clear gb40 gl40 HG40
          (first | simp only [add_plain] at hx232_0 | skip)
          (first | simp only [add_plain] at hx232_1 | skip)
          (first | simp only [add_plain] at hx232_2 | skip)
          obtain ⟨ce40, hcl40, hM40, hcc40, hfr40⟩ := Kd.R_elem HO_9.out z44 (x10_2 : Int) p40 q40
          obtain rfl := k44_openM hM40
          have hx40_0 : wr.cell? ⟨go40, (x10_2 : Int).toNat * 3, none⟩ = some (.int .i64 ((rd_T44 x9_2 x10_2).f0)) := hcc40 0 _ rfl
          have hx40_1 : wr.cell? ⟨go40, (x10_2 : Int).toNat * 3 + 1, none⟩ = some (.string ((rd_T44 x9_2 x10_2).f1)) := hcc40 1 _ rfl
          have hx40_2 : wr.cell? ⟨go40, (x10_2 : Int).toNat * 3 + 2, none⟩ = some (.int .i64 ((rd_T44 x9_2 x10_2).f2)) := hcc40 2 _ rfl
          have hf40_0 : wr.frozen? ⟨go40, (x10_2 : Int).toNat * 3, none⟩ = false := hfr40 0
          have hf40_1 : wr.frozen? ⟨go40, (x10_2 : Int).toNat * 3 + 1, none⟩ = false := hfr40 1
          have hf40_2 : wr.frozen? ⟨go40, (x10_2 : Int).toNat * 3 + 2, none⟩ = false := hfr40 2
          clear hcl40 hcc40 hfr40 hM40
          replace p40 := eq_true p40
          replace q40 := eq_true q40
          have HX42 := a_ (show Kd.R k44 44 wr w.heap.size (fun _ => True) (.slice (some ⟨go40, 0, none⟩) x9_2.length co41) x9_2 from (rv_ HO_9.out))
          obtain ⟨ce42, hcl42, hM42, hcc42, hfr42⟩ := Kd.R_elem HX42.out z44 (x10_2 : Int) (od_) (by have h_ : (x10_2 : Int) < ((x9_2.length : Int) : Int) := od_; first | exact h_ | (have e_ := (Kd.R_reads' HO_9.out).1; omega) | simpa using h_)
          obtain rfl := k44_openM hM42
          have HP42 := Kd.R_seg HX42.out (x10_2 : Int) (od_) (by have h_ : (x10_2 : Int) < ((x9_2.length : Int) : Int) := od_; first | exact h_ | (have e_ := (Kd.R_reads' HO_9.out).1; omega) | simpa using h_) (seg := [.string (⟨#[]⟩ : ByteArray)]) (j := 1) hcl42 hcc42 (show 2 ≤ 3 from by decide) (x' := (⟨(rd_T44 x9_2 x10_2).f0, (⟨#[]⟩ : ByteArray), (rd_T44 x9_2 x10_2).f2⟩ : S44)) (k44_mkM _ _ _ (⟨(rd_T44 x9_2 x10_2).f0, (⟨#[]⟩ : ByteArray), (rd_T44 x9_2 x10_2).f2⟩ : S44) ) (fun _ hk => hk)
          have hx42_1 := hcc42 1 _ rfl
          (try simp only [show (k44).sz = 3 from rfl, Nat.mul_one, Nat.add_zero] at hx42_1)
          have hf42_1 := hfr42 1
          (try simp only [show (k44).sz = 3 from rfl, Nat.mul_one, Nat.add_zero] at hf42_1)
          clear hcl42 hcc42 hfr42 hM42
          go_wp2_with (first | ((with_reducible refine gate_store (t := 9) (p := 62) rfl ?_); refine store_event (t := 9) (p := 62) (v := ?vo_w43) (w1 := (wr.setCell ⟨go40, (x10_2 : Int).toNat * 3 + 1, none⟩ (.string (⟨#[]⟩ : ByteArray)))) ?hg ?ho ?hn ?hr ?_; (case ho => rfl); (case hg => rfl); (case hn => rfl); (case hr => first | (go_simp; done) | (go_simp; rfl)); intro w43 hw; have hg : wr.grownBy w43 (some go40) := (by rw [hw]; exact HP42.2); have hp_ : Kd.R k44 44 w43 w.heap.size (fun _ => True) (.slice (some ⟨go40, 0, none⟩) x9_2.length co41) y233 := (by rw [hw, Ny233.out]; exact HP42.1); clear HP42; have n0_ := a_ (Kd.R_over' (v := (.slice (some ⟨go40, 0, none⟩) x9_2.length co41)) (rv_ HO_7.out) (Kd.R_typed HO_9.out) (by decide) hg); have n1_ := a_ (hp_); have n2_ := a_ (blk_grown (g := gb219) (o := .cells #[.int .i64 t217, .int .i64 t218] 26 (0, 0)) (kv_ BK219.out) hg (Kd.R_ne HO_9.out BK219.out (by decide))); have n3_ := a_ (blk_grown (g := gb228) (o := .cells #[.int .i64 t226, .int .i64 t227] 26 (0, 0)) (kv_ BK228.out) hg (Kd.R_ne HO_9.out BK228.out (by decide))); have n4_ := a_ ((by rw [hw]; exact below_set (HB.out) GB40.out : Below w.heap.size w w43)); clear HO_7; clear HO_9; clear BK219; clear BK228; clear HB; have HO_7 := n0_; have HO_9 := n1_; have BK219 := n2_; have BK228 := n3_; have HB := n4_; clear n0_ n1_ n2_ n3_ n4_; clear hg hw hp_))
          go_roundg k2
          case measure => have := HJ4.out; have := HK2.out; omega
          case rel => exact ⟨(y233), (wrap64 (x10_2 + 1)), (by first | rfl | (simp; done) | (simp [*]; done)), H', ⟨by have := HJ4.out; have := HK2.out; omega⟩, ⟨by (with_reducible repeat (first | apply Kd.R_alloc | apply Kd.R_drewN | apply Kd.R_drew)); exact HO_7.out⟩, ⟨by (with_reducible repeat (first | apply Kd.R_alloc | apply Kd.R_drewN | apply Kd.R_drew)); exact HO_9.out⟩, ⟨kv_ BK219.out⟩, ⟨kv_ BK228.out⟩, ⟨bS2_ HB.out GE219.out GE228.out⟩⟩
         ·rw [if_neg c39] at H
          have c39b0 : decide (1 < ((rd_T44 x9_2 x10_2).f0)) = false := decide_eq_false c39
          clear c39
          have H' := a_ H
          clear H
          obtain ⟨Ao44, co44, eo44⟩ := Kd.R_slice HO_9.out
          subst eo44
          have p232 : 0 ≤ (x10_2 : Int) := od_
          have q232 : x10_2 < (x9_2.length : Int) := od_
          obtain ⟨ad232, e232, hx232_0, hx232_1, hx232_2⟩ := at_T44 (Kd.R_reads' HO_9.out).2.2 x10_2 p232 q232
          cases e232
          replace p232 := eq_true p232
          replace q232 := eq_true q232
          go_wp2
          go_roundg k2
          case measure => have := HJ4.out; have := HK2.out; omega
          case rel => exact ⟨(x9_2), (wrap64 (x10_2 + 1)), (by first | rfl | (simp; done) | (simp [*]; done)), H', ⟨by have := HJ4.out; have := HK2.out; omega⟩, ⟨by (with_reducible repeat (first | apply Kd.R_alloc | apply Kd.R_drewN | apply Kd.R_drew)); exact HO_7.out⟩, ⟨by (with_reducible repeat (first | apply Kd.R_alloc | apply Kd.R_drewN | apply Kd.R_drew)); exact HO_9.out⟩, ⟨kv_ BK219.out⟩, ⟨kv_ BK228.out⟩, ⟨bS2_ HB.out GE219.out GE228.out⟩⟩
        ·rw [if_neg c38] at H
         exact absurd H (by simp)
       ·rw [if_neg c37] at H
        have c37b0 : decide (x10_2 < (x9_2.length : Int)) = false := decide_eq_false c37
        clear c37
        replace H := Option.bind_eq_some_iff.mp H
        obtain ⟨t234, A450, H⟩ := H
        replace H : (if t234 = true then ((tree_Flat.f k2 t223).bind fun t235 => ((variorumref05_Plain.f k2 t235).bind fun t238 => ((variorumref05_Plain.f k2 x9_2).bind fun t241 => ((variorumref05_Same.f k2 t238 t241).bind fun t244 => (some t244))))) else (none)) = some r := H
        have A45 := a_ A450
        clear A450
        by_cases c46 : t234 = true
        ·subst c46
         have H1 : ((tree_Flat.f k2 t223).bind fun t235 => ((variorumref05_Plain.f k2 t235).bind fun t238 => ((variorumref05_Plain.f k2 x9_2).bind fun t241 => ((variorumref05_Same.f k2 t238 t241).bind fun t244 => (some t244))))) = some r := by rw [if_pos rfl] at H; exact H
         clear H
         have H := H1
         clear H1
         replace H := Option.bind_eq_some_iff.mp H
         obtain ⟨t235, A470, H⟩ := H
         replace H : ((variorumref05_Plain.f k2 t235).bind fun t238 => ((variorumref05_Plain.f k2 x9_2).bind fun t241 => ((variorumref05_Same.f k2 t238 t241).bind fun t244 => (some t244)))) = some r := H
         have A47 := a_ A470
         clear A470
         replace H := Option.bind_eq_some_iff.mp H
         obtain ⟨t238, A480, H⟩ := H
         replace H : ((variorumref05_Plain.f k2 x9_2).bind fun t241 => ((variorumref05_Same.f k2 t238 t241).bind fun t244 => (some t244))) = some r := H
         have A48 := a_ A480
         clear A480
         replace H := Option.bind_eq_some_iff.mp H
         obtain ⟨t241, A490, H⟩ := H
         replace H : ((variorumref05_Same.f k2 t238 t241).bind fun t244 => (some t244)) = some r := H
         have A49 := a_ A490
         clear A490
         replace H := Option.bind_eq_some_iff.mp H
         obtain ⟨t244, A500, H⟩ := H
         replace H : (some t244) = some r := H
         have A50 := a_ A500
         clear A500
         obtain rfl := Option.some.inj H
         obtain ⟨Ao51, co51, eo51⟩ := Kd.R_slice HO_9.out
         subst eo51
         obtain ⟨Ao52, co52, eo52⟩ := Kd.R_slice HO_7.out
         subst eo52
         go_wp2_with (first | ((with_reducible refine gate_callee (f := 11) rfl ?_); refine gl_ (some 64) Try.func11 (by kernel_rfl) #[.slice Ao52 t223.length co52] ?_; (with_reducible refine (tree_May.calls k2 _ _ t223 true _ ?side1 ?side2 A45.out).mono ?_); (case side1 => exact cr_ (Kd.R_reads' HO_7.out).2.2); (case side2 => exact (Kd.R_reads' HO_7.out).2.1); rintro e w53 ⟨rfl, hb⟩; refine ⟨_, rfl, ?_⟩; have n0_ := a_ (Kd.R_below (rv_ HO_7.out) hb); have n1_ := a_ (Kd.R_below (rv_ HO_9.out) hb); have n2_ := a_ (kb_ BK219.out hb); have n3_ := a_ (kb_ BK228.out hb); have n4_ := a_ (below_step (bS2_ HB.out GE219.out GE228.out) hb); clear HO_7; clear HO_9; clear BK219; clear BK228; clear HB; have HO_7 := n0_; have HO_9 := n1_; have BK219 := n2_; have BK228 := n3_; have HB := n4_; clear n0_ n1_ n2_ n3_ n4_; (try clear hb); (try clear hb2); (try clear hk); (try clear hi)) | (go_at_call 15; (with_reducible refine (tree_Flat.calls k2 _ _ t223 t235 _ ?side1 ?side2 A47.out).mono ?_); (case side1 => exact cr_ (Kd.R_reads' HO_7.out).2.2); (case side2 => exact (Kd.R_reads' HO_7.out).2.1); rintro e w54 ⟨v236, rfl, ho0, hb⟩; have n0_ := a_ (Kd.R_below (rv_ HO_7.out) hb); have n1_ := a_ (Kd.R_elder' (rv_ HO_9.out) (Kd.R_base ho0) hb); have n2_ := a_ (Kd.R_lower (Kd.R_new' ho0 (Kd.R_lt (rv_ HO_9.out))) (below_size (bS2_ HB.out GE219.out GE228.out))); have n3_ := a_ (kb_ BK219.out hb); have n4_ := a_ (kb_ BK228.out hb); have n5_ := a_ (below_step (bS2_ HB.out GE219.out GE228.out) hb); clear HO_7; clear HO_9; clear BK219; clear BK228; clear HB; have HO_7 := n0_; have HO_9 := n1_; have HO237 := n2_; have BK219 := n3_; have BK228 := n4_; have HB := n5_; clear n0_ n1_ n2_ n3_ n4_ n5_; (try clear hb); (try clear hb2); (try clear hk); (try clear hi); (try clear ho0); obtain ⟨Ao55, co55, eo55⟩ := Kd.R_slice HO237.out; subst eo55) | (go_at_call 19; (with_reducible refine (variorumref05_Plain.calls k2 _ _ t235 t238 _ ?side1 ?side2 A48.out).mono ?_); (case side1 => exact cr_ (Kd.R_reads' HO237.out).2.2); (case side2 => exact (Kd.R_reads' HO237.out).2.1); rintro e w56 ⟨v239, rfl, ho0, hb⟩; have n0_ := a_ (Kd.R_below (rv_ HO_7.out) hb); have n1_ := a_ (Kd.R_elder' (rv_ HO_9.out) (Kd.R_base ho0) hb); have n2_ := a_ (Kd.R_elder' (rv_ HO237.out) (Kd.R_base ho0) hb); have n3_ := a_ (Kd.R_lower (Kd.R_new' (Kd.R_new' ho0 (Kd.R_lt (rv_ HO_9.out))) (Kd.R_lt (rv_ HO237.out))) (below_size (bS2_ HB.out GE219.out GE228.out))); have n4_ := a_ (kb_ BK219.out hb); have n5_ := a_ (kb_ BK228.out hb); have n6_ := a_ (below_step (bS2_ HB.out GE219.out GE228.out) hb); clear HO_7; clear HO_9; clear HO237; clear BK219; clear BK228; clear HB; have HO_7 := n0_; have HO_9 := n1_; have HO237 := n2_; have HO240 := n3_; have BK219 := n4_; have BK228 := n5_; have HB := n6_; clear n0_ n1_ n2_ n3_ n4_ n5_ n6_; (try clear hb); (try clear hb2); (try clear hk); (try clear hi); (try clear ho0)) | (go_at_call 19; (with_reducible refine (variorumref05_Plain.calls k2 _ _ x9_2 t241 _ ?side1 ?side2 A49.out).mono ?_); (case side1 => exact cr_ (Kd.R_reads' HO_9.out).2.2); (case side2 => exact (Kd.R_reads' HO_9.out).2.1); rintro e w57 ⟨v242, rfl, ho0, hb⟩; have n0_ := a_ (Kd.R_below (rv_ HO_7.out) hb); have n1_ := a_ (Kd.R_elder' (rv_ HO_9.out) (Kd.R_base ho0) hb); have n2_ := a_ (Kd.R_elder' (rv_ HO237.out) (Kd.R_base ho0) hb); have n3_ := a_ (Kd.R_elder' (rv_ HO240.out) (Kd.R_base ho0) hb); have n4_ := a_ (Kd.R_lower (Kd.R_new' (Kd.R_new' (Kd.R_new' ho0 (Kd.R_lt (rv_ HO_9.out))) (Kd.R_lt (rv_ HO237.out))) (Kd.R_lt (rv_ HO240.out))) (below_size (bS2_ HB.out GE219.out GE228.out))); have n5_ := a_ (kb_ BK219.out hb); have n6_ := a_ (kb_ BK228.out hb); have n7_ := a_ (below_step (bS2_ HB.out GE219.out GE228.out) hb); clear HO_7; clear HO_9; clear HO237; clear HO240; clear BK219; clear BK228; clear HB; have HO_7 := n0_; have HO_9 := n1_; have HO237 := n2_; have HO240 := n3_; have HO243 := n4_; have BK219 := n5_; have BK228 := n6_; have HB := n7_; clear n0_ n1_ n2_ n3_ n4_ n5_ n6_ n7_; (try clear hb); (try clear hb2); (try clear hk); (try clear hi); (try clear ho0); obtain ⟨Ao58, co58, eo58⟩ := Kd.R_slice HO240.out; subst eo58; obtain ⟨Ao59, co59, eo59⟩ := Kd.R_slice HO243.out; subst eo59) | (go_at_call 18; (with_reducible refine (variorumref05_Same.calls k2 _ _ t238 _ _ t241 t244 _ ?side1 ?side2 ?side3 ?side4 A50.out).mono ?_); (case side1 => exact cr_ (Kd.R_reads' HO240.out).2.2); (case side2 => exact (Kd.R_reads' HO240.out).2.1); (case side3 => exact cr_ (Kd.R_reads' HO243.out).2.2); (case side4 => exact (Kd.R_reads' HO243.out).2.1); rintro e w' ⟨rfl, ⟨nd, rfl⟩⟩))
         go_ret
         exact ⟨by first | rfl | (simp [errW_none, errW_some] <;> rfl) | (simp [*, errW_none, errW_some] <;> rfl), bS2_ HB.out GE219.out GE228.out⟩
        ·replace c46 := Bool.eq_false_iff.mpr c46
         subst c46
         have H1 : (none) = some r := by rw [if_neg (show ¬ (false = true) by decide)] at H; exact H
         clear H
         have H := H1
         clear H1
         exact absurd H (by simp)
    ·rw [if_neg c30] at H
     have c30b0 : (t226 == 0) = false := beq_eq_false_iff_ne.mpr c30
     have c30b1 : (t226 != 0) = true := bne_iff_ne.mpr c30
     obtain rfl := Option.some.inj H
     go_wp2_with (first | ((with_reducible refine gate_callee (f := 7) rfl ?_); refine gl_ (some 36) Try.func7 (by kernel_rfl) #[.slice A1 l1.length c1] ?_; (with_reducible refine (tree_Parse.calls kj4 _ _ l1 t223 t226 t227 _ ?side1 ?side2 A29.out).mono ?_); (case side1 => exact cw_ HR1.out HB.out); (case side2 => exact HC1.out); rintro e w60 ⟨v224, rfl, ho0, hb⟩; refine ⟨_, rfl, ?_⟩; have n0_ := a_ (Kd.R_lower ho0 (below_size (bS1_ HB.out GE219.out))); have n1_ := a_ (kb_ BK219.out hb); have n2_ := a_ (below_step (bS1_ HB.out GE219.out) hb); clear BK219; clear HB; have HO225 := n0_; have BK219 := n1_; have HB := n2_; clear n0_ n1_ n2_; (try clear hb); (try clear hb2); (try clear hk); (try clear hi); (try clear ho0)) | ((with_reducible refine gate_dst (N := 8) rfl ?_); refine box_event ?hg (N := 8) ?hd (cs := #[.int .i64 0, .int .i64 0]) (t := 26) ?hr ?_; (case hd => rfl); (case hg => rfl); (case hr => first | (go_simp; done) | (go_simp; rfl)); intro gb228 hg w61 hbox hb; have n0_ := a_ (Kd.R_below (rv_ HO225.out) hb); have n1_ := a_ (kb_ BK219.out hb); have n2_ := a_ (below_step (bS1_ HB.out GE219.out) hb); have n3_ := a_ (hbox); have n4_ := a_ ((by rw [hg]; exact (below_size (bS1_ HB.out GE219.out)) : w.heap.size ≤ gb228)); have n5_ := a_ ((by rw [hg]; exact (below_size (bS1_ HB.out GE219.out)) : w.heap.size ≤ gb228)); have n6_ := a_ ((by rw [hg]; exact Nat.ne_of_lt (blk_lt (kv_ BK219.out)) : gb219 ≠ gb228)); have n7_ := a_ ((by rw [hg]; exact Nat.ne_of_gt (blk_lt (kv_ BK219.out)) : gb228 ≠ gb219)); clear HO225; clear BK219; clear HB; have HO225 := n0_; have BK219 := n1_; have HB := n2_; have BK228 := n3_; have GW228 := n4_; have GE228 := n5_; have NB219_228 := n6_; have NB228_219 := n7_; clear n0_ n1_ n2_ n3_ n4_ n5_ n6_ n7_; clear hb hbox hg; have hnb62 := NB228_219.out; have hnc62 := NB219_228.out; obtain ⟨⟨Z63_0, Y63_0⟩, Z63_1, Y63_1⟩ := cs2_ BK228.out; obtain ⟨Ao64, co64, eo64⟩ := Kd.R_slice HO225.out; subst eo64))
     go_ret
     exact ⟨by first | rfl | (simp [errW_none, errW_some] <;> rfl) | (simp [*, errW_none, errW_some] <;> rfl), bS2_ HB.out GE219.out GE228.out⟩

/-- The one statement about numbers and lists that is left of the law. -/
def variorumlaw06_TreeBack.Pure : Prop := ∀ (x0 : List (S38)) (x1 : List (S44)), (∃ n, NBk (.inl x0) n) → (bkN x0 ≤ 1048576) → (x1.length * 32 ≤ 140737488351232 ∧ ∀ y0 ∈ x1, ((Lit.int .i64 y0.f0).wf = true ∧ (y0.f1.size ≤ 140737488351232 ∧ ((Lit.int .i64 y0.f2).wf = true)))) → (Go.Proofs.Ytjppjlhhdfkloaa.OpenB.bulkOf (fun _ => 1) x1 ≤ 1048576) → ∃ k, variorumlaw06_TreeBack.f k x0 x1 = some true

end Go.Proofs.Ytjppjlhhdfkloaa.PTp

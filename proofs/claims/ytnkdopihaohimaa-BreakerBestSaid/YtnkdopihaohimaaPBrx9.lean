/- Written by a program of this session: functions of the given program as plain Lean functions, the walks that show it, and the row of each law, for every input that its statement speaks of. -/
import Derived.Test.YtnkdopihaohimaaPBrx0
import Derived.Test.YtnkdopihaohimaaPBrx4
import Derived.Test.YtnkdopihaohimaaPBrx8
namespace Go.Proofs.Ytnkdopihaohimaa.PBr
open Go.RowKit Go.Proofs.YtnkdopihaohimaaW.PrintWords Go.Proofs.YtnkdopihaohimaaW.PrintLast Go.Proofs.YtnkdopihaohimaaW.PrintMore
attribute [local go_sem] max2_int min2_int max_two min_two max_three min_three max_four min_four   -- for this text's walks alone
set_option linter.unusedVariables false
set_option linter.unusedSimpArgs false

/-! ### breaker_Break: function 11 -/
def breaker_Break.f (k : Nat) (l0 : List (S47)) (a1 : Int) : Option (List Int × Bool × Int × Int) := (item_May.f k l0).bind fun t159 => (if t159 = true then ((breaker_Best.f k l0 a1 200).bind fun bt160 => (if bt160.2.2 = true then (some (bt160.1, false, 0, 0)) else ((breaker_Best.f k l0 a1 10000).bind fun bt165 => (if bt165.2.2 = true then (some (bt165.1, true, 0, 0)) else (some (([] : List Int), false, 110, 0)))))) else (some (([] : List Int), false, 90, 0)))
theorem breaker_Break.mono : ∀ a0 a1 k, LeO (breaker_Break.f k a0 a1) (breaker_Break.f (k + 1) a0 a1) := by
 intro a0 a1 k
 unfold breaker_Break.f
 repeat' first
   | (with_reducible exact breaker_Best.mono _ _ _ _)
   | (with_reducible exact item_May.mono _ _)
   | (with_reducible exact LeO.refl _)
   | (with_reducible exact LeO.none _)
   | (with_reducible refine LeO.ite ?_ ?_)
   | (with_reducible refine LeO.bind ?_ (fun _ => ?_))
   | exact breaker_Best.mono _ _ _ _
   | exact item_May.mono _ _
   | exact LeO.none _
   | refine LeO.ite ?_ ?_
   | refine LeO.bind ?_ (fun _ => ?_)
set_option maxHeartbeats 8000000 in
set_option maxRecDepth 100000 in
theorem breaker_Break.calls (k : Nat) (A0 : Option Addr) (c0 : Nat) (l0 : List (S47)) (a1 : Int) (r1 : List Int) (r2 : Bool) (r3 : Int) (r4 : Int) (w : World) (hr0 : Kd.C k47 w A0 l0.length l0) (hc0 : l0.length ≤ c0) (h : breaker_Break.f k l0 a1 = some (r1, r2, r3, r4)) :
  Calls Try.prog 11 #[.slice A0 l0.length c0, .int .i64 a1] w fun e w' => ∃ v0_ : Value, e = .returned (.tuple #[v0_, .bool r2, .agg #[.int .i64 r3, .int .i64 r4]]) ∧ Kd.R (Kd.int .i64) 3 w' w.heap.size (fun _ => True) v0_ r1 ∧ Below w.heap.size w w' := by
 have hu29 := Try.underlying29
 have HR0 := a_ hr0
 have HC0 := a_ hc0
 clear hr0 hc0
 have HB := a_ (Below.refl w.heap.size w)
 have H : ((item_May.f k l0).bind fun t159 => (if t159 = true then ((breaker_Best.f k l0 a1 200).bind fun bt160 => (if bt160.2.2 = true then (some (bt160.1, false, 0, 0)) else ((breaker_Best.f k l0 a1 10000).bind fun bt165 => (if bt165.2.2 = true then (some (bt165.1, true, 0, 0)) else (some (([] : List Int), false, 110, 0)))))) else (some (([] : List Int), false, 90, 0)))) = some (r1, r2, r3, r4) := h
 clear h
 replace H := Option.bind_eq_some_iff.mp H
 obtain ⟨t159, A30, H⟩ := H
 replace H : (if t159 = true then ((breaker_Best.f k l0 a1 200).bind fun bt160 => (if bt160.2.2 = true then (some (bt160.1, false, 0, 0)) else ((breaker_Best.f k l0 a1 10000).bind fun bt165 => (if bt165.2.2 = true then (some (bt165.1, true, 0, 0)) else (some (([] : List Int), false, 110, 0)))))) else (some (([] : List Int), false, 90, 0))) = some (r1, r2, r3, r4) := H
 have A3 := a_ A30
 clear A30
 by_cases c4 : t159 = true
 ·subst c4
  have H1 : ((breaker_Best.f k l0 a1 200).bind fun bt160 => (if bt160.2.2 = true then (some (bt160.1, false, 0, 0)) else ((breaker_Best.f k l0 a1 10000).bind fun bt165 => (if bt165.2.2 = true then (some (bt165.1, true, 0, 0)) else (some (([] : List Int), false, 110, 0)))))) = some (r1, r2, r3, r4) := by rw [if_pos rfl] at H; exact H
  clear H
  have H := H1
  clear H1
  replace H := Option.bind_eq_some_iff.mp H
  obtain ⟨⟨t160, t161, t162⟩, A50, H⟩ := H
  replace H : (if t162 = true then (some (t160, false, 0, 0)) else ((breaker_Best.f k l0 a1 10000).bind fun bt165 => (if bt165.2.2 = true then (some (bt165.1, true, 0, 0)) else (some (([] : List Int), false, 110, 0))))) = some (r1, r2, r3, r4) := H
  have A5 := a_ A50
  clear A50
  by_cases c6 : t162 = true
  ·subst c6
   have H1 : (some (t160, false, 0, 0)) = some (r1, r2, r3, r4) := by rw [if_pos rfl] at H; exact H
   clear H
   have H := H1
   clear H1
   simp only [Option.some.injEq, Prod.mk.injEq] at H
   obtain ⟨rfl, rfl, rfl, rfl⟩ := H
   go_enter Try.func11, Try.ntmps11
   go_wp2_with (first | ((with_reducible refine gate_dst (N := 6) rfl ?_); refine box_event ?hg (N := 6) ?hd (cs := #[.int .i64 0, .int .i64 0]) (t := 29) ?hr ?_; (case hd => rfl); (case hg => rfl); (case hr => first | (go_simp; done) | (go_simp; rfl)); intro gb158 hg w7 hbox hb; have n0_ := a_ (bs_ HB.out hb); have n1_ := a_ (hbox); have n2_ := a_ ((by rw [hg]; exact (below_size (bv_ HB.out)) : w.heap.size ≤ gb158)); have n3_ := a_ ((by rw [hg]; exact (below_size (bv_ HB.out)) : w.heap.size ≤ gb158)); clear HB; have HB := n0_; have BK158 := n1_; have GW158 := n2_; have GE158 := n3_; clear n0_ n1_ n2_ n3_; clear hb hbox hg) | ((with_reducible refine gate_callee (f := 23) rfl ?_); refine gl_ (some 14) Try.func23 (by kernel_rfl) #[.slice A0 l0.length c0] ?_; (with_reducible refine (item_May.calls k _ _ l0 true _ ?side1 ?side2 A3.out).mono ?_); (case side1 => exact cw_ HR0.out HB.out); (case side2 => exact HC0.out); rintro e w8 ⟨rfl, hb⟩; refine ⟨_, rfl, ?_⟩; have n0_ := a_ (kb_ BK158.out hb); have n1_ := a_ (below_step (bS1_ HB.out GE158.out) hb); clear BK158; clear HB; have BK158 := n0_; have HB := n1_; clear n0_ n1_; (try clear hb); (try clear hb2); (try clear hk); (try clear hi)) | ((with_reducible refine gate_callee (f := 9) rfl ?_); refine gl_ (some 20) Try.func9 (by kernel_rfl) #[.slice A0 l0.length c0, .int .i64 a1, .int .i64 200] ?_; (with_reducible refine (breaker_Best.calls k _ _ l0 a1 200 t160 t161 true _ ?side1 ?side2 A5.out).mono ?_); (case side1 => exact cw_ HR0.out HB.out); (case side2 => exact HC0.out); rintro e w9 ⟨v163, rfl, ho0, hb⟩; refine ⟨_, rfl, ?_⟩; have n0_ := a_ (Kd.R_lower ho0 (below_size (bS1_ HB.out GE158.out))); have n1_ := a_ (kb_ BK158.out hb); have n2_ := a_ (below_step (bS1_ HB.out GE158.out) hb); clear BK158; clear HB; have HO164 := n0_; have BK158 := n1_; have HB := n2_; clear n0_ n1_ n2_; (try clear hb); (try clear hb2); (try clear hk); (try clear hi); (try clear ho0); obtain ⟨⟨Z10_0, Y10_0⟩, Z10_1, Y10_1⟩ := cs2_ BK158.out))
   refine bodyPost_ret (results_list (rs := [.tmp 4, .tmp 5, .cell 6 29]) rfl (by simp) (.tmp (.tmp (.cell gb158 29 #[.int .i64 0, .int .i64 0] (0, 0) _ rfl (kp0_ BK158.out) Try.underlying29 rfl (by kernel_rfl) .nil)))) rfl ?_
   exact ⟨_, by first | rfl | (simp [errW_none, errW_some] <;> rfl) | (simp [*, errW_none, errW_some] <;> rfl), by (with_reducible repeat (first | apply Kd.R_alloc | apply Kd.R_drewN | apply Kd.R_drew)); exact Kd.R_mono (Kd.R_far (p := ⟨gb158, 1, none⟩) (Kd.R_far (p := ⟨gb158, 0, none⟩) (Kd.R_types HO164.out BK158.out (by decide)) (fun _ hk => hk.2) (.int .i64 0)) (fun _ hk => hk.2) (.int .i64 0)) (fun _ hk => trivial), bS1_ HB.out GE158.out⟩
  ·replace c6 := Bool.eq_false_iff.mpr c6
   subst c6
   have H1 : ((breaker_Best.f k l0 a1 10000).bind fun bt165 => (if bt165.2.2 = true then (some (bt165.1, true, 0, 0)) else (some (([] : List Int), false, 110, 0)))) = some (r1, r2, r3, r4) := by rw [if_neg (show ¬ (false = true) by decide)] at H; exact H
   clear H
   have H := H1
   clear H1
   replace H := Option.bind_eq_some_iff.mp H
   obtain ⟨⟨t165, t166, t167⟩, A110, H⟩ := H
   replace H : (if t167 = true then (some (t165, true, 0, 0)) else (some (([] : List Int), false, 110, 0))) = some (r1, r2, r3, r4) := H
   have A11 := a_ A110
   clear A110
   by_cases c12 : t167 = true
   ·subst c12
    have H1 : (some (t165, true, 0, 0)) = some (r1, r2, r3, r4) := by rw [if_pos rfl] at H; exact H
    clear H
    have H := H1
    clear H1
    simp only [Option.some.injEq, Prod.mk.injEq] at H
    obtain ⟨rfl, rfl, rfl, rfl⟩ := H
    go_enter Try.func11, Try.ntmps11
    go_wp2_with (first | ((with_reducible refine gate_dst (N := 6) rfl ?_); refine box_event ?hg (N := 6) ?hd (cs := #[.int .i64 0, .int .i64 0]) (t := 29) ?hr ?_; (case hd => rfl); (case hg => rfl); (case hr => first | (go_simp; done) | (go_simp; rfl)); intro gb158 hg w13 hbox hb; have n0_ := a_ (bs_ HB.out hb); have n1_ := a_ (hbox); have n2_ := a_ ((by rw [hg]; exact (below_size (bv_ HB.out)) : w.heap.size ≤ gb158)); have n3_ := a_ ((by rw [hg]; exact (below_size (bv_ HB.out)) : w.heap.size ≤ gb158)); clear HB; have HB := n0_; have BK158 := n1_; have GW158 := n2_; have GE158 := n3_; clear n0_ n1_ n2_ n3_; clear hb hbox hg) | ((with_reducible refine gate_callee (f := 23) rfl ?_); refine gl_ (some 14) Try.func23 (by kernel_rfl) #[.slice A0 l0.length c0] ?_; (with_reducible refine (item_May.calls k _ _ l0 true _ ?side1 ?side2 A3.out).mono ?_); (case side1 => exact cw_ HR0.out HB.out); (case side2 => exact HC0.out); rintro e w14 ⟨rfl, hb⟩; refine ⟨_, rfl, ?_⟩; have n0_ := a_ (kb_ BK158.out hb); have n1_ := a_ (below_step (bS1_ HB.out GE158.out) hb); clear BK158; clear HB; have BK158 := n0_; have HB := n1_; clear n0_ n1_; (try clear hb); (try clear hb2); (try clear hk); (try clear hi)) | ((with_reducible refine gate_callee (f := 9) rfl ?_); refine gl_ (some 20) Try.func9 (by kernel_rfl) #[.slice A0 l0.length c0, .int .i64 a1, .int .i64 200] ?_; (with_reducible refine (breaker_Best.calls k _ _ l0 a1 200 t160 t161 false _ ?side1 ?side2 A5.out).mono ?_); (case side1 => exact cw_ HR0.out HB.out); (case side2 => exact HC0.out); rintro e w15 ⟨v163, rfl, ho0, hb⟩; refine ⟨_, rfl, ?_⟩; have n0_ := a_ (Kd.R_lower ho0 (below_size (bS1_ HB.out GE158.out))); have n1_ := a_ (kb_ BK158.out hb); have n2_ := a_ (below_step (bS1_ HB.out GE158.out) hb); clear BK158; clear HB; have HO164 := n0_; have BK158 := n1_; have HB := n2_; clear n0_ n1_ n2_; (try clear hb); (try clear hb2); (try clear hk); (try clear hi); (try clear ho0)) | ((with_reducible refine gate_callee (f := 9) rfl ?_); refine gl_ (some 30) Try.func9 (by kernel_rfl) #[.slice A0 l0.length c0, .int .i64 a1, .int .i64 10000] ?_; (with_reducible refine (breaker_Best.calls k _ _ l0 a1 10000 t165 t166 true _ ?side1 ?side2 A11.out).mono ?_); (case side1 => exact cw_ HR0.out HB.out); (case side2 => exact HC0.out); rintro e w16 ⟨v168, rfl, ho0, hb⟩; refine ⟨_, rfl, ?_⟩; have n0_ := a_ (Kd.R_elder' (rv_ HO164.out) (Kd.R_base ho0) hb); have n1_ := a_ (Kd.R_lower (Kd.R_new' ho0 (Kd.R_lt (rv_ HO164.out))) (below_size (bS1_ HB.out GE158.out))); have n2_ := a_ (kb_ BK158.out hb); have n3_ := a_ (below_step (bS1_ HB.out GE158.out) hb); clear HO164; clear BK158; clear HB; have HO164 := n0_; have HO169 := n1_; have BK158 := n2_; have HB := n3_; clear n0_ n1_ n2_ n3_; (try clear hb); (try clear hb2); (try clear hk); (try clear hi); (try clear ho0); obtain ⟨⟨Z17_0, Y17_0⟩, Z17_1, Y17_1⟩ := cs2_ BK158.out))
    refine bodyPost_ret (results_list (rs := [.tmp 4, .tmp 5, .cell 6 29]) rfl (by simp) (.tmp (.tmp (.cell gb158 29 #[.int .i64 0, .int .i64 0] (0, 0) _ rfl (kp0_ BK158.out) Try.underlying29 rfl (by kernel_rfl) .nil)))) rfl ?_
    exact ⟨_, by first | rfl | (simp [errW_none, errW_some] <;> rfl) | (simp [*, errW_none, errW_some] <;> rfl), by (with_reducible repeat (first | apply Kd.R_alloc | apply Kd.R_drewN | apply Kd.R_drew)); exact Kd.R_mono (Kd.R_far (p := ⟨gb158, 1, none⟩) (Kd.R_far (p := ⟨gb158, 0, none⟩) (Kd.R_types HO169.out BK158.out (by decide)) (fun _ hk => hk.2) (.int .i64 0)) (fun _ hk => hk.2) (.int .i64 0)) (fun _ hk => trivial), bS1_ HB.out GE158.out⟩
   ·replace c12 := Bool.eq_false_iff.mpr c12
    subst c12
    have H1 : (some (([] : List Int), false, 110, 0)) = some (r1, r2, r3, r4) := by rw [if_neg (show ¬ (false = true) by decide)] at H; exact H
    clear H
    have H := H1
    clear H1
    simp only [Option.some.injEq, Prod.mk.injEq] at H
    obtain ⟨rfl, rfl, rfl, rfl⟩ := H
    go_enter Try.func11, Try.ntmps11
    go_wp2_with (first | ((with_reducible refine gate_dst (N := 6) rfl ?_); refine box_event ?hg (N := 6) ?hd (cs := #[.int .i64 0, .int .i64 0]) (t := 29) ?hr ?_; (case hd => rfl); (case hg => rfl); (case hr => first | (go_simp; done) | (go_simp; rfl)); intro gb158 hg w18 hbox hb; have n0_ := a_ (bs_ HB.out hb); have n1_ := a_ (hbox); have n2_ := a_ ((by rw [hg]; exact (below_size (bv_ HB.out)) : w.heap.size ≤ gb158)); have n3_ := a_ ((by rw [hg]; exact (below_size (bv_ HB.out)) : w.heap.size ≤ gb158)); clear HB; have HB := n0_; have BK158 := n1_; have GW158 := n2_; have GE158 := n3_; clear n0_ n1_ n2_ n3_; clear hb hbox hg) | ((with_reducible refine gate_callee (f := 23) rfl ?_); refine gl_ (some 14) Try.func23 (by kernel_rfl) #[.slice A0 l0.length c0] ?_; (with_reducible refine (item_May.calls k _ _ l0 true _ ?side1 ?side2 A3.out).mono ?_); (case side1 => exact cw_ HR0.out HB.out); (case side2 => exact HC0.out); rintro e w19 ⟨rfl, hb⟩; refine ⟨_, rfl, ?_⟩; have n0_ := a_ (kb_ BK158.out hb); have n1_ := a_ (below_step (bS1_ HB.out GE158.out) hb); clear BK158; clear HB; have BK158 := n0_; have HB := n1_; clear n0_ n1_; (try clear hb); (try clear hb2); (try clear hk); (try clear hi)) | ((with_reducible refine gate_callee (f := 9) rfl ?_); refine gl_ (some 20) Try.func9 (by kernel_rfl) #[.slice A0 l0.length c0, .int .i64 a1, .int .i64 200] ?_; (with_reducible refine (breaker_Best.calls k _ _ l0 a1 200 t160 t161 false _ ?side1 ?side2 A5.out).mono ?_); (case side1 => exact cw_ HR0.out HB.out); (case side2 => exact HC0.out); rintro e w20 ⟨v163, rfl, ho0, hb⟩; refine ⟨_, rfl, ?_⟩; have n0_ := a_ (Kd.R_lower ho0 (below_size (bS1_ HB.out GE158.out))); have n1_ := a_ (kb_ BK158.out hb); have n2_ := a_ (below_step (bS1_ HB.out GE158.out) hb); clear BK158; clear HB; have HO164 := n0_; have BK158 := n1_; have HB := n2_; clear n0_ n1_ n2_; (try clear hb); (try clear hb2); (try clear hk); (try clear hi); (try clear ho0)) | ((with_reducible refine gate_callee (f := 9) rfl ?_); refine gl_ (some 30) Try.func9 (by kernel_rfl) #[.slice A0 l0.length c0, .int .i64 a1, .int .i64 10000] ?_; (with_reducible refine (breaker_Best.calls k _ _ l0 a1 10000 t165 t166 false _ ?side1 ?side2 A11.out).mono ?_); (case side1 => exact cw_ HR0.out HB.out); (case side2 => exact HC0.out); rintro e w21 ⟨v168, rfl, ho0, hb⟩; refine ⟨_, rfl, ?_⟩; have n0_ := a_ (Kd.R_elder' (rv_ HO164.out) (Kd.R_base ho0) hb); have n1_ := a_ (Kd.R_lower (Kd.R_new' ho0 (Kd.R_lt (rv_ HO164.out))) (below_size (bS1_ HB.out GE158.out))); have n2_ := a_ (kb_ BK158.out hb); have n3_ := a_ (below_step (bS1_ HB.out GE158.out) hb); clear HO164; clear BK158; clear HB; have HO164 := n0_; have HO169 := n1_; have BK158 := n2_; have HB := n3_; clear n0_ n1_ n2_ n3_; (try clear hb); (try clear hb2); (try clear hk); (try clear hi); (try clear ho0); obtain ⟨⟨Z22_0, Y22_0⟩, Z22_1, Y22_1⟩ := cs2_ BK158.out))
    refine bodyPost_ret (results_list (rs := [.tmp 4, .tmp 5, .cell 6 29]) rfl (by simp) (.tmp (.tmp (.cell gb158 29 #[.int .i64 110, .int .i64 0] (0, 0) _ rfl (kp0_ BK158.out) Try.underlying29 rfl (by kernel_rfl) .nil)))) rfl ?_
    exact ⟨_, by first | rfl | (simp [errW_none, errW_some] <;> rfl) | (simp [*, errW_none, errW_some] <;> rfl), by first | exact Kd.R_nil _ _ _ _ _ | exact Kd.N_nil _ _ _ _ _ | exact Kd.V_nil _ _ _ _ _ | exact Kd.Q_nil _ _ _ _ _ | exact Kd.S_nil _ _ _ _ _, bS1_ HB.out GE158.out⟩
 ·replace c4 := Bool.eq_false_iff.mpr c4
  subst c4
  have H1 : (some (([] : List Int), false, 90, 0)) = some (r1, r2, r3, r4) := by rw [if_neg (show ¬ (false = true) by decide)] at H; exact H
  clear H
  have H := H1
  clear H1
  simp only [Option.some.injEq, Prod.mk.injEq] at H
  obtain ⟨rfl, rfl, rfl, rfl⟩ := H
  go_enter Try.func11, Try.ntmps11
  go_wp2_with (first | ((with_reducible refine gate_dst (N := 6) rfl ?_); refine box_event ?hg (N := 6) ?hd (cs := #[.int .i64 0, .int .i64 0]) (t := 29) ?hr ?_; (case hd => rfl); (case hg => rfl); (case hr => first | (go_simp; done) | (go_simp; rfl)); intro gb158 hg w23 hbox hb; have n0_ := a_ (bs_ HB.out hb); have n1_ := a_ (hbox); have n2_ := a_ ((by rw [hg]; exact (below_size (bv_ HB.out)) : w.heap.size ≤ gb158)); have n3_ := a_ ((by rw [hg]; exact (below_size (bv_ HB.out)) : w.heap.size ≤ gb158)); clear HB; have HB := n0_; have BK158 := n1_; have GW158 := n2_; have GE158 := n3_; clear n0_ n1_ n2_ n3_; clear hb hbox hg) | ((with_reducible refine gate_callee (f := 23) rfl ?_); refine gl_ (some 14) Try.func23 (by kernel_rfl) #[.slice A0 l0.length c0] ?_; (with_reducible refine (item_May.calls k _ _ l0 false _ ?side1 ?side2 A3.out).mono ?_); (case side1 => exact cw_ HR0.out HB.out); (case side2 => exact HC0.out); rintro e w24 ⟨rfl, hb⟩; refine ⟨_, rfl, ?_⟩; have n0_ := a_ (kb_ BK158.out hb); have n1_ := a_ (below_step (bS1_ HB.out GE158.out) hb); clear BK158; clear HB; have BK158 := n0_; have HB := n1_; clear n0_ n1_; (try clear hb); (try clear hb2); (try clear hk); (try clear hi); obtain ⟨⟨Z25_0, Y25_0⟩, Z25_1, Y25_1⟩ := cs2_ BK158.out))
  refine bodyPost_ret (results_list (rs := [.tmp 4, .tmp 5, .cell 6 29]) rfl (by simp) (.tmp (.tmp (.cell gb158 29 #[.int .i64 90, .int .i64 0] (0, 0) _ rfl (kp0_ BK158.out) Try.underlying29 rfl (by kernel_rfl) .nil)))) rfl ?_
  exact ⟨_, by first | rfl | (simp [errW_none, errW_some] <;> rfl) | (simp [*, errW_none, errW_some] <;> rfl), by first | exact Kd.R_nil _ _ _ _ _ | exact Kd.N_nil _ _ _ _ _ | exact Kd.V_nil _ _ _ _ _ | exact Kd.Q_nil _ _ _ _ _ | exact Kd.S_nil _ _ _ _ _, bS1_ HB.out GE158.out⟩

/-! ### variorumref11_Ints: function 13 -/
def variorumref11_Ints.l0 : Nat → List Int → List Int → Int → Option (Bool)
 | 0, _, _, _ => none
 | k + 1, x0, x1, x5 => if x5 < (x0.length : Int) then (if 0 ≤ x5 then (if x5 < (x1.length : Int) then (if (rd x0 x5) = (rd x1 x5) then (variorumref11_Ints.l0 k x0 x1 (wrap64 (x5 + 1))) else (some false)) else (none)) else (none)) else (some true)
def variorumref11_Ints.f (k : Nat) (l0 : List Int) (l1 : List Int) : Option (Bool) := if (l0.length : Int) = (l1.length : Int) then (variorumref11_Ints.l0 k l0 l1 0) else (some false)
theorem variorumref11_Ints.mono_l : ∀ k, (∀ y0 y1 y2, LeO (variorumref11_Ints.l0 k y0 y1 y2) (variorumref11_Ints.l0 (k + 1) y0 y1 y2))
 | 0 => fun _ _ _ r h => by simp [variorumref11_Ints.l0] at h
 | k + 1 => by
  have ih0 := variorumref11_Ints.mono_l k
  ·intro y0 y1 y2
   unfold variorumref11_Ints.l0
   repeat' first | (with_reducible first | exact ih0 _ _ _ | exact LeO.refl _ | exact LeO.none _ | refine LeO.ite ?_ ?_ | refine LeO.bind ?_ (fun _ => ?_)) | exact LeO.none _ | refine LeO.ite ?_ ?_ | refine LeO.bind ?_ (fun _ => ?_)
theorem variorumref11_Ints.mono : ∀ a0 a1 k, LeO (variorumref11_Ints.f k a0 a1) (variorumref11_Ints.f (k + 1) a0 a1) := by
 intro a0 a1 k
 have ih0 := variorumref11_Ints.mono_l k
 unfold variorumref11_Ints.f
 repeat' first
   | (with_reducible exact ih0 _ _ _)
   | (with_reducible exact LeO.refl _)
   | (with_reducible exact LeO.none _)
   | (with_reducible refine LeO.ite ?_ ?_)
   | (with_reducible refine LeO.bind ?_ (fun _ => ?_))
   | exact ih0 _ _ _
   | exact LeO.none _
   | refine LeO.ite ?_ ?_
   | refine LeO.bind ?_ (fun _ => ?_)
set_option maxHeartbeats 8000000 in
set_option maxRecDepth 100000 in
theorem variorumref11_Ints.calls (k : Nat) (A0 : Option Addr) (c0 : Nat) (l0 : List Int) (A1 : Option Addr) (c1 : Nat) (l1 : List Int) (r : Bool) (w : World) (hr0 : Kd.C (Kd.int .i64) w A0 l0.length l0) (hc0 : l0.length ≤ c0) (hr1 : Kd.C (Kd.int .i64) w A1 l1.length l1) (hc1 : l1.length ≤ c1) (h : variorumref11_Ints.f k l0 l1 = some r) :
  Calls Try.prog 13 #[.slice A0 l0.length c0, .slice A1 l1.length c1] w fun e w' => e = .returned (.bool r) ∧ Drawn0 w w' := by
 have HR0 := a_ hr0
 have HC0 := a_ hc0
 clear hr0 hc0
 have HR1 := a_ hr1
 have HC1 := a_ hc1
 clear hr1 hc1
 have H : (if (l0.length : Int) = (l1.length : Int) then (variorumref11_Ints.l0 k l0 l1 0) else (some false)) = some r := h
 clear h
 by_cases c3 : (l0.length : Int) = (l1.length : Int)
 ·rw [if_pos c3] at H
  have c3b0 : ((l0.length : Int) == (l1.length : Int)) = true := beq_iff_eq.mpr c3
  have c3b1 : ((l0.length : Int) != (l1.length : Int)) = false := bne_eq_false_iff_eq.mpr c3
  have c3b2 : (l0.length == l1.length) = true := by first | simpa using c3 | (simp at c3 ⊢; omega)
  clear c3
  have H' := a_ H
  clear H
  go_enter Try.func13, Try.ntmps13
  go_wp2
  repeat (go_quiet (fail); try go_wp2)
  go_loopg [5] k (fun kq v5 w' => ∃ (x5_1 : Int), v5 = .int .i64 x5_1 ∧ Aside0 (variorumref11_Ints.l0 kq l0 l1 x5_1 = some r) ∧ Aside0 (kq ≤ k) ∧ Drawn0 w w')
  case atStart => exact ⟨(0), (by first | rfl | (simp; done) | (simp [*]; done)), H', ⟨Nat.le_refl _⟩, by repeat (first | exact Drawn0.refl _ | apply Drawn0.step)⟩
  case round =>
   clear H'
   try clear c1
   try clear p2
   try clear c3
   try clear c3b0
   try clear c3b1
   try clear c3b2
   obtain ⟨x5_1, rfl, HA, HK1, ⟨m1, rfl⟩⟩ := hrel
   cases gk with
   | zero => exact absurd HA.out (by simp [variorumref11_Ints.l0])
   | succ k1 =>
    have H := HA.out
    clear HA
    simp only [variorumref11_Ints.l0] at H
    by_cases c4 : x5_1 < (l0.length : Int)
    ·rw [if_pos c4] at H
     have c4b0 : decide (x5_1 < (l0.length : Int)) = true := decide_eq_true c4
     clear c4
     by_cases c5 : 0 ≤ x5_1
     ·rw [if_pos c5] at H
      have c5b0 : decide (0 ≤ x5_1) = true := decide_eq_true c5
      clear c5
      by_cases c6 : x5_1 < (l1.length : Int)
      ·rw [if_pos c6] at H
       have c6b0 : decide (x5_1 < (l1.length : Int)) = true := decide_eq_true c6
       clear c6
       by_cases c7 : (rd l0 x5_1) = (rd l1 x5_1)
       ·rw [if_pos c7] at H
        have c7b0 : ((rd l0 x5_1) == (rd l1 x5_1)) = true := beq_iff_eq.mpr c7
        have c7b1 : ((rd l0 x5_1) != (rd l1 x5_1)) = false := bne_eq_false_iff_eq.mpr c7
        clear c7
        have H' := a_ H
        clear H
        have p170 : 0 ≤ (x5_1 : Int) := od_
        have q170 : x5_1 < (l0.length : Int) := od_
        obtain ⟨ad170, e170, hx170_0⟩ := Kd.at_int HR0.out x5_1 p170 q170
        cases e170
        replace p170 := eq_true p170
        replace q170 := eq_true q170
        have p171 : 0 ≤ (x5_1 : Int) := od_
        have q171 : x5_1 < (l1.length : Int) := od_
        obtain ⟨ad171, e171, hx171_0⟩ := Kd.at_int HR1.out x5_1 p171 q171
        cases e171
        replace p171 := eq_true p171
        replace q171 := eq_true q171
        go_wp2
        repeat (go_quiet (fail); try go_wp2)
        go_roundg k1
        case measure => have := HK1.out; omega
        case rel => exact ⟨(wrap64 (x5_1 + 1)), (by first | rfl | (simp; done) | (simp [*]; done)), H', ⟨by have := HK1.out; omega⟩, by repeat (first | exact Drawn0.refl _ | apply Drawn0.step)⟩
       ·rw [if_neg c7] at H
        have c7b0 : ((rd l0 x5_1) == (rd l1 x5_1)) = false := beq_eq_false_iff_ne.mpr c7
        have c7b1 : ((rd l0 x5_1) != (rd l1 x5_1)) = true := bne_iff_ne.mpr c7
        obtain rfl := Option.some.inj H
        have p170 : 0 ≤ (x5_1 : Int) := od_
        have q170 : x5_1 < (l0.length : Int) := od_
        obtain ⟨ad170, e170, hx170_0⟩ := Kd.at_int HR0.out x5_1 p170 q170
        cases e170
        replace p170 := eq_true p170
        replace q170 := eq_true q170
        have p171 : 0 ≤ (x5_1 : Int) := od_
        have q171 : x5_1 < (l1.length : Int) := od_
        obtain ⟨ad171, e171, hx171_0⟩ := Kd.at_int HR1.out x5_1 p171 q171
        cases e171
        replace p171 := eq_true p171
        replace q171 := eq_true q171
        go_wp2
        repeat (go_quiet (fail); try go_wp2)
        go_ret
        exact ⟨by first | rfl | (simp; done) | (simp [*]; done), by repeat (first | exact Drawn0.refl _ | apply Drawn0.step)⟩
      ·rw [if_neg c6] at H
       exact absurd H (by simp)
     ·rw [if_neg c5] at H
      exact absurd H (by simp)
    ·rw [if_neg c4] at H
     have c4b0 : decide (x5_1 < (l0.length : Int)) = false := decide_eq_false c4
     clear c4
     obtain rfl := Option.some.inj H
     go_wp2
     repeat (go_quiet (fail); try go_wp2)
     go_ret
     exact ⟨by first | rfl | (simp; done) | (simp [*]; done), by repeat (first | exact Drawn0.refl _ | apply Drawn0.step)⟩
 ·rw [if_neg c3] at H
  have c3b0 : ((l0.length : Int) == (l1.length : Int)) = false := beq_eq_false_iff_ne.mpr c3
  have c3b1 : ((l0.length : Int) != (l1.length : Int)) = true := bne_iff_ne.mpr c3
  have c3b2 : (l0.length == l1.length) = false := by first | simpa using c3 | (simp at c3 ⊢; omega)
  obtain rfl := Option.some.inj H
  go_enter Try.func13, Try.ntmps13
  go_wp2
  repeat (go_quiet (fail); try go_wp2)
  go_ret
  exact ⟨by first | rfl | (simp; done) | (simp [*]; done), by repeat (first | exact Drawn0.refl _ | apply Drawn0.step)⟩

/-! ### variorumref09_End: function 31 -/
def variorumref09_End.f  : Option ((List (S47))) := some (([(⟨2, (⟨0, 0, 0, 0⟩ : S45), 10000, false, 0, 0⟩ : S47), (⟨1, (⟨0, 65536, 0, 1⟩ : S45), 0, false, 0, 0⟩ : S47), (⟨2, (⟨0, 0, 0, 0⟩ : S45), (-10000), false, 0, 0⟩ : S47)] : List (S47)))
set_option maxHeartbeats 8000000 in
set_option maxRecDepth 100000 in
theorem variorumref09_End.calls  (r : List (S47)) (w : World) (h : variorumref09_End.f  = some r) :
  Calls Try.prog 31 #[] w fun e w' => ∃ v0_ : Value, e = .returned (v0_) ∧ Kd.R k47 47 w' w.heap.size (fun _ => True) v0_ r ∧ Below w.heap.size w w' := by
 have hu47 := Try.underlying47
 have hu45 := Try.underlying45
 have HB := a_ (Below.refl w.heap.size w)
 have H : (some (([(⟨2, (⟨0, 0, 0, 0⟩ : S45), 10000, false, 0, 0⟩ : S47), (⟨1, (⟨0, 65536, 0, 1⟩ : S45), 0, false, 0, 0⟩ : S47), (⟨2, (⟨0, 0, 0, 0⟩ : S45), (-10000), false, 0, 0⟩ : S47)] : List (S47)))) = some r := h
 clear h
 obtain ⟨y172, hy172⟩ : ∃ y_ : List (S47), y_ = (([(⟨2, (⟨0, 0, 0, 0⟩ : S45), 10000, false, 0, 0⟩ : S47), (⟨1, (⟨0, 65536, 0, 1⟩ : S45), 0, false, 0, 0⟩ : S47), (⟨2, (⟨0, 0, 0, 0⟩ : S45), (-10000), false, 0, 0⟩ : S47)] : List (S47))) := ⟨_, rfl⟩
 replace H : (some y172) = some r := by first | (rw [hy172]; with_reducible exact H) | (have H2_ := (Option.bind_some _ _).symm.trans H; rw [hy172]; with_reducible exact H2_) | (have H2_ := (Option.bind_some _ _).symm.trans H; with_reducible exact H2_) | with_reducible exact H | (rw [hy172]; exact H) | exact H
 have Ny172 := a_ hy172
 clear hy172
 obtain rfl := Option.some.inj H
 go_enter Try.func31, Try.ntmps31
 go_wp2_with (first | ((with_reducible refine gate_dst (N := 5) rfl ?_); refine Kd.R_lit k47 _ 47 ?hg (N := 5) ?hd (xs := ([(⟨2, (⟨0, 0, 0, 0⟩ : S45), 10000, false, 0, 0⟩ : S47), (⟨1, (⟨0, 65536, 0, 1⟩ : S45), 0, false, 0, 0⟩ : S47), (⟨2, (⟨0, 0, 0, 0⟩ : S45), (-10000), false, 0, 0⟩ : S47)] : List (S47))) (inner := [.int .i64 2, .int .i64 0, .int .i64 0, .int .i64 0, .int .i64 0, .int .i64 10000, .bool false, .int .i64 0, .int .i64 0, .int .i64 1, .int .i64 0, .int .i64 65536, .int .i64 0, .int .i64 1, .int .i64 0, .bool false, .int .i64 0, .int .i64 0, .int .i64 2, .int .i64 0, .int .i64 0, .int .i64 0, .int .i64 0, .int .i64 (-10000), .bool false, .int .i64 0, .int .i64 0]) (ok := fun _ => True) (okp := fun _ => True) ?hr ?hp (fun _ hk => hk) trivial (Below.refl _ _) (Nat.le_refl _) (by simp) ?_; (case hd => rfl); (case hg => rfl); (case hr => first | (go_simp; done) | (go_simp; rfl)); (case hp => exact (Reps.c9 (show Kd.M k47 _ _ _ (⟨2, (⟨0, 0, 0, 0⟩ : S45), 10000, false, 0, 0⟩ : S47) [.int .i64 2, .int .i64 0, .int .i64 0, .int .i64 0, .int .i64 0, .int .i64 10000, .bool false, .int .i64 0, .int .i64 0] from (k47_mkM _ _ _ (⟨2, (⟨0, 0, 0, 0⟩ : S45), 10000, false, 0, 0⟩ : S47) )) (Reps.c9 (show Kd.M k47 _ _ _ (⟨1, (⟨0, 65536, 0, 1⟩ : S45), 0, false, 0, 0⟩ : S47) [.int .i64 1, .int .i64 0, .int .i64 65536, .int .i64 0, .int .i64 1, .int .i64 0, .bool false, .int .i64 0, .int .i64 0] from (k47_mkM _ _ _ (⟨1, (⟨0, 65536, 0, 1⟩ : S45), 0, false, 0, 0⟩ : S47) )) (Reps.c9 (show Kd.M k47 _ _ _ (⟨2, (⟨0, 0, 0, 0⟩ : S45), (-10000), false, 0, 0⟩ : S47) [.int .i64 2, .int .i64 0, .int .i64 0, .int .i64 0, .int .i64 0, .int .i64 (-10000), .bool false, .int .i64 0, .int .i64 0] from (k47_mkM _ _ _ (⟨2, (⟨0, 0, 0, 0⟩ : S45), (-10000), false, 0, 0⟩ : S47) )) (Reps.none _ _))))); intro v173 w1 ho2 hb hg_ hnew_; clear hg_ hnew_; (first | rw [← Ny172.out] at ho2 | (simp only [Int.reduceToNat] at ho2; rw [← Ny172.out] at ho2)); have n0_ := a_ (Kd.R_lower ho2 (below_size (bv_ HB.out))); have n1_ := a_ (bs_ HB.out hb); clear HB; have HO174 := n0_; have HB := n1_; clear n0_ n1_; clear hb ho2))
 go_ret
 exact ⟨_, by first | rfl | (simp [errW_none, errW_some] <;> rfl) | (simp [*, errW_none, errW_some] <;> rfl), by (with_reducible repeat (first | apply Kd.R_alloc | apply Kd.R_drewN | apply Kd.R_drew)); exact HO174.out, bv_ HB.out⟩

/-! ### variorumlaw11_three: function 22 -/
def variorumlaw11_three.f  : Option ((List (S47))) := (some (([(⟨0, (⟨10, 0, 0, 0⟩ : S45), 0, false, 0, 0⟩ : S47), (⟨1, (⟨2, 0, 0, 0⟩ : S45), 0, false, 0, 0⟩ : S47), (⟨0, (⟨10, 0, 0, 0⟩ : S45), 0, false, 0, 0⟩ : S47), (⟨1, (⟨2, 0, 0, 0⟩ : S45), 0, false, 0, 0⟩ : S47), (⟨0, (⟨10, 0, 0, 0⟩ : S45), 0, false, 0, 0⟩ : S47)] : List (S47)) : List (S47))).bind fun y177 => ((variorumref09_End.f).bind fun t180 => (if y177.length + t180.length < 1954687338268 then (some (y177 ++ t180)) else (none)))
set_option maxHeartbeats 8000000 in
set_option maxRecDepth 100000 in
theorem variorumlaw11_three.calls  (r : List (S47)) (w : World) (h : variorumlaw11_three.f  = some r) :
  Calls Try.prog 22 #[] w fun e w' => ∃ v0_ : Value, e = .returned (v0_) ∧ Kd.R k47 47 w' w.heap.size (fun _ => True) v0_ r ∧ Below w.heap.size w w' := by
 have hu45 := Try.underlying45
 have hu47 := Try.underlying47
 have HB := a_ (Below.refl w.heap.size w)
 have H : ((some (([(⟨0, (⟨10, 0, 0, 0⟩ : S45), 0, false, 0, 0⟩ : S47), (⟨1, (⟨2, 0, 0, 0⟩ : S45), 0, false, 0, 0⟩ : S47), (⟨0, (⟨10, 0, 0, 0⟩ : S45), 0, false, 0, 0⟩ : S47), (⟨1, (⟨2, 0, 0, 0⟩ : S45), 0, false, 0, 0⟩ : S47), (⟨0, (⟨10, 0, 0, 0⟩ : S45), 0, false, 0, 0⟩ : S47)] : List (S47)) : List (S47))).bind fun y177 => ((variorumref09_End.f).bind fun t180 => (if y177.length + t180.length < 1954687338268 then (some (y177 ++ t180)) else (none)))) = some r := h
 clear h
 obtain ⟨y177, hy177⟩ : ∃ y_ : List (S47), y_ = (([(⟨0, (⟨10, 0, 0, 0⟩ : S45), 0, false, 0, 0⟩ : S47), (⟨1, (⟨2, 0, 0, 0⟩ : S45), 0, false, 0, 0⟩ : S47), (⟨0, (⟨10, 0, 0, 0⟩ : S45), 0, false, 0, 0⟩ : S47), (⟨1, (⟨2, 0, 0, 0⟩ : S45), 0, false, 0, 0⟩ : S47), (⟨0, (⟨10, 0, 0, 0⟩ : S45), 0, false, 0, 0⟩ : S47)] : List (S47))) := ⟨_, rfl⟩
 replace H : ((variorumref09_End.f).bind fun t180 => (if y177.length + t180.length < 1954687338268 then (some (y177 ++ t180)) else (none))) = some r := by first | (rw [hy177]; with_reducible exact H) | (have H2_ := (Option.bind_some _ _).symm.trans H; rw [hy177]; with_reducible exact H2_) | (have H2_ := (Option.bind_some _ _).symm.trans H; with_reducible exact H2_) | with_reducible exact H | (rw [hy177]; exact H) | exact H
 have Ny177 := a_ hy177
 clear hy177
 replace H := Option.bind_eq_some_iff.mp H
 obtain ⟨t180, A10, H⟩ := H
 replace H : (if y177.length + t180.length < 1954687338268 then (some (y177 ++ t180)) else (none)) = some r := H
 have A1 := a_ A10
 clear A10
 by_cases c2 : y177.length + t180.length < 1954687338268
 ·rw [if_pos c2] at H
  have LMc2 := a_ c2
  clear c2
  obtain ⟨y183, hy183⟩ : ∃ y_ : List (S47), y_ = (y177 ++ t180) := ⟨_, rfl⟩
  replace H : (some y183) = some r := by first | (rw [hy183]; with_reducible exact H) | (have H2_ := (Option.bind_some _ _).symm.trans H; rw [hy183]; with_reducible exact H2_) | (have H2_ := (Option.bind_some _ _).symm.trans H; with_reducible exact H2_) | with_reducible exact H | (rw [hy183]; exact H) | exact H
  have Ny183 := a_ hy183
  clear hy183
  obtain rfl := Option.some.inj H
  go_enter Try.func22, Try.ntmps22
  go_wp2_with (first | ((with_reducible refine gate_dst (N := 1) rfl ?_); refine box_event ?hg (N := 1) ?hd (cs := #[.int .i64 0, .int .i64 0, .int .i64 0, .int .i64 0, .int .i64 0, .int .i64 0, .bool false, .int .i64 0, .int .i64 0]) (t := 47) ?hr ?_; (case hd => rfl); (case hg => rfl); (case hr => first | (go_simp; done) | (go_simp; rfl)); intro gb175 hg w3 hbox hb; have n0_ := a_ (bs_ HB.out hb); have n1_ := a_ (hbox); have n2_ := a_ ((by rw [hg]; exact (below_size (bv_ HB.out)) : w.heap.size ≤ gb175)); have n3_ := a_ ((by rw [hg]; exact (below_size (bv_ HB.out)) : w.heap.size ≤ gb175)); clear HB; have HB := n0_; have BK175 := n1_; have GW175 := n2_; have GE175 := n3_; clear n0_ n1_ n2_ n3_; clear hb hbox hg) | ((with_reducible refine gate_dst (N := 2) rfl ?_); refine box_event ?hg (N := 2) ?hd (cs := #[.int .i64 0, .int .i64 0, .int .i64 0, .int .i64 0, .int .i64 0, .int .i64 0, .bool false, .int .i64 0, .int .i64 0]) (t := 47) ?hr ?_; (case hd => rfl); (case hg => rfl); (case hr => first | (go_simp; done) | (go_simp; rfl)); intro gb176 hg w4 hbox hb; have n0_ := a_ (kb_ BK175.out hb); have n1_ := a_ (below_step (bS1_ HB.out GE175.out) hb); have n2_ := a_ (hbox); have n3_ := a_ ((by rw [hg]; exact (below_size (bS1_ HB.out GE175.out)) : w.heap.size ≤ gb176)); have n4_ := a_ ((by rw [hg]; exact (below_size (bS1_ HB.out GE175.out)) : w.heap.size ≤ gb176)); have n5_ := a_ ((by rw [hg]; exact Nat.ne_of_lt (blk_lt (kv_ BK175.out)) : gb175 ≠ gb176)); have n6_ := a_ ((by rw [hg]; exact Nat.ne_of_gt (blk_lt (kv_ BK175.out)) : gb176 ≠ gb175)); clear BK175; clear HB; have BK175 := n0_; have HB := n1_; have BK176 := n2_; have GW176 := n3_; have GE176 := n4_; have NB175_176 := n5_; have NB176_175 := n6_; clear n0_ n1_ n2_ n3_ n4_ n5_ n6_; clear hb hbox hg; have hnb5 := NB175_176.out; have hnc5 := NB176_175.out; obtain ⟨⟨Z6_0, Y6_0⟩, ⟨Z6_1, Y6_1⟩, ⟨Z6_2, Y6_2⟩, ⟨Z6_3, Y6_3⟩, ⟨Z6_4, Y6_4⟩, ⟨Z6_5, Y6_5⟩, ⟨Z6_6, Y6_6⟩, ⟨Z6_7, Y6_7⟩, Z6_8, Y6_8⟩ := cs9_ BK175.out; obtain ⟨⟨Z7_0, Y7_0⟩, ⟨Z7_1, Y7_1⟩, ⟨Z7_2, Y7_2⟩, ⟨Z7_3, Y7_3⟩, ⟨Z7_4, Y7_4⟩, ⟨Z7_5, Y7_5⟩, ⟨Z7_6, Y7_6⟩, ⟨Z7_7, Y7_7⟩, Z7_8, Y7_8⟩ := cs9_ BK176.out) | ((with_reducible refine gate_dst (N := 13) rfl ?_); refine Kd.R_lit k47 _ 47 ?hg (N := 13) ?hd (xs := ([(⟨0, (⟨10, 0, 0, 0⟩ : S45), 0, false, 0, 0⟩ : S47), (⟨1, (⟨2, 0, 0, 0⟩ : S45), 0, false, 0, 0⟩ : S47), (⟨0, (⟨10, 0, 0, 0⟩ : S45), 0, false, 0, 0⟩ : S47), (⟨1, (⟨2, 0, 0, 0⟩ : S45), 0, false, 0, 0⟩ : S47), (⟨0, (⟨10, 0, 0, 0⟩ : S45), 0, false, 0, 0⟩ : S47)] : List (S47))) (inner := [.int .i64 0, .int .i64 10, .int .i64 0, .int .i64 0, .int .i64 0, .int .i64 0, .bool false, .int .i64 0, .int .i64 0, .int .i64 1, .int .i64 2, .int .i64 0, .int .i64 0, .int .i64 0, .int .i64 0, .bool false, .int .i64 0, .int .i64 0, .int .i64 0, .int .i64 10, .int .i64 0, .int .i64 0, .int .i64 0, .int .i64 0, .bool false, .int .i64 0, .int .i64 0, .int .i64 1, .int .i64 2, .int .i64 0, .int .i64 0, .int .i64 0, .int .i64 0, .bool false, .int .i64 0, .int .i64 0, .int .i64 0, .int .i64 10, .int .i64 0, .int .i64 0, .int .i64 0, .int .i64 0, .bool false, .int .i64 0, .int .i64 0]) (ok := fun _ => True) (okp := fun _ => True) ?hr ?hp (fun _ hk => hk) trivial (Below.refl _ _) (Nat.le_refl _) (by simp) ?_; (case hd => rfl); (case hg => rfl); (case hr => first | (go_simp; done) | (go_simp; rfl)); (case hp => exact (Reps.c9 (show Kd.M k47 _ _ _ (⟨0, (⟨10, 0, 0, 0⟩ : S45), 0, false, 0, 0⟩ : S47) [.int .i64 0, .int .i64 10, .int .i64 0, .int .i64 0, .int .i64 0, .int .i64 0, .bool false, .int .i64 0, .int .i64 0] from (k47_mkM _ _ _ (⟨0, (⟨10, 0, 0, 0⟩ : S45), 0, false, 0, 0⟩ : S47) )) (Reps.c9 (show Kd.M k47 _ _ _ (⟨1, (⟨2, 0, 0, 0⟩ : S45), 0, false, 0, 0⟩ : S47) [.int .i64 1, .int .i64 2, .int .i64 0, .int .i64 0, .int .i64 0, .int .i64 0, .bool false, .int .i64 0, .int .i64 0] from (k47_mkM _ _ _ (⟨1, (⟨2, 0, 0, 0⟩ : S45), 0, false, 0, 0⟩ : S47) )) (Reps.c9 (show Kd.M k47 _ _ _ (⟨0, (⟨10, 0, 0, 0⟩ : S45), 0, false, 0, 0⟩ : S47) [.int .i64 0, .int .i64 10, .int .i64 0, .int .i64 0, .int .i64 0, .int .i64 0, .bool false, .int .i64 0, .int .i64 0] from (k47_mkM _ _ _ (⟨0, (⟨10, 0, 0, 0⟩ : S45), 0, false, 0, 0⟩ : S47) )) (Reps.c9 (show Kd.M k47 _ _ _ (⟨1, (⟨2, 0, 0, 0⟩ : S45), 0, false, 0, 0⟩ : S47) [.int .i64 1, .int .i64 2, .int .i64 0, .int .i64 0, .int .i64 0, .int .i64 0, .bool false, .int .i64 0, .int .i64 0] from (k47_mkM _ _ _ (⟨1, (⟨2, 0, 0, 0⟩ : S45), 0, false, 0, 0⟩ : S47) )) (Reps.c9 (show Kd.M k47 _ _ _ (⟨0, (⟨10, 0, 0, 0⟩ : S45), 0, false, 0, 0⟩ : S47) [.int .i64 0, .int .i64 10, .int .i64 0, .int .i64 0, .int .i64 0, .int .i64 0, .bool false, .int .i64 0, .int .i64 0] from (k47_mkM _ _ _ (⟨0, (⟨10, 0, 0, 0⟩ : S45), 0, false, 0, 0⟩ : S47) )) (Reps.none _ _))))))); intro v178 w8 ho9 hb hg_ hnew_; clear hg_ hnew_; (first | rw [← Ny177.out] at ho9 | (simp only [Int.reduceToNat] at ho9; rw [← Ny177.out] at ho9)); have n0_ := a_ (Kd.R_lower (Kd.R_newB (Kd.R_newB ho9 (g := gb175) (o := .cells #[.int .i64 0, .int .i64 10, .int .i64 0, .int .i64 0, .int .i64 0, .int .i64 0, .bool false, .int .i64 0, .int .i64 0] 47 (0, 0)) (kp1_ BK175.out NB175_176.out)) (g := gb176) (o := .cells #[.int .i64 1, .int .i64 2, .int .i64 0, .int .i64 0, .int .i64 0, .int .i64 0, .bool false, .int .i64 0, .int .i64 0] 47 (0, 0)) (kp1_ BK176.out NB176_175.out)) (below_size (bS2_ HB.out GE175.out GE176.out))); have n1_ := a_ (blk_below (g := gb175) (o := .cells #[.int .i64 0, .int .i64 10, .int .i64 0, .int .i64 0, .int .i64 0, .int .i64 0, .bool false, .int .i64 0, .int .i64 0] 47 (0, 0)) (kp1_ BK175.out NB175_176.out) hb); have n2_ := a_ (blk_below (g := gb176) (o := .cells #[.int .i64 1, .int .i64 2, .int .i64 0, .int .i64 0, .int .i64 0, .int .i64 0, .bool false, .int .i64 0, .int .i64 0] 47 (0, 0)) (kp1_ BK176.out NB176_175.out) hb); have n3_ := a_ (below_step (bS2_ HB.out GE175.out GE176.out) hb); clear BK175; clear BK176; clear HB; have HO179 := n0_; have BK175 := n1_; have BK176 := n2_; have HB := n3_; clear n0_ n1_ n2_ n3_; clear hb ho9) | ((with_reducible refine gate_callee (f := 31) rfl ?_); refine gl_ (some 15) Try.func31 (by kernel_rfl) #[] ?_; (with_reducible refine (variorumref09_End.calls  t180 _ A1.out).mono ?_); rintro e w10 ⟨v181, rfl, ho0, hb⟩; refine ⟨_, rfl, ?_⟩; have n0_ := a_ (Kd.R_elder' (rv_ HO179.out) (Kd.R_base ho0) hb); have n1_ := a_ (Kd.R_lower (Kd.R_newB (Kd.R_newB (Kd.R_new' ho0 (Kd.R_lt (rv_ HO179.out))) (g := gb175) (o := .cells #[.int .i64 0, .int .i64 10, .int .i64 0, .int .i64 0, .int .i64 0, .int .i64 0, .bool false, .int .i64 0, .int .i64 0] 47 (0, 0)) (kv_ BK175.out)) (g := gb176) (o := .cells #[.int .i64 1, .int .i64 2, .int .i64 0, .int .i64 0, .int .i64 0, .int .i64 0, .bool false, .int .i64 0, .int .i64 0] 47 (0, 0)) (kv_ BK176.out)) (below_size (bS2_ HB.out GE175.out GE176.out))); have n2_ := a_ (kb_ BK175.out hb); have n3_ := a_ (kb_ BK176.out hb); have n4_ := a_ (below_step (bS2_ HB.out GE175.out GE176.out) hb); clear HO179; clear BK175; clear BK176; clear HB; have HO179 := n0_; have HO182 := n1_; have BK175 := n2_; have BK176 := n3_; have HB := n4_; clear n0_ n1_ n2_ n3_ n4_; (try clear hb); (try clear hb2); (try clear hk); (try clear hi); (try clear ho0); obtain ⟨Ao12, co12, eo12⟩ := Kd.R_slice HO182.out; subst eo12) | ((with_reducible refine gate_builtin (b := .append) (xs := #[.tmp 14, .tmp 15]) rfl ?_); at_builtin; refine Kd.R_append_rows k47 (w0 := w) w.heap.size rfl (.tmp 14) (.tmp 15) 22 47 (.agg #[(.int .i64 0), (.int .i64 0), (.int .i64 0), (.int .i64 0), (.int .i64 0), (.int .i64 0), (.bool false), (.int .i64 0), (.int .i64 0)]) 72 rfl Try.underlying22 info47 rfl (by decide) (by omega) v178 y177 t180 _ _ _ (fun k_ => some k_ ≠ (.slice Ao12 t180.length co12 : Value).ownBlock ∧ k_ ≠ gb175 ∧ k_ ≠ gb176) (fun _ => False) rfl rfl ?aO ?aR (fun _ _ h => h) (fun _ h => h.elim) ?aF ?aB ?aS ?aL ?_; (case aR => exact cr_ (Kd.R_reads' HO182.out).2.2); (case aB => exact (bS2_ HB.out GE175.out GE176.out)); (case aF => exact (fun k_ hk => ⟨Kd.fresh' (Kd.R_lt (rv_ HO182.out)) k_ hk, Kd.freshB (g := gb175) (o := .cells #[.int .i64 0, .int .i64 10, .int .i64 0, .int .i64 0, .int .i64 0, .int .i64 0, .bool false, .int .i64 0, .int .i64 0] 47 (0, 0)) (kv_ BK175.out) k_ hk, Kd.freshB (g := gb176) (o := .cells #[.int .i64 1, .int .i64 2, .int .i64 0, .int .i64 0, .int .i64 0, .int .i64 0, .bool false, .int .i64 0, .int .i64 0] 47 (0, 0)) (kv_ BK176.out) k_ hk⟩)); (case aO => exact (by (with_reducible repeat (first | apply Kd.R_alloc | apply Kd.R_drewN | apply Kd.R_drew)); exact Kd.R_mono HO179.out (fun _ hk => ⟨hk.2, ⟨hk.1.1.2, hk.1.2⟩⟩))); (case aS => exact (below_size (bS2_ HB.out GE175.out GE176.out))); (case aL => have := LMc2.out; omega); intro v184 w11 ho hb hg hat; rw [← Ny183.out] at ho; have n0_ := a_ (blk_grown (g := gb175) (o := .cells #[.int .i64 0, .int .i64 10, .int .i64 0, .int .i64 0, .int .i64 0, .int .i64 0, .bool false, .int .i64 0, .int .i64 0] 47 (0, 0)) (kv_ BK175.out) hg (Kd.R_away HO179.out (fun _ hk => hk.1.1.2))); have n1_ := a_ (blk_grown (g := gb176) (o := .cells #[.int .i64 1, .int .i64 2, .int .i64 0, .int .i64 0, .int .i64 0, .int .i64 0, .bool false, .int .i64 0, .int .i64 0] 47 (0, 0)) (kv_ BK176.out) hg (Kd.R_away HO179.out (fun _ hk => hk.1.2))); have n2_ := a_ (Kd.R_after (ok := (fun k_ => k_ ≠ gb175 ∧ k_ ≠ gb176)) (by (with_reducible repeat (first | apply Kd.R_alloc | apply Kd.R_drewN | apply Kd.R_drew)); exact Kd.R_mono HO182.out (fun _ hk => ⟨⟨hk.1.2, hk.2⟩, hk.1.1.2⟩)) hg hat); have n3_ := a_ (hb); have n4_ := a_ (ho); clear BK175; clear BK176; clear HO182; clear HB; clear HO179; have BK175 := n0_; have BK176 := n1_; have HO182 := n2_; have HB := n3_; have HO185 := n4_; clear n0_ n1_ n2_ n3_ n4_; clear ho hb hg hat))
  go_ret
  exact ⟨_, by first | rfl | (simp [errW_none, errW_some] <;> rfl) | (simp [*, errW_none, errW_some] <;> rfl), by (with_reducible repeat (first | apply Kd.R_alloc | apply Kd.R_drewN | apply Kd.R_drew)); exact Kd.R_mono HO185.out (fun _ hk => trivial), bS2_ HB.out GE175.out GE176.out⟩
 ·rw [if_neg c2] at H
  exact absurd H (by simp)

/-! ### variorumlaw11_fixed: function 8 -/
def variorumlaw11_fixed.f (k : Nat)  : Option (Bool) := (variorumlaw11_three.f).bind fun t186 => ((breaker_Best.f k t186 22 200).bind fun bt189 => ((variorumlaw11_three.f).bind fun t194 => ((breaker_Break.f k t194 22).bind fun bt197 => ((variorumlaw11_three.f).bind fun t204 => ((breaker_Break.f k t204 9).bind fun bt207 => (if bt189.2.2 = true then ((variorumref11_Ints.f k bt189.1 (([3, 7] : List Int))).bind fun t217 => (if t217 = true then ((variorumref11_Ints.f k bt197.1 bt189.1).bind fun t218 => (if t218 = true then (if bt197.2.1 = true then (none) else (if bt197.2.2.1 = 0 then (some (bt207.2.2.1 == 110)) else (none))) else (none))) else (none))) else (none)))))))
theorem variorumlaw11_fixed.mono : ∀ k, LeO (variorumlaw11_fixed.f k ) (variorumlaw11_fixed.f (k + 1) ) := by
 intro  k
 unfold variorumlaw11_fixed.f
 repeat' first
   | (with_reducible exact breaker_Best.mono _ _ _ _)
   | (with_reducible exact breaker_Break.mono _ _ _)
   | (with_reducible exact variorumref11_Ints.mono _ _ _)
   | (with_reducible exact LeO.refl _)
   | (with_reducible exact LeO.none _)
   | (with_reducible refine LeO.ite ?_ ?_)
   | (with_reducible refine LeO.bind ?_ (fun _ => ?_))
   | exact breaker_Best.mono _ _ _ _
   | exact breaker_Break.mono _ _ _
   | exact variorumref11_Ints.mono _ _ _
   | exact LeO.none _
   | refine LeO.ite ?_ ?_
   | refine LeO.bind ?_ (fun _ => ?_)
set_option maxHeartbeats 8000000 in
set_option maxRecDepth 100000 in
theorem variorumlaw11_fixed.calls (k : Nat)  (r : Bool) (w : World) (h : variorumlaw11_fixed.f k  = some r) :
  Calls Try.prog 8 #[] w fun e w' => e = .returned (.bool r) ∧ Below w.heap.size w w' := by
 have hu29 := Try.underlying29
 have HB := a_ (Below.refl w.heap.size w)
 have H : ((variorumlaw11_three.f).bind fun t186 => ((breaker_Best.f k t186 22 200).bind fun bt189 => ((variorumlaw11_three.f).bind fun t194 => ((breaker_Break.f k t194 22).bind fun bt197 => ((variorumlaw11_three.f).bind fun t204 => ((breaker_Break.f k t204 9).bind fun bt207 => (if bt189.2.2 = true then ((variorumref11_Ints.f k bt189.1 (([3, 7] : List Int))).bind fun t217 => (if t217 = true then ((variorumref11_Ints.f k bt197.1 bt189.1).bind fun t218 => (if t218 = true then (if bt197.2.1 = true then (none) else (if bt197.2.2.1 = 0 then (some (bt207.2.2.1 == 110)) else (none))) else (none))) else (none))) else (none)))))))) = some r := h
 clear h
 replace H := Option.bind_eq_some_iff.mp H
 obtain ⟨t186, A10, H⟩ := H
 replace H : ((breaker_Best.f k t186 22 200).bind fun bt189 => ((variorumlaw11_three.f).bind fun t194 => ((breaker_Break.f k t194 22).bind fun bt197 => ((variorumlaw11_three.f).bind fun t204 => ((breaker_Break.f k t204 9).bind fun bt207 => (if bt189.2.2 = true then ((variorumref11_Ints.f k bt189.1 (([3, 7] : List Int))).bind fun t217 => (if t217 = true then ((variorumref11_Ints.f k bt197.1 bt189.1).bind fun t218 => (if t218 = true then (if bt197.2.1 = true then (none) else (if bt197.2.2.1 = 0 then (some (bt207.2.2.1 == 110)) else (none))) else (none))) else (none))) else (none))))))) = some r := H
 have A1 := a_ A10
 clear A10
 replace H := Option.bind_eq_some_iff.mp H
 obtain ⟨⟨t189, t190, t191⟩, A20, H⟩ := H
 replace H : ((variorumlaw11_three.f).bind fun t194 => ((breaker_Break.f k t194 22).bind fun bt197 => ((variorumlaw11_three.f).bind fun t204 => ((breaker_Break.f k t204 9).bind fun bt207 => (if t191 = true then ((variorumref11_Ints.f k t189 (([3, 7] : List Int))).bind fun t217 => (if t217 = true then ((variorumref11_Ints.f k bt197.1 t189).bind fun t218 => (if t218 = true then (if bt197.2.1 = true then (none) else (if bt197.2.2.1 = 0 then (some (bt207.2.2.1 == 110)) else (none))) else (none))) else (none))) else (none)))))) = some r := H
 have A2 := a_ A20
 clear A20
 replace H := Option.bind_eq_some_iff.mp H
 obtain ⟨t194, A30, H⟩ := H
 replace H : ((breaker_Break.f k t194 22).bind fun bt197 => ((variorumlaw11_three.f).bind fun t204 => ((breaker_Break.f k t204 9).bind fun bt207 => (if t191 = true then ((variorumref11_Ints.f k t189 (([3, 7] : List Int))).bind fun t217 => (if t217 = true then ((variorumref11_Ints.f k bt197.1 t189).bind fun t218 => (if t218 = true then (if bt197.2.1 = true then (none) else (if bt197.2.2.1 = 0 then (some (bt207.2.2.1 == 110)) else (none))) else (none))) else (none))) else (none))))) = some r := H
 have A3 := a_ A30
 clear A30
 replace H := Option.bind_eq_some_iff.mp H
 obtain ⟨⟨t197, t200, t201, t202⟩, A40, H⟩ := H
 replace H : ((variorumlaw11_three.f).bind fun t204 => ((breaker_Break.f k t204 9).bind fun bt207 => (if t191 = true then ((variorumref11_Ints.f k t189 (([3, 7] : List Int))).bind fun t217 => (if t217 = true then ((variorumref11_Ints.f k t197 t189).bind fun t218 => (if t218 = true then (if t200 = true then (none) else (if t201 = 0 then (some (bt207.2.2.1 == 110)) else (none))) else (none))) else (none))) else (none)))) = some r := H
 have A4 := a_ A40
 clear A40
 replace H := Option.bind_eq_some_iff.mp H
 obtain ⟨t204, A50, H⟩ := H
 replace H : ((breaker_Break.f k t204 9).bind fun bt207 => (if t191 = true then ((variorumref11_Ints.f k t189 (([3, 7] : List Int))).bind fun t217 => (if t217 = true then ((variorumref11_Ints.f k t197 t189).bind fun t218 => (if t218 = true then (if t200 = true then (none) else (if t201 = 0 then (some (bt207.2.2.1 == 110)) else (none))) else (none))) else (none))) else (none))) = some r := H
 have A5 := a_ A50
 clear A50
 replace H := Option.bind_eq_some_iff.mp H
 obtain ⟨⟨t207, t210, t211, t212⟩, A60, H⟩ := H
 replace H : (if t191 = true then ((variorumref11_Ints.f k t189 (([3, 7] : List Int))).bind fun t217 => (if t217 = true then ((variorumref11_Ints.f k t197 t189).bind fun t218 => (if t218 = true then (if t200 = true then (none) else (if t201 = 0 then (some (t211 == 110)) else (none))) else (none))) else (none))) else (none)) = some r := H
 have A6 := a_ A60
 clear A60
 by_cases c7 : t191 = true
 ·subst c7
  have H1 : ((variorumref11_Ints.f k t189 (([3, 7] : List Int))).bind fun t217 => (if t217 = true then ((variorumref11_Ints.f k t197 t189).bind fun t218 => (if t218 = true then (if t200 = true then (none) else (if t201 = 0 then (some (t211 == 110)) else (none))) else (none))) else (none))) = some r := by rw [if_pos rfl] at H; exact H
  clear H
  have H := H1
  clear H1
  obtain ⟨y214, hy214⟩ : ∃ y_ : List Int, y_ = (([3, 7] : List Int)) := ⟨_, rfl⟩
  replace H : ((variorumref11_Ints.f k t189 y214).bind fun t217 => (if t217 = true then ((variorumref11_Ints.f k t197 t189).bind fun t218 => (if t218 = true then (if t200 = true then (none) else (if t201 = 0 then (some (t211 == 110)) else (none))) else (none))) else (none))) = some r := by first | (rw [hy214]; with_reducible exact H) | (have H2_ := (Option.bind_some _ _).symm.trans H; rw [hy214]; with_reducible exact H2_) | (have H2_ := (Option.bind_some _ _).symm.trans H; with_reducible exact H2_) | with_reducible exact H | (rw [hy214]; exact H) | exact H
  have Ny214 := a_ hy214
  clear hy214
  replace H := Option.bind_eq_some_iff.mp H
  obtain ⟨t217, A80, H⟩ := H
  replace H : (if t217 = true then ((variorumref11_Ints.f k t197 t189).bind fun t218 => (if t218 = true then (if t200 = true then (none) else (if t201 = 0 then (some (t211 == 110)) else (none))) else (none))) else (none)) = some r := H
  have A8 := a_ A80
  clear A80
  by_cases c9 : t217 = true
  ·subst c9
   have H1 : ((variorumref11_Ints.f k t197 t189).bind fun t218 => (if t218 = true then (if t200 = true then (none) else (if t201 = 0 then (some (t211 == 110)) else (none))) else (none))) = some r := by rw [if_pos rfl] at H; exact H
   clear H
   have H := H1
   clear H1
   replace H := Option.bind_eq_some_iff.mp H
   obtain ⟨t218, A100, H⟩ := H
   replace H : (if t218 = true then (if t200 = true then (none) else (if t201 = 0 then (some (t211 == 110)) else (none))) else (none)) = some r := H
   have A10 := a_ A100
   clear A100
   by_cases c11 : t218 = true
   ·subst c11
    have H1 : (if t200 = true then (none) else (if t201 = 0 then (some (t211 == 110)) else (none))) = some r := by rw [if_pos rfl] at H; exact H
    clear H
    have H := H1
    clear H1
    by_cases c12 : t200 = true
    ·subst c12
     have H1 : (none) = some r := by rw [if_pos rfl] at H; exact H
     clear H
     have H := H1
     clear H1
     exact absurd H (by simp)
    ·replace c12 := Bool.eq_false_iff.mpr c12
     subst c12
     have H1 : (if t201 = 0 then (some (t211 == 110)) else (none)) = some r := by rw [if_neg (show ¬ (false = true) by decide)] at H; exact H
     clear H
     have H := H1
     clear H1
     by_cases c13 : t201 = 0
     ·rw [if_pos c13] at H
      have c13b0 : (t201 == 0) = true := beq_iff_eq.mpr c13
      have c13b1 : (t201 != 0) = false := bne_eq_false_iff_eq.mpr c13
      clear c13
      obtain rfl := Option.some.inj H
      go_enter Try.func8, Try.ntmps8
      go_wp2_with (first | ((with_reducible refine gate_callee (f := 22) rfl ?_); refine gl_ (some 11) Try.func22 (by kernel_rfl) #[] ?_; (with_reducible refine (variorumlaw11_three.calls  t186 _ A1.out).mono ?_); rintro e w14 ⟨v187, rfl, ho0, hb⟩; refine ⟨_, rfl, ?_⟩; have n0_ := a_ (Kd.R_lower ho0 (below_size (bv_ HB.out))); have n1_ := a_ (bs_ HB.out hb); clear HB; have HO188 := n0_; have HB := n1_; clear n0_ n1_; (try clear hb); (try clear hb2); (try clear hk); (try clear hi); (try clear ho0); obtain ⟨Ao15, co15, eo15⟩ := Kd.R_slice HO188.out; subst eo15) | ((with_reducible refine gate_callee (f := 9) rfl ?_); refine gl_ (some 12) Try.func9 (by kernel_rfl) #[.slice Ao15 t186.length co15, .int .i64 22, .int .i64 200] ?_; (with_reducible refine (breaker_Best.calls k _ _ t186 22 200 t189 t190 true _ ?side1 ?side2 A2.out).mono ?_); (case side1 => exact cr_ (Kd.R_reads' HO188.out).2.2); (case side2 => exact (Kd.R_reads' HO188.out).2.1); rintro e w16 ⟨v192, rfl, ho0, hb⟩; refine ⟨_, rfl, ?_⟩; have n0_ := a_ (Kd.R_below (rv_ HO188.out) hb); have n1_ := a_ (Kd.R_lower ho0 (below_size (bv_ HB.out))); have n2_ := a_ (bs_ HB.out hb); clear HO188; clear HB; have HO188 := n0_; have HO193 := n1_; have HB := n2_; clear n0_ n1_ n2_; (try clear hb); (try clear hb2); (try clear hk); (try clear hi); (try clear ho0)) | ((with_reducible refine gate_callee (f := 22) rfl ?_); refine gl_ (some 17) Try.func22 (by kernel_rfl) #[] ?_; (with_reducible refine (variorumlaw11_three.calls  t194 _ A3.out).mono ?_); rintro e w17 ⟨v195, rfl, ho0, hb⟩; refine ⟨_, rfl, ?_⟩; have n0_ := a_ (Kd.R_elder' (rv_ HO188.out) (Kd.R_base ho0) hb); have n1_ := a_ (Kd.R_below (rv_ HO193.out) hb); have n2_ := a_ (Kd.R_lower (Kd.R_new' ho0 (Kd.R_lt (rv_ HO188.out))) (below_size (bv_ HB.out))); have n3_ := a_ (bs_ HB.out hb); clear HO188; clear HO193; clear HB; have HO188 := n0_; have HO193 := n1_; have HO196 := n2_; have HB := n3_; clear n0_ n1_ n2_ n3_; (try clear hb); (try clear hb2); (try clear hk); (try clear hi); (try clear ho0); obtain ⟨Ao18, co18, eo18⟩ := Kd.R_slice HO196.out; subst eo18) | ((with_reducible refine gate_callee (f := 11) rfl ?_); refine gl_ (some 18) Try.func11 (by kernel_rfl) #[.slice Ao18 t194.length co18, .int .i64 22] ?_; (with_reducible refine (breaker_Break.calls k _ _ t194 22 t197 false t201 t202 _ ?side1 ?side2 A4.out).mono ?_); (case side1 => exact cr_ (Kd.R_reads' HO196.out).2.2); (case side2 => exact (Kd.R_reads' HO196.out).2.1); rintro e w19 ⟨v198, rfl, ho0, hb⟩; refine ⟨_, rfl, ?_⟩; have n0_ := a_ (Kd.R_below (rv_ HO188.out) hb); have n1_ := a_ (Kd.R_elder' (rv_ HO193.out) (Kd.R_base ho0) hb); have n2_ := a_ (Kd.R_below (rv_ HO196.out) hb); have n3_ := a_ (Kd.R_lower (Kd.R_new' ho0 (Kd.R_lt (rv_ HO193.out))) (below_size (bv_ HB.out))); have n4_ := a_ (bs_ HB.out hb); clear HO188; clear HO193; clear HO196; clear HB; have HO188 := n0_; have HO193 := n1_; have HO196 := n2_; have HO199 := n3_; have HB := n4_; clear n0_ n1_ n2_ n3_ n4_; (try clear hb); (try clear hb2); (try clear hk); (try clear hi); (try clear ho0)) | ((with_reducible refine gate_dst (N := 6) rfl ?_); (try (refine gate_guard (by rfl) ?_; dsimp only)); refine box_event ?hg (N := 6) ?hd (cs := #[.int .i64 0, .int .i64 0]) (t := 29) ?hr ?_; (case hd => rfl); (case hg => rfl); (case hr => first | (go_simp; done) | (go_simp; rfl)); intro gb203 hg w20 hbox hb; have n0_ := a_ (Kd.R_below (rv_ HO188.out) hb); have n1_ := a_ (Kd.R_below (rv_ HO193.out) hb); have n2_ := a_ (Kd.R_below (rv_ HO196.out) hb); have n3_ := a_ (Kd.R_below (rv_ HO199.out) hb); have n4_ := a_ (bs_ HB.out hb); have n5_ := a_ (hbox); have n6_ := a_ ((by rw [hg]; exact (below_size (bv_ HB.out)) : w.heap.size ≤ gb203)); have n7_ := a_ ((by rw [hg]; exact (below_size (bv_ HB.out)) : w.heap.size ≤ gb203)); clear HO188; clear HO193; clear HO196; clear HO199; clear HB; have HO188 := n0_; have HO193 := n1_; have HO196 := n2_; have HO199 := n3_; have HB := n4_; have BK203 := n5_; have GW203 := n6_; have GE203 := n7_; clear n0_ n1_ n2_ n3_ n4_ n5_ n6_ n7_; clear hb hbox hg; obtain ⟨⟨Z21_0, Y21_0⟩, Z21_1, Y21_1⟩ := cs2_ BK203.out) | ((with_reducible refine gate_callee (f := 22) rfl ?_); refine gl_ (some 23) Try.func22 (by kernel_rfl) #[] ?_; (with_reducible refine (variorumlaw11_three.calls  t204 _ A5.out).mono ?_); rintro e w22 ⟨v205, rfl, ho0, hb⟩; refine ⟨_, rfl, ?_⟩; have n0_ := a_ (Kd.R_elder' (by (with_reducible repeat (first | apply Kd.R_alloc | apply Kd.R_drewN | apply Kd.R_drew)); exact (Kd.R_mono (Kd.R_far (p := ⟨gb203, 1, none⟩) (Kd.R_far (p := ⟨gb203, 0, none⟩) (Kd.R_types HO188.out BK203.out (by decide)) (fun _ hk => hk.2) (.int .i64 t201)) (fun _ hk => hk.2) (.int .i64 t202)) (fun _ h_ => h_.1))) (Kd.R_base ho0) hb); have n1_ := a_ (Kd.R_below (by (with_reducible repeat (first | apply Kd.R_alloc | apply Kd.R_drewN | apply Kd.R_drew)); exact (Kd.R_mono (Kd.R_far (p := ⟨gb203, 1, none⟩) (Kd.R_far (p := ⟨gb203, 0, none⟩) (Kd.R_types HO193.out BK203.out (by decide)) (fun _ hk => hk.2) (.int .i64 t201)) (fun _ hk => hk.2) (.int .i64 t202)) (fun _ h_ => h_.1))) hb); have n2_ := a_ (Kd.R_elder' (by (with_reducible repeat (first | apply Kd.R_alloc | apply Kd.R_drewN | apply Kd.R_drew)); exact (Kd.R_mono (Kd.R_far (p := ⟨gb203, 1, none⟩) (Kd.R_far (p := ⟨gb203, 0, none⟩) (Kd.R_types HO196.out BK203.out (by decide)) (fun _ hk => hk.2) (.int .i64 t201)) (fun _ hk => hk.2) (.int .i64 t202)) (fun _ h_ => h_.1))) (Kd.R_base ho0) hb); have n3_ := a_ (Kd.R_below (by (with_reducible repeat (first | apply Kd.R_alloc | apply Kd.R_drewN | apply Kd.R_drew)); exact (Kd.R_mono (Kd.R_far (p := ⟨gb203, 1, none⟩) (Kd.R_far (p := ⟨gb203, 0, none⟩) (Kd.R_types HO199.out BK203.out (by decide)) (fun _ hk => hk.2) (.int .i64 t201)) (fun _ hk => hk.2) (.int .i64 t202)) (fun _ h_ => h_.1))) hb); have n4_ := a_ (Kd.R_lower (Kd.R_new' (Kd.R_new' ho0 (Kd.R_lt (by (with_reducible repeat (first | apply Kd.R_alloc | apply Kd.R_drewN | apply Kd.R_drew)); exact (Kd.R_mono (Kd.R_far (p := ⟨gb203, 1, none⟩) (Kd.R_far (p := ⟨gb203, 0, none⟩) (Kd.R_types HO188.out BK203.out (by decide)) (fun _ hk => hk.2) (.int .i64 t201)) (fun _ hk => hk.2) (.int .i64 t202)) (fun _ h_ => h_.1))))) (Kd.R_lt (by (with_reducible repeat (first | apply Kd.R_alloc | apply Kd.R_drewN | apply Kd.R_drew)); exact (Kd.R_mono (Kd.R_far (p := ⟨gb203, 1, none⟩) (Kd.R_far (p := ⟨gb203, 0, none⟩) (Kd.R_types HO196.out BK203.out (by decide)) (fun _ hk => hk.2) (.int .i64 t201)) (fun _ hk => hk.2) (.int .i64 t202)) (fun _ h_ => h_.1))))) (below_size (bS1_ HB.out GE203.out))); have n5_ := a_ (blk_below (g := gb203) (o := .cells #[.int .i64 t201, .int .i64 t202] 29 (0, 0)) (kp0_ BK203.out) hb); have n6_ := a_ (below_step (bS1_ HB.out GE203.out) hb); clear HO188; clear HO193; clear HO196; clear HO199; clear BK203; clear HB; have HO188 := n0_; have HO193 := n1_; have HO196 := n2_; have HO199 := n3_; have HO206 := n4_; have BK203 := n5_; have HB := n6_; clear n0_ n1_ n2_ n3_ n4_ n5_ n6_; (try clear hb); (try clear hb2); (try clear hk); (try clear hi); (try clear ho0); obtain ⟨Ao23, co23, eo23⟩ := Kd.R_slice HO206.out; subst eo23) | ((with_reducible refine gate_callee (f := 11) rfl ?_); refine gl_ (some 24) Try.func11 (by kernel_rfl) #[.slice Ao23 t204.length co23, .int .i64 9] ?_; (with_reducible refine (breaker_Break.calls k _ _ t204 9 t207 t210 t211 t212 _ ?side1 ?side2 A6.out).mono ?_); (case side1 => exact cr_ (Kd.R_reads' HO206.out).2.2); (case side2 => exact (Kd.R_reads' HO206.out).2.1); rintro e w24 ⟨v208, rfl, ho0, hb⟩; refine ⟨_, rfl, ?_⟩; have n0_ := a_ (Kd.R_below (rv_ HO188.out) hb); have n1_ := a_ (Kd.R_elder' (rv_ HO193.out) (Kd.R_base ho0) hb); have n2_ := a_ (Kd.R_below (rv_ HO196.out) hb); have n3_ := a_ (Kd.R_elder' (rv_ HO199.out) (Kd.R_base ho0) hb); have n4_ := a_ (Kd.R_below (rv_ HO206.out) hb); have n5_ := a_ (Kd.R_lower (Kd.R_new' (Kd.R_new' ho0 (Kd.R_lt (rv_ HO193.out))) (Kd.R_lt (rv_ HO199.out))) (below_size (bS1_ HB.out GE203.out))); have n6_ := a_ (kb_ BK203.out hb); have n7_ := a_ (below_step (bS1_ HB.out GE203.out) hb); clear HO188; clear HO193; clear HO196; clear HO199; clear HO206; clear BK203; clear HB; have HO188 := n0_; have HO193 := n1_; have HO196 := n2_; have HO199 := n3_; have HO206 := n4_; have HO209 := n5_; have BK203 := n6_; have HB := n7_; clear n0_ n1_ n2_ n3_ n4_ n5_ n6_ n7_; (try clear hb); (try clear hb2); (try clear hk); (try clear hi); (try clear ho0)) | ((with_reducible refine gate_dst (N := 9) rfl ?_); (try (refine gate_guard (by rfl) ?_; dsimp only)); refine box_event ?hg (N := 9) ?hd (cs := #[.int .i64 0, .int .i64 0]) (t := 29) ?hr ?_; (case hd => rfl); (case hg => rfl); (case hr => first | (go_simp; done) | (go_simp; rfl)); intro gb213 hg w25 hbox hb; have n0_ := a_ (Kd.R_below (rv_ HO188.out) hb); have n1_ := a_ (Kd.R_below (rv_ HO193.out) hb); have n2_ := a_ (Kd.R_below (rv_ HO196.out) hb); have n3_ := a_ (Kd.R_below (rv_ HO199.out) hb); have n4_ := a_ (Kd.R_below (rv_ HO206.out) hb); have n5_ := a_ (Kd.R_below (rv_ HO209.out) hb); have n6_ := a_ (kb_ BK203.out hb); have n7_ := a_ (below_step (bS1_ HB.out GE203.out) hb); have n8_ := a_ (hbox); have n9_ := a_ ((by rw [hg]; exact (below_size (bS1_ HB.out GE203.out)) : w.heap.size ≤ gb213)); have n10_ := a_ ((by rw [hg]; exact (below_size (bS1_ HB.out GE203.out)) : w.heap.size ≤ gb213)); have n11_ := a_ ((by rw [hg]; exact Nat.ne_of_lt (blk_lt (kv_ BK203.out)) : gb203 ≠ gb213)); have n12_ := a_ ((by rw [hg]; exact Nat.ne_of_gt (blk_lt (kv_ BK203.out)) : gb213 ≠ gb203)); clear HO188; clear HO193; clear HO196; clear HO199; clear HO206; clear HO209; clear BK203; clear HB; have HO188 := n0_; have HO193 := n1_; have HO196 := n2_; have HO199 := n3_; have HO206 := n4_; have HO209 := n5_; have BK203 := n6_; have HB := n7_; have BK213 := n8_; have GW213 := n9_; have GE213 := n10_; have NB203_213 := n11_; have NB213_203 := n12_; clear n0_ n1_ n2_ n3_ n4_ n5_ n6_ n7_ n8_ n9_ n10_ n11_ n12_; clear hb hbox hg; have hnb26 := NB213_203.out; have hnc26 := NB203_213.out; obtain ⟨⟨Z27_0, Y27_0⟩, Z27_1, Y27_1⟩ := cs2_ BK213.out) | ((with_reducible refine gate_dst (N := 31) rfl ?_); (try (refine gate_guard (by rfl) ?_; dsimp only)); refine Kd.R_lit (Kd.int .i64) _ 3 ?hg (N := 31) ?hd (xs := ([3, 7] : List Int)) (inner := [.int .i64 3, .int .i64 7]) (ok := fun _ => True) (okp := fun _ => True) ?hr ?hp (fun _ hk => hk) trivial (Below.refl _ _) (Nat.le_refl _) (by simp) ?_; (case hd => rfl); (case hg => rfl); (case hr => first | (go_simp; done) | (go_simp; rfl)); (case hp => exact (Reps.one (show Kd.M (Kd.int .i64) _ _ _ 3 [.int .i64 3] from rfl) (Reps.one (show Kd.M (Kd.int .i64) _ _ _ 7 [.int .i64 7] from rfl) (Reps.none _ _)))); intro v215 w28 ho29 hb hg_ hnew_; clear hg_ hnew_; (first | rw [← Ny214.out] at ho29 | (simp only [Int.reduceToNat] at ho29; rw [← Ny214.out] at ho29)); have n0_ := a_ (Kd.R_below (by (with_reducible repeat (first | apply Kd.R_alloc | apply Kd.R_drewN | apply Kd.R_drew)); exact (Kd.R_mono (Kd.R_far (p := ⟨gb213, 1, none⟩) (Kd.R_far (p := ⟨gb213, 0, none⟩) (Kd.R_types HO188.out BK213.out (by decide)) (fun _ hk => hk.2) (.int .i64 t211)) (fun _ hk => hk.2) (.int .i64 t212)) (fun _ h_ => h_.1))) hb); have n1_ := a_ (Kd.R_elder' (by (with_reducible repeat (first | apply Kd.R_alloc | apply Kd.R_drewN | apply Kd.R_drew)); exact (Kd.R_mono (Kd.R_far (p := ⟨gb213, 1, none⟩) (Kd.R_far (p := ⟨gb213, 0, none⟩) (Kd.R_types HO193.out BK213.out (by decide)) (fun _ hk => hk.2) (.int .i64 t211)) (fun _ hk => hk.2) (.int .i64 t212)) (fun _ h_ => h_.1))) (Kd.R_base ho29) hb); have n2_ := a_ (Kd.R_below (by (with_reducible repeat (first | apply Kd.R_alloc | apply Kd.R_drewN | apply Kd.R_drew)); exact (Kd.R_mono (Kd.R_far (p := ⟨gb213, 1, none⟩) (Kd.R_far (p := ⟨gb213, 0, none⟩) (Kd.R_types HO196.out BK213.out (by decide)) (fun _ hk => hk.2) (.int .i64 t211)) (fun _ hk => hk.2) (.int .i64 t212)) (fun _ h_ => h_.1))) hb); have n3_ := a_ (Kd.R_elder' (by (with_reducible repeat (first | apply Kd.R_alloc | apply Kd.R_drewN | apply Kd.R_drew)); exact (Kd.R_mono (Kd.R_far (p := ⟨gb213, 1, none⟩) (Kd.R_far (p := ⟨gb213, 0, none⟩) (Kd.R_types HO199.out BK213.out (by decide)) (fun _ hk => hk.2) (.int .i64 t211)) (fun _ hk => hk.2) (.int .i64 t212)) (fun _ h_ => h_.1))) (Kd.R_base ho29) hb); have n4_ := a_ (Kd.R_below (by (with_reducible repeat (first | apply Kd.R_alloc | apply Kd.R_drewN | apply Kd.R_drew)); exact (Kd.R_mono (Kd.R_far (p := ⟨gb213, 1, none⟩) (Kd.R_far (p := ⟨gb213, 0, none⟩) (Kd.R_types HO206.out BK213.out (by decide)) (fun _ hk => hk.2) (.int .i64 t211)) (fun _ hk => hk.2) (.int .i64 t212)) (fun _ h_ => h_.1))) hb); have n5_ := a_ (Kd.R_elder' (by (with_reducible repeat (first | apply Kd.R_alloc | apply Kd.R_drewN | apply Kd.R_drew)); exact (Kd.R_mono (Kd.R_far (p := ⟨gb213, 1, none⟩) (Kd.R_far (p := ⟨gb213, 0, none⟩) (Kd.R_types HO209.out BK213.out (by decide)) (fun _ hk => hk.2) (.int .i64 t211)) (fun _ hk => hk.2) (.int .i64 t212)) (fun _ h_ => h_.1))) (Kd.R_base ho29) hb); have n6_ := a_ (Kd.R_lower (Kd.R_new' (Kd.R_new' (Kd.R_new' ho29 (Kd.R_lt (by (with_reducible repeat (first | apply Kd.R_alloc | apply Kd.R_drewN | apply Kd.R_drew)); exact (Kd.R_mono (Kd.R_far (p := ⟨gb213, 1, none⟩) (Kd.R_far (p := ⟨gb213, 0, none⟩) (Kd.R_types HO193.out BK213.out (by decide)) (fun _ hk => hk.2) (.int .i64 t211)) (fun _ hk => hk.2) (.int .i64 t212)) (fun _ h_ => h_.1))))) (Kd.R_lt (by (with_reducible repeat (first | apply Kd.R_alloc | apply Kd.R_drewN | apply Kd.R_drew)); exact (Kd.R_mono (Kd.R_far (p := ⟨gb213, 1, none⟩) (Kd.R_far (p := ⟨gb213, 0, none⟩) (Kd.R_types HO199.out BK213.out (by decide)) (fun _ hk => hk.2) (.int .i64 t211)) (fun _ hk => hk.2) (.int .i64 t212)) (fun _ h_ => h_.1))))) (Kd.R_lt (by (with_reducible repeat (first | apply Kd.R_alloc | apply Kd.R_drewN | apply Kd.R_drew)); exact (Kd.R_mono (Kd.R_far (p := ⟨gb213, 1, none⟩) (Kd.R_far (p := ⟨gb213, 0, none⟩) (Kd.R_types HO209.out BK213.out (by decide)) (fun _ hk => hk.2) (.int .i64 t211)) (fun _ hk => hk.2) (.int .i64 t212)) (fun _ h_ => h_.1))))) (below_size (bS2_ HB.out GE203.out GE213.out))); have n7_ := a_ (blk_below (kf1_ BK203.out NB203_213.out) hb); have n8_ := a_ (blk_below (g := gb213) (o := .cells #[.int .i64 t211, .int .i64 t212] 29 (0, 0)) (kp0_ BK213.out) hb); have n9_ := a_ (below_step (bS2_ HB.out GE203.out GE213.out) hb); clear HO188; clear HO193; clear HO196; clear HO199; clear HO206; clear HO209; clear BK203; clear BK213; clear HB; have HO188 := n0_; have HO193 := n1_; have HO196 := n2_; have HO199 := n3_; have HO206 := n4_; have HO209 := n5_; have HO216 := n6_; have BK203 := n7_; have BK213 := n8_; have HB := n9_; clear n0_ n1_ n2_ n3_ n4_ n5_ n6_ n7_ n8_ n9_; clear hb ho29; obtain ⟨Ao30, co30, eo30⟩ := Kd.R_slice HO193.out; subst eo30; obtain ⟨Ao31, co31, eo31⟩ := Kd.R_slice HO216.out; subst eo31) | (go_at_call 13; (with_reducible refine (variorumref11_Ints.calls k _ _ t189 _ _ y214 true _ ?side1 ?side2 ?side3 ?side4 A8.out).mono ?_); (case side1 => exact cr_ (Kd.R_reads' HO193.out).2.2); (case side2 => exact (Kd.R_reads' HO193.out).2.1); (case side3 => exact cr_ (Kd.R_reads' HO216.out).2.2); (case side4 => exact (Kd.R_reads' HO216.out).2.1); rintro e w' ⟨rfl, ⟨nd, rfl⟩⟩; obtain ⟨Ao32, co32, eo32⟩ := Kd.R_slice HO199.out; subst eo32; clear A8) | (go_at_call 13; (with_reducible refine (variorumref11_Ints.calls k _ _ t197 _ _ t189 true _ ?side1 ?side2 ?side3 ?side4 A10.out).mono ?_); (case side1 => exact cr_ (Kd.R_reads' HO199.out).2.2); (case side2 => exact (Kd.R_reads' HO199.out).2.1); (case side3 => exact cr_ (Kd.R_reads' HO193.out).2.2); (case side4 => exact (Kd.R_reads' HO193.out).2.1); rintro e w' ⟨rfl, ⟨nd, rfl⟩⟩; obtain ⟨⟨Z33_0, Y33_0⟩, Z33_1, Y33_1⟩ := cs2_ BK203.out; obtain ⟨⟨Z34_0, Y34_0⟩, Z34_1, Y34_1⟩ := cs2_ BK213.out; clear A10))
      go_ret
      exact ⟨by first | rfl | (simp [errW_none, errW_some] <;> rfl) | (simp [*, errW_none, errW_some] <;> rfl), bS2_ HB.out GE203.out GE213.out⟩
     ·rw [if_neg c13] at H
      exact absurd H (by simp)
   ·replace c11 := Bool.eq_false_iff.mpr c11
    subst c11
    have H1 : (none) = some r := by rw [if_neg (show ¬ (false = true) by decide)] at H; exact H
    clear H
    have H := H1
    clear H1
    exact absurd H (by simp)
  ·replace c9 := Bool.eq_false_iff.mpr c9
   subst c9
   have H1 : (none) = some r := by rw [if_neg (show ¬ (false = true) by decide)] at H; exact H
   clear H
   have H := H1
   clear H1
   exact absurd H (by simp)
 ·replace c7 := Bool.eq_false_iff.mpr c7
  subst c7
  have H1 : (none) = some r := by rw [if_neg (show ¬ (false = true) by decide)] at H; exact H
  clear H
  have H := H1
  clear H1
  exact absurd H (by simp)

/-! ### variorumref02_Most: function 49 -/
def variorumref02_Most.f  : Option (Int) := some 1073741823
set_option maxHeartbeats 8000000 in
set_option maxRecDepth 100000 in
theorem variorumref02_Most.calls  (r : Int) (w : World) (h : variorumref02_Most.f  = some r) :
  Calls Try.prog 49 #[] w fun e w' => e = .returned (.int .i64 r) ∧ Drawn0 w w' := by
 have H : (some 1073741823) = some r := h
 clear h
 obtain rfl := Option.some.inj H
 go_enter Try.func49, Try.ntmps49
 go_wp2
 go_ret
 exact ⟨by first | rfl | (simp; done) | (simp [*]; done), by repeat (first | exact Drawn0.refl _ | apply Drawn0.step)⟩

/-! ### variorumref02_Fits: function 39 -/
def variorumref02_Fits.f (a0 : Int) : Option (Bool) := (variorumref02_Most.f).bind fun t219 => (if a0 ≥ (wrap64 (-t219)) then ((variorumref02_Most.f).bind fun t220 => (some (decide (a0 ≤ t220)))) else (some false))
set_option maxHeartbeats 8000000 in
set_option maxRecDepth 100000 in
theorem variorumref02_Fits.calls (a0 : Int) (r : Bool) (w : World) (h : variorumref02_Fits.f a0 = some r) :
  Calls Try.prog 39 #[.int .i64 a0] w fun e w' => e = .returned (.bool r) ∧ Drawn0 w w' := by
 have H : ((variorumref02_Most.f).bind fun t219 => (if a0 ≥ (wrap64 (-t219)) then ((variorumref02_Most.f).bind fun t220 => (some (decide (a0 ≤ t220)))) else (some false))) = some r := h
 clear h
 replace H := Option.bind_eq_some_iff.mp H
 obtain ⟨t219, A20, H⟩ := H
 replace H : (if a0 ≥ (wrap64 (-t219)) then ((variorumref02_Most.f).bind fun t220 => (some (decide (a0 ≤ t220)))) else (some false)) = some r := H
 have A2 := a_ A20
 clear A20
 by_cases c3 : a0 ≥ (wrap64 (-t219))
 ·rw [if_pos c3] at H
  have c3b0 : decide ((wrap64 (-t219)) ≤ a0) = true := decide_eq_true c3
  clear c3
  replace H := Option.bind_eq_some_iff.mp H
  obtain ⟨t220, A40, H⟩ := H
  replace H : (some (decide (a0 ≤ t220))) = some r := H
  have A4 := a_ A40
  clear A40
  obtain rfl := Option.some.inj H
  go_enter Try.func39, Try.ntmps39
  go_wp2_with (first | ((with_reducible refine gate_callee (f := 49) rfl ?_); refine gl_ (some 4) Try.func49 (by kernel_rfl) #[] ?_; (with_reducible refine (variorumref02_Most.calls  t219 _ A2.out).mono ?_); rintro e w' ⟨rfl, ⟨nd, rfl⟩⟩; refine ⟨_, rfl, ?_⟩) | (go_at_call 49; (with_reducible refine (variorumref02_Most.calls  t220 _ A4.out).mono ?_); rintro e w' ⟨rfl, ⟨nd, rfl⟩⟩))
  go_ret
  exact ⟨by first | rfl | (simp; done) | (simp [*]; done), by repeat (first | exact Drawn0.refl _ | apply Drawn0.step)⟩
 ·rw [if_neg c3] at H
  have c3b0 : decide ((wrap64 (-t219)) ≤ a0) = false := decide_eq_false c3
  clear c3
  obtain rfl := Option.some.inj H
  go_enter Try.func39, Try.ntmps39
  go_wp2_with (first | ((with_reducible refine gate_callee (f := 49) rfl ?_); refine gl_ (some 4) Try.func49 (by kernel_rfl) #[] ?_; (with_reducible refine (variorumref02_Most.calls  t219 _ A2.out).mono ?_); rintro e w' ⟨rfl, ⟨nd, rfl⟩⟩; refine ⟨_, rfl, ?_⟩))
  go_ret
  exact ⟨by first | rfl | (simp; done) | (simp [*]; done), by repeat (first | exact Drawn0.refl _ | apply Drawn0.step)⟩

end Go.Proofs.Ytnkdopihaohimaa.PBr

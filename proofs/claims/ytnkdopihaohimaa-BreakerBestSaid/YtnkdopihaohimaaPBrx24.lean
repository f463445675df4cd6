/- Written by a program of this session: functions of the given program as plain Lean functions, the walks that show it, and the row of each law, for every input that its statement speaks of. -/
import Derived.Test.YtnkdopihaohimaaPBrx0
import Derived.Test.YtnkdopihaohimaaPBrx22
import Derived.Test.YtnkdopihaohimaaPBrx8
import Derived.Test.YtnkdopihaohimaaPBrx9
import Derived.Test.YtnkdopihaohimaaPBrx23
namespace Go.Proofs.Ytnkdopihaohimaa.PBr
open Go.RowKit Go.Proofs.YtnkdopihaohimaaW.PrintWords Go.Proofs.YtnkdopihaohimaaW.PrintLast Go.Proofs.YtnkdopihaohimaaW.PrintMore
attribute [local go_sem] max2_int min2_int max_two min_two max_three min_three max_four min_four   -- for this text's walks alone
set_option linter.unusedVariables false
set_option linter.unusedSimpArgs false

attribute [local go_sem high] eqA29
/-! ### variorumlaw11_BreakerBest: function 3 -/
def variorumlaw11_BreakerBest.f (k : Nat) (l0 : List (S47)) (a1 : Int) (a2 : Int) : Option (Bool) := if (l0.length : Int) > 80 then ((variorumlaw11_fixed.f k).bind fun t339 => (some t339)) else ((breaker_Best.f k l0 a1 a2).bind fun bt340 => ((variorumref11_Best.f k l0 a1 a2).bind fun bt345 => ((breaker_Break.f k l0 a1).bind fun bt350 => ((variorumref11_Break.f k l0 a1).bind fun bt357 => ((variorumlaw11_fixed.f k).bind fun t364 => (if t364 = true then ((variorumref11_Ints.f k bt340.1 bt345.1).bind fun t365 => (if t365 = true then (if bt340.2.1 = bt345.2.1 then (if (bt340.2.2 == bt345.2.2) = true then ((variorumref11_Ints.f k bt350.1 bt357.1).bind fun t366 => (if t366 = true then (if (bt350.2.1 == bt357.2.1) = true then (some (bt350.2.2.1 == bt357.2.2.1 && (bt350.2.2.2 == bt357.2.2.2))) else (none)) else (none))) else (none)) else (none)) else (none))) else (none)))))))
theorem variorumlaw11_BreakerBest.mono : ∀ a0 a1 a2 k, LeO (variorumlaw11_BreakerBest.f k a0 a1 a2) (variorumlaw11_BreakerBest.f (k + 1) a0 a1 a2) := by
 intro a0 a1 a2 k
 unfold variorumlaw11_BreakerBest.f
 repeat' first
   | (with_reducible exact breaker_Best.mono _ _ _ _)
   | (with_reducible exact breaker_Break.mono _ _ _)
   | (with_reducible exact variorumlaw11_fixed.mono _)
   | (with_reducible exact variorumref11_Best.mono _ _ _ _)
   | (with_reducible exact variorumref11_Break.mono _ _ _)
   | (with_reducible exact variorumref11_Ints.mono _ _ _)
   | (with_reducible exact LeO.refl _)
   | (with_reducible exact LeO.none _)
   | (with_reducible refine LeO.ite ?_ ?_)
   | (with_reducible refine LeO.bind ?_ (fun _ => ?_))
   | exact breaker_Best.mono _ _ _ _
   | exact breaker_Break.mono _ _ _
   | exact variorumlaw11_fixed.mono _
   | exact variorumref11_Best.mono _ _ _ _
   | exact variorumref11_Break.mono _ _ _
   | exact variorumref11_Ints.mono _ _ _
   | exact LeO.none _
   | refine LeO.ite ?_ ?_
   | refine LeO.bind ?_ (fun _ => ?_)
set_option maxHeartbeats 8000000 in
set_option maxRecDepth 100000 in
theorem variorumlaw11_BreakerBest.calls (k : Nat) (A0 : Option Addr) (c0 : Nat) (l0 : List (S47)) (a1 : Int) (a2 : Int) (r : Bool) (w : World) (hr0 : Kd.C k47 w A0 l0.length l0) (hc0 : l0.length ≤ c0) (h : variorumlaw11_BreakerBest.f k l0 a1 a2 = some r) :
  Calls Try.prog 3 #[.slice A0 l0.length c0, .int .i64 a1, .int .i64 a2] w fun e w' => e = .returned (.bool r) ∧ Below w.heap.size w w' := by
 have hu29 := Try.underlying29
 have HR0 := a_ hr0
 have HC0 := a_ hc0
 clear hr0 hc0
 have HB := a_ (Below.refl w.heap.size w)
 have H : (if (l0.length : Int) > 80 then ((variorumlaw11_fixed.f k).bind fun t339 => (some t339)) else ((breaker_Best.f k l0 a1 a2).bind fun bt340 => ((variorumref11_Best.f k l0 a1 a2).bind fun bt345 => ((breaker_Break.f k l0 a1).bind fun bt350 => ((variorumref11_Break.f k l0 a1).bind fun bt357 => ((variorumlaw11_fixed.f k).bind fun t364 => (if t364 = true then ((variorumref11_Ints.f k bt340.1 bt345.1).bind fun t365 => (if t365 = true then (if bt340.2.1 = bt345.2.1 then (if (bt340.2.2 == bt345.2.2) = true then ((variorumref11_Ints.f k bt350.1 bt357.1).bind fun t366 => (if t366 = true then (if (bt350.2.1 == bt357.2.1) = true then (some (bt350.2.2.1 == bt357.2.2.1 && (bt350.2.2.2 == bt357.2.2.2))) else (none)) else (none))) else (none)) else (none)) else (none))) else (none)))))))) = some r := h
 clear h
 by_cases c4 : (l0.length : Int) > 80
 ·rw [if_pos c4] at H
  have c4b0 : decide (80 < (l0.length : Int)) = true := decide_eq_true c4
  have c4b1 : decide (80 < l0.length) = true := decide_eq_true (by omega)
  clear c4
  replace H := Option.bind_eq_some_iff.mp H
  obtain ⟨t339, A50, H⟩ := H
  replace H : (some t339) = some r := H
  have A5 := a_ A50
  clear A50
  obtain rfl := Option.some.inj H
  go_enter Try.func3, Try.ntmps3
  go_wp2_with (first | ((with_reducible refine gate_callee (f := 8) rfl ?_); refine gl_ (some 22) Try.func8 (by kernel_rfl) #[] ?_; (with_reducible refine (variorumlaw11_fixed.calls k  t339 _ A5.out).mono ?_); rintro e w6 ⟨rfl, hb⟩; refine ⟨_, rfl, ?_⟩; have n0_ := a_ (bs_ HB.out hb); clear HB; have HB := n0_; clear n0_; (try clear hb); (try clear hb2); (try clear hk); (try clear hi)))
  go_ret
  exact ⟨by first | rfl | (simp [errW_none, errW_some] <;> rfl) | (simp [*, errW_none, errW_some] <;> rfl), bv_ HB.out⟩
 ·rw [if_neg c4] at H
  have c4b0 : decide (80 < (l0.length : Int)) = false := decide_eq_false c4
  have c4b1 : decide (80 < l0.length) = false := decide_eq_false (by omega)
  clear c4
  replace H := Option.bind_eq_some_iff.mp H
  obtain ⟨⟨t340, t341, t342⟩, A70, H⟩ := H
  replace H : ((variorumref11_Best.f k l0 a1 a2).bind fun bt345 => ((breaker_Break.f k l0 a1).bind fun bt350 => ((variorumref11_Break.f k l0 a1).bind fun bt357 => ((variorumlaw11_fixed.f k).bind fun t364 => (if t364 = true then ((variorumref11_Ints.f k t340 bt345.1).bind fun t365 => (if t365 = true then (if t341 = bt345.2.1 then (if (t342 == bt345.2.2) = true then ((variorumref11_Ints.f k bt350.1 bt357.1).bind fun t366 => (if t366 = true then (if (bt350.2.1 == bt357.2.1) = true then (some (bt350.2.2.1 == bt357.2.2.1 && (bt350.2.2.2 == bt357.2.2.2))) else (none)) else (none))) else (none)) else (none)) else (none))) else (none)))))) = some r := H
  have A7 := a_ A70
  clear A70
  replace H := Option.bind_eq_some_iff.mp H
  obtain ⟨⟨t345, t346, t347⟩, A80, H⟩ := H
  replace H : ((breaker_Break.f k l0 a1).bind fun bt350 => ((variorumref11_Break.f k l0 a1).bind fun bt357 => ((variorumlaw11_fixed.f k).bind fun t364 => (if t364 = true then ((variorumref11_Ints.f k t340 t345).bind fun t365 => (if t365 = true then (if t341 = t346 then (if (t342 == t347) = true then ((variorumref11_Ints.f k bt350.1 bt357.1).bind fun t366 => (if t366 = true then (if (bt350.2.1 == bt357.2.1) = true then (some (bt350.2.2.1 == bt357.2.2.1 && (bt350.2.2.2 == bt357.2.2.2))) else (none)) else (none))) else (none)) else (none)) else (none))) else (none))))) = some r := H
  have A8 := a_ A80
  clear A80
  replace H := Option.bind_eq_some_iff.mp H
  obtain ⟨⟨t350, t353, t354, t355⟩, A90, H⟩ := H
  replace H : ((variorumref11_Break.f k l0 a1).bind fun bt357 => ((variorumlaw11_fixed.f k).bind fun t364 => (if t364 = true then ((variorumref11_Ints.f k t340 t345).bind fun t365 => (if t365 = true then (if t341 = t346 then (if (t342 == t347) = true then ((variorumref11_Ints.f k t350 bt357.1).bind fun t366 => (if t366 = true then (if (t353 == bt357.2.1) = true then (some (t354 == bt357.2.2.1 && (t355 == bt357.2.2.2))) else (none)) else (none))) else (none)) else (none)) else (none))) else (none)))) = some r := H
  have A9 := a_ A90
  clear A90
  replace H := Option.bind_eq_some_iff.mp H
  obtain ⟨⟨t357, t360, t361, t362⟩, A100, H⟩ := H
  replace H : ((variorumlaw11_fixed.f k).bind fun t364 => (if t364 = true then ((variorumref11_Ints.f k t340 t345).bind fun t365 => (if t365 = true then (if t341 = t346 then (if (t342 == t347) = true then ((variorumref11_Ints.f k t350 t357).bind fun t366 => (if t366 = true then (if (t353 == t360) = true then (some (t354 == t361 && (t355 == t362))) else (none)) else (none))) else (none)) else (none)) else (none))) else (none))) = some r := H
  have A10 := a_ A100
  clear A100
  replace H := Option.bind_eq_some_iff.mp H
  obtain ⟨t364, A110, H⟩ := H
  replace H : (if t364 = true then ((variorumref11_Ints.f k t340 t345).bind fun t365 => (if t365 = true then (if t341 = t346 then (if (t342 == t347) = true then ((variorumref11_Ints.f k t350 t357).bind fun t366 => (if t366 = true then (if (t353 == t360) = true then (some (t354 == t361 && (t355 == t362))) else (none)) else (none))) else (none)) else (none)) else (none))) else (none)) = some r := H
  have A11 := a_ A110
  clear A110
  by_cases c12 : t364 = true
  ·subst c12
   have H1 : ((variorumref11_Ints.f k t340 t345).bind fun t365 => (if t365 = true then (if t341 = t346 then (if (t342 == t347) = true then ((variorumref11_Ints.f k t350 t357).bind fun t366 => (if t366 = true then (if (t353 == t360) = true then (some (t354 == t361 && (t355 == t362))) else (none)) else (none))) else (none)) else (none)) else (none))) = some r := by rw [if_pos rfl] at H; exact H
   clear H
   have H := H1
   clear H1
   replace H := Option.bind_eq_some_iff.mp H
   obtain ⟨t365, A130, H⟩ := H
   replace H : (if t365 = true then (if t341 = t346 then (if (t342 == t347) = true then ((variorumref11_Ints.f k t350 t357).bind fun t366 => (if t366 = true then (if (t353 == t360) = true then (some (t354 == t361 && (t355 == t362))) else (none)) else (none))) else (none)) else (none)) else (none)) = some r := H
   have A13 := a_ A130
   clear A130
   by_cases c14 : t365 = true
   ·subst c14
    have H1 : (if t341 = t346 then (if (t342 == t347) = true then ((variorumref11_Ints.f k t350 t357).bind fun t366 => (if t366 = true then (if (t353 == t360) = true then (some (t354 == t361 && (t355 == t362))) else (none)) else (none))) else (none)) else (none)) = some r := by rw [if_pos rfl] at H; exact H
    clear H
    have H := H1
    clear H1
    by_cases c15 : t341 = t346
    ·rw [if_pos c15] at H
     have c15b0 : (t341 == t346) = true := beq_iff_eq.mpr c15
     have c15b1 : (t341 != t346) = false := bne_eq_false_iff_eq.mpr c15
     clear c15
     by_cases c16 : (t342 == t347) = true
     ·rw [if_pos c16] at H
      have c16b0 : (t342 == t347) = true := c16
      (try (have c16b1 : decide (t342 = t347) = true := by simpa using c16))
      (try (have c16b2 : (t342 == t347) = true := by simpa using c16))
      clear c16
      replace H := Option.bind_eq_some_iff.mp H
      obtain ⟨t366, A170, H⟩ := H
      replace H : (if t366 = true then (if (t353 == t360) = true then (some (t354 == t361 && (t355 == t362))) else (none)) else (none)) = some r := H
      have A17 := a_ A170
      clear A170
      by_cases c18 : t366 = true
      ·subst c18
       have H1 : (if (t353 == t360) = true then (some (t354 == t361 && (t355 == t362))) else (none)) = some r := by rw [if_pos rfl] at H; exact H
       clear H
       have H := H1
       clear H1
       by_cases c19 : (t353 == t360) = true
       ·rw [if_pos c19] at H
        have c19b0 : (t353 == t360) = true := c19
        (try (have c19b1 : decide (t353 = t360) = true := by simpa using c19))
        (try (have c19b2 : (t353 == t360) = true := by simpa using c19))
        clear c19
        obtain rfl := Option.some.inj H
        go_enter Try.func3, Try.ntmps3
        go_wp2_with (first | ((with_reducible refine gate_callee (f := 9) rfl ?_); refine gl_ (some 27) Try.func9 (by kernel_rfl) #[.slice A0 l0.length c0, .int .i64 a1, .int .i64 a2] ?_; (with_reducible refine (breaker_Best.calls k _ _ l0 a1 a2 t340 t341 t342 _ ?side1 ?side2 A7.out).mono ?_); (case side1 => repeat (first | exact HR0.out | (with_reducible refine Kd.C_alloc ?_ _) | (with_reducible refine Kd.C_drewN ?_ _) | (with_reducible refine Kd.C_drew ?_))); (case side2 => exact HC0.out); rintro e w20 ⟨v343, rfl, ho0, hb⟩; refine ⟨_, rfl, ?_⟩; have n0_ := a_ (Kd.R_lower ho0 (below_size (bv_ HB.out))); have n1_ := a_ (bs_ HB.out hb); clear HB; have HO344 := n0_; have HB := n1_; clear n0_ n1_; (try clear hb); (try clear hb2); (try clear hk); (try clear hi); (try clear ho0)) | ((with_reducible refine gate_callee (f := 10) rfl ?_); refine gl_ (some 35) Try.func10 (by kernel_rfl) #[.slice A0 l0.length c0, .int .i64 a1, .int .i64 a2] ?_; (with_reducible refine (variorumref11_Best.calls k _ _ l0 a1 a2 t345 t346 t347 _ ?side1 ?side2 A8.out).mono ?_); (case side1 => exact cw_ HR0.out HB.out); (case side2 => exact HC0.out); rintro e w21 ⟨v348, rfl, ho0, hb⟩; refine ⟨_, rfl, ?_⟩; have n0_ := a_ (Kd.R_elder' (rv_ HO344.out) (Kd.R_base ho0) hb); have n1_ := a_ (Kd.R_lower (Kd.R_new' ho0 (Kd.R_lt (rv_ HO344.out))) (below_size (bv_ HB.out))); have n2_ := a_ (bs_ HB.out hb); clear HO344; clear HB; have HO344 := n0_; have HO349 := n1_; have HB := n2_; clear n0_ n1_ n2_; (try clear hb); (try clear hb2); (try clear hk); (try clear hi); (try clear ho0)) | ((with_reducible refine gate_callee (f := 11) rfl ?_); refine gl_ (some 42) Try.func11 (by kernel_rfl) #[.slice A0 l0.length c0, .int .i64 a1] ?_; (with_reducible refine (breaker_Break.calls k _ _ l0 a1 t350 t353 t354 t355 _ ?side1 ?side2 A9.out).mono ?_); (case side1 => exact cw_ HR0.out HB.out); (case side2 => exact HC0.out); rintro e w22 ⟨v351, rfl, ho0, hb⟩; refine ⟨_, rfl, ?_⟩; have n0_ := a_ (Kd.R_elder' (rv_ HO344.out) (Kd.R_base ho0) hb); have n1_ := a_ (Kd.R_elder' (rv_ HO349.out) (Kd.R_base ho0) hb); have n2_ := a_ (Kd.R_lower (Kd.R_new' (Kd.R_new' ho0 (Kd.R_lt (rv_ HO344.out))) (Kd.R_lt (rv_ HO349.out))) (below_size (bv_ HB.out))); have n3_ := a_ (bs_ HB.out hb); clear HO344; clear HO349; clear HB; have HO344 := n0_; have HO349 := n1_; have HO352 := n2_; have HB := n3_; clear n0_ n1_ n2_ n3_; (try clear hb); (try clear hb2); (try clear hk); (try clear hi); (try clear ho0)) | ((with_reducible refine gate_dst (N := 15) rfl ?_); refine box_event ?hg (N := 15) ?hd (cs := #[.int .i64 0, .int .i64 0]) (t := 29) ?hr ?_; (case hd => rfl); (case hg => rfl); (case hr => first | (go_simp; done) | (go_simp; rfl)); intro gb356 hg w23 hbox hb; have n0_ := a_ (Kd.R_below (rv_ HO344.out) hb); have n1_ := a_ (Kd.R_below (rv_ HO349.out) hb); have n2_ := a_ (Kd.R_below (rv_ HO352.out) hb); have n3_ := a_ (bs_ HB.out hb); have n4_ := a_ (hbox); have n5_ := a_ ((by rw [hg]; exact (below_size (bv_ HB.out)) : w.heap.size ≤ gb356)); have n6_ := a_ ((by rw [hg]; exact (below_size (bv_ HB.out)) : w.heap.size ≤ gb356)); clear HO344; clear HO349; clear HO352; clear HB; have HO344 := n0_; have HO349 := n1_; have HO352 := n2_; have HB := n3_; have BK356 := n4_; have GW356 := n5_; have GE356 := n6_; clear n0_ n1_ n2_ n3_ n4_ n5_ n6_; clear hb hbox hg; obtain ⟨⟨Z24_0, Y24_0⟩, Z24_1, Y24_1⟩ := cs2_ BK356.out) | ((with_reducible refine gate_callee (f := 12) rfl ?_); refine gl_ (some 49) Try.func12 (by kernel_rfl) #[.slice A0 l0.length c0, .int .i64 a1] ?_; (with_reducible refine (variorumref11_Break.calls k _ _ l0 a1 t357 t360 t361 t362 _ ?side1 ?side2 A10.out).mono ?_); (case side1 => exact Kd.C_below HR0.out (bS1_ HB.out GE356.out)); (case side2 => exact HC0.out); rintro e w25 ⟨v358, rfl, ho0, hb⟩; refine ⟨_, rfl, ?_⟩; have n0_ := a_ (Kd.R_elder' (by (with_reducible repeat (first | apply Kd.R_alloc | apply Kd.R_drewN | apply Kd.R_drew)); exact (Kd.R_mono (Kd.R_far (p := ⟨gb356, 1, none⟩) (Kd.R_far (p := ⟨gb356, 0, none⟩) (Kd.R_types HO344.out BK356.out (by decide)) (fun _ hk => hk.2) (.int .i64 t354)) (fun _ hk => hk.2) (.int .i64 t355)) (fun _ h_ => h_.1))) (Kd.R_base ho0) hb); have n1_ := a_ (Kd.R_elder' (by (with_reducible repeat (first | apply Kd.R_alloc | apply Kd.R_drewN | apply Kd.R_drew)); exact (Kd.R_mono (Kd.R_far (p := ⟨gb356, 1, none⟩) (Kd.R_far (p := ⟨gb356, 0, none⟩) (Kd.R_types HO349.out BK356.out (by decide)) (fun _ hk => hk.2) (.int .i64 t354)) (fun _ hk => hk.2) (.int .i64 t355)) (fun _ h_ => h_.1))) (Kd.R_base ho0) hb); have n2_ := a_ (Kd.R_elder' (by (with_reducible repeat (first | apply Kd.R_alloc | apply Kd.R_drewN | apply Kd.R_drew)); exact (Kd.R_mono (Kd.R_far (p := ⟨gb356, 1, none⟩) (Kd.R_far (p := ⟨gb356, 0, none⟩) (Kd.R_types HO352.out BK356.out (by decide)) (fun _ hk => hk.2) (.int .i64 t354)) (fun _ hk => hk.2) (.int .i64 t355)) (fun _ h_ => h_.1))) (Kd.R_base ho0) hb); have n3_ := a_ (Kd.R_lower (Kd.R_new' (Kd.R_new' (Kd.R_new' ho0 (Kd.R_lt (by (with_reducible repeat (first | apply Kd.R_alloc | apply Kd.R_drewN | apply Kd.R_drew)); exact (Kd.R_mono (Kd.R_far (p := ⟨gb356, 1, none⟩) (Kd.R_far (p := ⟨gb356, 0, none⟩) (Kd.R_types HO344.out BK356.out (by decide)) (fun _ hk => hk.2) (.int .i64 t354)) (fun _ hk => hk.2) (.int .i64 t355)) (fun _ h_ => h_.1))))) (Kd.R_lt (by (with_reducible repeat (first | apply Kd.R_alloc | apply Kd.R_drewN | apply Kd.R_drew)); exact (Kd.R_mono (Kd.R_far (p := ⟨gb356, 1, none⟩) (Kd.R_far (p := ⟨gb356, 0, none⟩) (Kd.R_types HO349.out BK356.out (by decide)) (fun _ hk => hk.2) (.int .i64 t354)) (fun _ hk => hk.2) (.int .i64 t355)) (fun _ h_ => h_.1))))) (Kd.R_lt (by (with_reducible repeat (first | apply Kd.R_alloc | apply Kd.R_drewN | apply Kd.R_drew)); exact (Kd.R_mono (Kd.R_far (p := ⟨gb356, 1, none⟩) (Kd.R_far (p := ⟨gb356, 0, none⟩) (Kd.R_types HO352.out BK356.out (by decide)) (fun _ hk => hk.2) (.int .i64 t354)) (fun _ hk => hk.2) (.int .i64 t355)) (fun _ h_ => h_.1))))) (below_size (bS1_ HB.out GE356.out))); have n4_ := a_ (blk_below (g := gb356) (o := .cells #[.int .i64 t354, .int .i64 t355] 29 (0, 0)) (kp0_ BK356.out) hb); have n5_ := a_ (below_step (bS1_ HB.out GE356.out) hb); clear HO344; clear HO349; clear HO352; clear BK356; clear HB; have HO344 := n0_; have HO349 := n1_; have HO352 := n2_; have HO359 := n3_; have BK356 := n4_; have HB := n5_; clear n0_ n1_ n2_ n3_ n4_ n5_; (try clear hb); (try clear hb2); (try clear hk); (try clear hi); (try clear ho0)) | ((with_reducible refine gate_dst (N := 18) rfl ?_); refine box_event ?hg (N := 18) ?hd (cs := #[.int .i64 0, .int .i64 0]) (t := 29) ?hr ?_; (case hd => rfl); (case hg => rfl); (case hr => first | (go_simp; done) | (go_simp; rfl)); intro gb363 hg w26 hbox hb; have n0_ := a_ (Kd.R_below (rv_ HO344.out) hb); have n1_ := a_ (Kd.R_below (rv_ HO349.out) hb); have n2_ := a_ (Kd.R_below (rv_ HO352.out) hb); have n3_ := a_ (Kd.R_below (rv_ HO359.out) hb); have n4_ := a_ (kb_ BK356.out hb); have n5_ := a_ (below_step (bS1_ HB.out GE356.out) hb); have n6_ := a_ (hbox); have n7_ := a_ ((by rw [hg]; exact (below_size (bS1_ HB.out GE356.out)) : w.heap.size ≤ gb363)); have n8_ := a_ ((by rw [hg]; exact (below_size (bS1_ HB.out GE356.out)) : w.heap.size ≤ gb363)); have n9_ := a_ ((by rw [hg]; exact Nat.ne_of_lt (blk_lt (kv_ BK356.out)) : gb356 ≠ gb363)); have n10_ := a_ ((by rw [hg]; exact Nat.ne_of_gt (blk_lt (kv_ BK356.out)) : gb363 ≠ gb356)); clear HO344; clear HO349; clear HO352; clear HO359; clear BK356; clear HB; have HO344 := n0_; have HO349 := n1_; have HO352 := n2_; have HO359 := n3_; have BK356 := n4_; have HB := n5_; have BK363 := n6_; have GW363 := n7_; have GE363 := n8_; have NB356_363 := n9_; have NB363_356 := n10_; clear n0_ n1_ n2_ n3_ n4_ n5_ n6_ n7_ n8_ n9_ n10_; clear hb hbox hg; have hnb27 := NB363_356.out; have hnc27 := NB356_363.out; obtain ⟨⟨Z28_0, Y28_0⟩, Z28_1, Y28_1⟩ := cs2_ BK363.out) | ((with_reducible refine gate_callee (f := 8) rfl ?_); refine gl_ (some 53) Try.func8 (by kernel_rfl) #[] ?_; (with_reducible refine (variorumlaw11_fixed.calls k  true _ A11.out).mono ?_); rintro e w29 ⟨rfl, hb⟩; refine ⟨_, rfl, ?_⟩; have n0_ := a_ (Kd.R_below (by (with_reducible repeat (first | apply Kd.R_alloc | apply Kd.R_drewN | apply Kd.R_drew)); exact (Kd.R_mono (Kd.R_far (p := ⟨gb363, 1, none⟩) (Kd.R_far (p := ⟨gb363, 0, none⟩) (Kd.R_types HO344.out BK363.out (by decide)) (fun _ hk => hk.2) (.int .i64 t361)) (fun _ hk => hk.2) (.int .i64 t362)) (fun _ h_ => h_.1))) hb); have n1_ := a_ (Kd.R_below (by (with_reducible repeat (first | apply Kd.R_alloc | apply Kd.R_drewN | apply Kd.R_drew)); exact (Kd.R_mono (Kd.R_far (p := ⟨gb363, 1, none⟩) (Kd.R_far (p := ⟨gb363, 0, none⟩) (Kd.R_types HO349.out BK363.out (by decide)) (fun _ hk => hk.2) (.int .i64 t361)) (fun _ hk => hk.2) (.int .i64 t362)) (fun _ h_ => h_.1))) hb); have n2_ := a_ (Kd.R_below (by (with_reducible repeat (first | apply Kd.R_alloc | apply Kd.R_drewN | apply Kd.R_drew)); exact (Kd.R_mono (Kd.R_far (p := ⟨gb363, 1, none⟩) (Kd.R_far (p := ⟨gb363, 0, none⟩) (Kd.R_types HO352.out BK363.out (by decide)) (fun _ hk => hk.2) (.int .i64 t361)) (fun _ hk => hk.2) (.int .i64 t362)) (fun _ h_ => h_.1))) hb); have n3_ := a_ (Kd.R_below (by (with_reducible repeat (first | apply Kd.R_alloc | apply Kd.R_drewN | apply Kd.R_drew)); exact (Kd.R_mono (Kd.R_far (p := ⟨gb363, 1, none⟩) (Kd.R_far (p := ⟨gb363, 0, none⟩) (Kd.R_types HO359.out BK363.out (by decide)) (fun _ hk => hk.2) (.int .i64 t361)) (fun _ hk => hk.2) (.int .i64 t362)) (fun _ h_ => h_.1))) hb); have n4_ := a_ (blk_below (kf1_ BK356.out NB356_363.out) hb); have n5_ := a_ (blk_below (g := gb363) (o := .cells #[.int .i64 t361, .int .i64 t362] 29 (0, 0)) (kp0_ BK363.out) hb); have n6_ := a_ (below_step (bS2_ HB.out GE356.out GE363.out) hb); clear HO344; clear HO349; clear HO352; clear HO359; clear BK356; clear BK363; clear HB; have HO344 := n0_; have HO349 := n1_; have HO352 := n2_; have HO359 := n3_; have BK356 := n4_; have BK363 := n5_; have HB := n6_; clear n0_ n1_ n2_ n3_ n4_ n5_ n6_; (try clear hb); (try clear hb2); (try clear hk); (try clear hi); obtain ⟨Ao30, co30, eo30⟩ := Kd.R_slice HO344.out; subst eo30; obtain ⟨Ao31, co31, eo31⟩ := Kd.R_slice HO349.out; subst eo31) | (go_at_call 13; (with_reducible refine (variorumref11_Ints.calls k _ _ t340 _ _ t345 true _ ?side1 ?side2 ?side3 ?side4 A13.out).mono ?_); (case side1 => exact cr_ (Kd.R_reads' HO344.out).2.2); (case side2 => exact (Kd.R_reads' HO344.out).2.1); (case side3 => exact cr_ (Kd.R_reads' HO349.out).2.2); (case side4 => exact (Kd.R_reads' HO349.out).2.1); rintro e w' ⟨rfl, ⟨nd, rfl⟩⟩; obtain ⟨Ao32, co32, eo32⟩ := Kd.R_slice HO352.out; subst eo32; obtain ⟨Ao33, co33, eo33⟩ := Kd.R_slice HO359.out; subst eo33) | (go_at_call 13; (with_reducible refine (variorumref11_Ints.calls k _ _ t350 _ _ t357 true _ ?side1 ?side2 ?side3 ?side4 A17.out).mono ?_); (case side1 => exact cr_ (Kd.R_reads' HO352.out).2.2); (case side2 => exact (Kd.R_reads' HO352.out).2.1); (case side3 => exact cr_ (Kd.R_reads' HO359.out).2.2); (case side4 => exact (Kd.R_reads' HO359.out).2.1); rintro e w' ⟨rfl, ⟨nd, rfl⟩⟩; obtain ⟨⟨Z34_0, Y34_0⟩, Z34_1, Y34_1⟩ := cs2_ BK356.out; obtain ⟨⟨Z35_0, Y35_0⟩, Z35_1, Y35_1⟩ := cs2_ BK363.out))
        go_ret
        exact ⟨by first | rfl | (simp [errW_none, errW_some] <;> rfl) | (simp [*, errW_none, errW_some] <;> rfl), bS2_ HB.out GE356.out GE363.out⟩
       ·rw [if_neg c19] at H
        exact absurd H (by simp)
      ·replace c18 := Bool.eq_false_iff.mpr c18
       subst c18
       have H1 : (none) = some r := by rw [if_neg (show ¬ (false = true) by decide)] at H; exact H
       clear H
       have H := H1
       clear H1
       exact absurd H (by simp)
     ·rw [if_neg c16] at H
      exact absurd H (by simp)
    ·rw [if_neg c15] at H
     exact absurd H (by simp)
   ·replace c14 := Bool.eq_false_iff.mpr c14
    subst c14
    have H1 : (none) = some r := by rw [if_neg (show ¬ (false = true) by decide)] at H; exact H
    clear H
    have H := H1
    clear H1
    exact absurd H (by simp)
  ·replace c12 := Bool.eq_false_iff.mpr c12
   subst c12
   have H1 : (none) = some r := by rw [if_neg (show ¬ (false = true) by decide)] at H; exact H
   clear H
   have H := H1
   clear H1
   exact absurd H (by simp)

/-- The one statement about numbers and lists that is left of the law. -/
def variorumlaw11_BreakerBest.Pure : Prop := ∀ (x0 : List (S47)) (x1 : Int) (x2 : Int), (x0.length * 72 ≤ 140737488351232 ∧ ∀ y0 ∈ x0, ((Lit.int .i64 y0.f0).wf = true ∧ (((Lit.int .i64 y0.f1.f0).wf = true ∧ ((Lit.int .i64 y0.f1.f1).wf = true ∧ ((Lit.int .i64 y0.f1.f2).wf = true ∧ ((Lit.int .i64 y0.f1.f3).wf = true)))) ∧ ((Lit.int .i64 y0.f2).wf = true ∧ (True ∧ ((Lit.int .i64 y0.f4).wf = true ∧ ((Lit.int .i64 y0.f5).wf = true))))))) → (Lit.int .i64 x1).wf = true → (Lit.int .i64 x2).wf = true → ∃ k, variorumlaw11_BreakerBest.f k x0 x1 x2 = some true

end Go.Proofs.Ytnkdopihaohimaa.PBr

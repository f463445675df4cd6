/- Written by a program of this session: functions of the given program as plain Lean functions, the walks that show it, and the row of each law, for every input that its statement speaks of. -/
import Derived.Test.YtpfnfofaajpdmaaPWix0
import Derived.Test.YtpfnfofaajpdmaaPWix4
import Derived.Test.YtpfnfofaajpdmaaPWix7
namespace Go.Proofs.Ytpfnfofaajpdmaa.PWi
open Go.RowKit Go.Proofs.YtpfnfofaajpdmaaW.PrintWords Go.Proofs.YtpfnfofaajpdmaaW.PrintLast Go.Proofs.YtpfnfofaajpdmaaW.PrintMore
attribute [local go_sem] max2_int min2_int max_two min_two max_three min_three max_four min_four   -- for this text's walks alone
set_option linter.unusedVariables false
set_option linter.unusedSimpArgs false

/-! ### scaled_Sub: function 54 -/
def scaled_Sub.f (a0 : Int) (a1 : Int) : Option (Int × Bool) := (scaled_Fits.f a0).bind fun t155 => (if t155 = true then ((scaled_Fits.f a1).bind fun t156 => ((scaled_fitted.f (wrap64 (a0 - a1)) t156).bind fun bt157 => (some (bt157.1, bt157.2)))) else ((scaled_fitted.f (wrap64 (a0 - a1)) false).bind fun bt159 => (some (bt159.1, bt159.2))))
set_option maxHeartbeats 8000000 in
set_option maxRecDepth 100000 in
theorem scaled_Sub.calls (a0 : Int) (a1 : Int) (r1 : Int) (r2 : Bool) (w : World) (h : scaled_Sub.f a0 a1 = some (r1, r2)) :
  Calls Try.prog 54 #[.int .i64 a0, .int .i64 a1] w fun e w' => e = .returned (.tuple #[.int .i64 r1, .bool r2]) ∧ Drawn0 w w' := by
 have H : ((scaled_Fits.f a0).bind fun t155 => (if t155 = true then ((scaled_Fits.f a1).bind fun t156 => ((scaled_fitted.f (wrap64 (a0 - a1)) t156).bind fun bt157 => (some (bt157.1, bt157.2)))) else ((scaled_fitted.f (wrap64 (a0 - a1)) false).bind fun bt159 => (some (bt159.1, bt159.2))))) = some (r1, r2) := h
 clear h
 replace H := Option.bind_eq_some_iff.mp H
 obtain ⟨t155, A30, H⟩ := H
 replace H : (if t155 = true then ((scaled_Fits.f a1).bind fun t156 => ((scaled_fitted.f (wrap64 (a0 - a1)) t156).bind fun bt157 => (some (bt157.1, bt157.2)))) else ((scaled_fitted.f (wrap64 (a0 - a1)) false).bind fun bt159 => (some (bt159.1, bt159.2)))) = some (r1, r2) := H
 have A3 := a_ A30
 clear A30
 by_cases c4 : t155 = true
 ·subst c4
  have H1 : ((scaled_Fits.f a1).bind fun t156 => ((scaled_fitted.f (wrap64 (a0 - a1)) t156).bind fun bt157 => (some (bt157.1, bt157.2)))) = some (r1, r2) := by rw [if_pos rfl] at H; exact H
  clear H
  have H := H1
  clear H1
  replace H := Option.bind_eq_some_iff.mp H
  obtain ⟨t156, A50, H⟩ := H
  replace H : ((scaled_fitted.f (wrap64 (a0 - a1)) t156).bind fun bt157 => (some (bt157.1, bt157.2))) = some (r1, r2) := H
  have A5 := a_ A50
  clear A50
  replace H := Option.bind_eq_some_iff.mp H
  obtain ⟨⟨t157, t158⟩, A60, H⟩ := H
  replace H : (some (t157, t158)) = some (r1, r2) := H
  have A6 := a_ A60
  clear A60
  simp only [Option.some.injEq, Prod.mk.injEq] at H
  obtain ⟨rfl, rfl⟩ := H
  go_enter Try.func54, Try.ntmps54
  go_wp2_with (first | ((with_reducible refine gate_callee (f := 41) rfl ?_); refine gl_ (some 10) Try.func41 (by kernel_rfl) #[.int .i64 a0] ?_; (with_reducible refine (scaled_Fits.calls a0 true _ A3.out).mono ?_); rintro e w' ⟨rfl, ⟨nd, rfl⟩⟩; refine ⟨_, rfl, ?_⟩) | (go_at_call 41; (with_reducible refine (scaled_Fits.calls a1 t156 _ A5.out).mono ?_); rintro e w' ⟨rfl, ⟨nd, rfl⟩⟩) | ((with_reducible refine gate_callee (f := 57) rfl ?_); refine gl_ (some 15) Try.func57 (by kernel_rfl) #[.int .i64 (wrap64 (a0 - a1)), .bool t156] ?_; (with_reducible refine (scaled_fitted.calls (wrap64 (a0 - a1)) t156 t157 t158 _ A6.out).mono ?_); rintro e w' ⟨rfl, ⟨nd, rfl⟩⟩; refine ⟨_, rfl, ?_⟩))
  go_ret2
  exact ⟨by first | rfl | (simp; done) | (simp [*]; done), by repeat (first | exact Drawn0.refl _ | apply Drawn0.step)⟩
 ·replace c4 := Bool.eq_false_iff.mpr c4
  subst c4
  have H1 : ((scaled_fitted.f (wrap64 (a0 - a1)) false).bind fun bt159 => (some (bt159.1, bt159.2))) = some (r1, r2) := by rw [if_neg (show ¬ (false = true) by decide)] at H; exact H
  clear H
  have H := H1
  clear H1
  replace H := Option.bind_eq_some_iff.mp H
  obtain ⟨⟨t159, t160⟩, A70, H⟩ := H
  replace H : (some (t159, t160)) = some (r1, r2) := H
  have A7 := a_ A70
  clear A70
  simp only [Option.some.injEq, Prod.mk.injEq] at H
  obtain ⟨rfl, rfl⟩ := H
  go_enter Try.func54, Try.ntmps54
  go_wp2_with (first | ((with_reducible refine gate_callee (f := 41) rfl ?_); refine gl_ (some 10) Try.func41 (by kernel_rfl) #[.int .i64 a0] ?_; (with_reducible refine (scaled_Fits.calls a0 false _ A3.out).mono ?_); rintro e w' ⟨rfl, ⟨nd, rfl⟩⟩; refine ⟨_, rfl, ?_⟩) | ((with_reducible refine gate_callee (f := 57) rfl ?_); refine gl_ (some 15) Try.func57 (by kernel_rfl) #[.int .i64 (wrap64 (a0 - a1)), .bool false] ?_; (with_reducible refine (scaled_fitted.calls (wrap64 (a0 - a1)) false t159 t160 _ A7.out).mono ?_); rintro e w' ⟨rfl, ⟨nd, rfl⟩⟩; refine ⟨_, rfl, ?_⟩))
  go_ret2
  exact ⟨by first | rfl | (simp; done) | (simp [*]; done), by repeat (first | exact Drawn0.refl _ | apply Drawn0.step)⟩

/-! ### glue_Badness: function 55 -/
def glue_Badness.j0 : Nat → Int → Int → Bool → Option (Int)
 | 0, _, _, _ => none
 | k + 1, x0, x1, x6 => if x6 = true then (some (-1)) else (if x0 = 0 then (some 0) else (if x1 = 0 then (some 10000) else (if x0 ≤ 7230584 then (if (wrap64 (Int.tdiv (wrap64 (x0 * 297)) x1)) > 1290 then (some 10000) else (some (wrap64 (Int.tdiv (wrap64 ((wrap64 ((wrap64 ((wrap64 (Int.tdiv (wrap64 (x0 * 297)) x1)) * (wrap64 (Int.tdiv (wrap64 (x0 * 297)) x1)))) * (wrap64 (Int.tdiv (wrap64 (x0 * 297)) x1)))) + 131072)) 262144)))) else (if x1 ≥ 1663497 then (if (wrap64 (Int.tdiv x1 297)) = 0 then (none) else (if (wrap64 (Int.tdiv x0 (wrap64 (Int.tdiv x1 297)))) > 1290 then (some 10000) else (some (wrap64 (Int.tdiv (wrap64 ((wrap64 ((wrap64 ((wrap64 (Int.tdiv x0 (wrap64 (Int.tdiv x1 297)))) * (wrap64 (Int.tdiv x0 (wrap64 (Int.tdiv x1 297)))))) * (wrap64 (Int.tdiv x0 (wrap64 (Int.tdiv x1 297)))))) + 131072)) 262144))))) else (if x0 > 1290 then (some 10000) else (some (wrap64 (Int.tdiv (wrap64 ((wrap64 ((wrap64 (x0 * x0)) * x0)) + 131072)) 262144))))))))
def glue_Badness.f (k : Nat) (a0 : Int) (a1 : Int) : Option (Int) := (glue_amount.f a0).bind fun t161 => (if t161 = true then ((glue_amount.f a1).bind fun t162 => (glue_Badness.j0 k a0 a1 (!t162))) else (glue_Badness.j0 k a0 a1 true))
theorem glue_Badness.mono_l : ∀ k, (∀ y0 y1 y2, LeO (glue_Badness.j0 k y0 y1 y2) (glue_Badness.j0 (k + 1) y0 y1 y2))
 | 0 => fun _ _ _ r h => by simp [glue_Badness.j0] at h
 | k + 1 => by
  have ih0 := glue_Badness.mono_l k
  ·intro y0 y1 y2
   unfold glue_Badness.j0
   repeat' first | (with_reducible first | exact ih0 _ _ _ | exact LeO.refl _ | exact LeO.none _ | refine LeO.ite ?_ ?_ | refine LeO.bind ?_ (fun _ => ?_)) | exact LeO.none _ | refine LeO.ite ?_ ?_ | refine LeO.bind ?_ (fun _ => ?_)
theorem glue_Badness.mono : ∀ a0 a1 k, LeO (glue_Badness.f k a0 a1) (glue_Badness.f (k + 1) a0 a1) := by
 intro a0 a1 k
 have ih0 := glue_Badness.mono_l k
 unfold glue_Badness.f
 repeat' first
   | (with_reducible exact ih0 _ _ _)
   | (with_reducible exact LeO.refl _)
   | (with_reducible exact LeO.none _)
   | (with_reducible refine LeO.ite ?_ ?_)
   | (with_reducible refine LeO.bind ?_ (fun _ => ?_))
   | exact ih0 _ _ _
   | exact LeO.none _
   | refine LeO.ite ?_ ?_
   | refine LeO.bind ?_ (fun _ => ?_)
set_option maxHeartbeats 8000000 in
set_option maxRecDepth 100000 in
theorem glue_Badness.calls (k : Nat) (a0 : Int) (a1 : Int) (r : Int) (w : World) (h : glue_Badness.f k a0 a1 = some r) :
  Calls Try.prog 55 #[.int .i64 a0, .int .i64 a1] w fun e w' => e = .returned (.int .i64 r) ∧ Drawn0 w w' := by
 have H : ((glue_amount.f a0).bind fun t161 => (if t161 = true then ((glue_amount.f a1).bind fun t162 => (glue_Badness.j0 k a0 a1 (!t162))) else (glue_Badness.j0 k a0 a1 true))) = some r := h
 clear h
 have HC3 := a_ H
 clear H
 go_enter Try.func55, Try.ntmps55
 go_upto_region 1 with (fail)
 go_cut [6] (fun v6 wc => ∃ (kq : Nat) (x6_2 : Bool), v6 = .bool x6_2 ∧ Aside0 (glue_Badness.j0 kq a0 a1 x6_2 = some r) ∧ Aside0 (kq ≤ k) ∧ Drawn0 w wc)
 case first =>
  have H := HC3.out
  clear HC3
  replace H := Option.bind_eq_some_iff.mp H
  obtain ⟨t161, A40, H⟩ := H
  replace H : (if t161 = true then ((glue_amount.f a1).bind fun t162 => (glue_Badness.j0 k a0 a1 (!t162))) else (glue_Badness.j0 k a0 a1 true)) = some r := H
  have A4 := a_ A40
  clear A40
  by_cases c5 : t161 = true
  ·subst c5
   have H1 : ((glue_amount.f a1).bind fun t162 => (glue_Badness.j0 k a0 a1 (!t162))) = some r := by rw [if_pos rfl] at H; exact H
   clear H
   have H := H1
   clear H1
   replace H := Option.bind_eq_some_iff.mp H
   obtain ⟨t162, A60, H⟩ := H
   replace H : (glue_Badness.j0 k a0 a1 (!t162)) = some r := H
   have A6 := a_ A60
   clear A60
   have H' := a_ H
   clear H
   go_wp2_with (first | ((with_reducible refine gate_callee (f := 42) rfl ?_); refine gl_ (some 8) Try.func42 (by kernel_rfl) #[.int .i64 a0] ?_; (with_reducible refine (glue_amount.calls a0 true _ A4.out).mono ?_); rintro e w' ⟨rfl, ⟨nd, rfl⟩⟩; refine ⟨_, rfl, ?_⟩) | (go_at_call 42; (with_reducible refine (glue_amount.calls a1 t162 _ A6.out).mono ?_); rintro e w' ⟨rfl, ⟨nd, rfl⟩⟩))
   go_meet
   case rel => exact ⟨_, (!t162), (by first | rfl | (simp; done) | (simp [*]; done)), H', ⟨by first | omega | exact Nat.le_refl _⟩, by repeat (first | exact Drawn0.refl _ | apply Drawn0.step)⟩
  ·replace c5 := Bool.eq_false_iff.mpr c5
   subst c5
   have H1 : (glue_Badness.j0 k a0 a1 true) = some r := by rw [if_neg (show ¬ (false = true) by decide)] at H; exact H
   clear H
   have H := H1
   clear H1
   have H' := a_ H
   clear H
   go_wp2_with (first | ((with_reducible refine gate_callee (f := 42) rfl ?_); refine gl_ (some 8) Try.func42 (by kernel_rfl) #[.int .i64 a0] ?_; (with_reducible refine (glue_amount.calls a0 false _ A4.out).mono ?_); rintro e w' ⟨rfl, ⟨nd, rfl⟩⟩; refine ⟨_, rfl, ?_⟩))
   go_meet
   case rel => exact ⟨_, (true), (by first | rfl | (simp; done) | (simp [*]; done)), H', ⟨by first | omega | exact Nat.le_refl _⟩, by repeat (first | exact Drawn0.refl _ | apply Drawn0.step)⟩
 case rest =>
  clear HC3
  try clear p2
  try clear c4
  try clear c5
  obtain ⟨kq, x6_2, rfl, HA, HJ2, ⟨mc2, rfl⟩⟩ := hcut
  cases kq with
  | zero => exact absurd HA.out (by simp [glue_Badness.j0])
  | succ kj2 =>
   have H := HA.out
   clear HA
   simp only [glue_Badness.j0] at H
   by_cases c7 : x6_2 = true
   ·subst c7
    have H1 : (some (-1)) = some r := by rw [if_pos rfl] at H; exact H
    clear H
    have H := H1
    clear H1
    obtain rfl := Option.some.inj H
    go_wp2
    go_ret
    exact ⟨by first | rfl | (simp; done) | (simp [*]; done), by repeat (first | exact Drawn0.refl _ | apply Drawn0.step)⟩
   ·replace c7 := Bool.eq_false_iff.mpr c7
    subst c7
    have H1 : (if a0 = 0 then (some 0) else (if a1 = 0 then (some 10000) else (if a0 ≤ 7230584 then (if (wrap64 (Int.tdiv (wrap64 (a0 * 297)) a1)) > 1290 then (some 10000) else (some (wrap64 (Int.tdiv (wrap64 ((wrap64 ((wrap64 ((wrap64 (Int.tdiv (wrap64 (a0 * 297)) a1)) * (wrap64 (Int.tdiv (wrap64 (a0 * 297)) a1)))) * (wrap64 (Int.tdiv (wrap64 (a0 * 297)) a1)))) + 131072)) 262144)))) else (if a1 ≥ 1663497 then (if (wrap64 (Int.tdiv a1 297)) = 0 then (none) else (if (wrap64 (Int.tdiv a0 (wrap64 (Int.tdiv a1 297)))) > 1290 then (some 10000) else (some (wrap64 (Int.tdiv (wrap64 ((wrap64 ((wrap64 ((wrap64 (Int.tdiv a0 (wrap64 (Int.tdiv a1 297)))) * (wrap64 (Int.tdiv a0 (wrap64 (Int.tdiv a1 297)))))) * (wrap64 (Int.tdiv a0 (wrap64 (Int.tdiv a1 297)))))) + 131072)) 262144))))) else (if a0 > 1290 then (some 10000) else (some (wrap64 (Int.tdiv (wrap64 ((wrap64 ((wrap64 (a0 * a0)) * a0)) + 131072)) 262144)))))))) = some r := by rw [if_neg (show ¬ (false = true) by decide)] at H; exact H
    clear H
    have H := H1
    clear H1
    by_cases c8 : a0 = 0
    ·rw [if_pos c8] at H
     have c8b0 : (a0 == 0) = true := beq_iff_eq.mpr c8
     have c8b1 : (a0 != 0) = false := bne_eq_false_iff_eq.mpr c8
     clear c8
     obtain rfl := Option.some.inj H
     go_wp2
     go_ret
     exact ⟨by first | rfl | (simp; done) | (simp [*]; done), by repeat (first | exact Drawn0.refl _ | apply Drawn0.step)⟩
    ·rw [if_neg c8] at H
     have c8b0 : (a0 == 0) = false := beq_eq_false_iff_ne.mpr c8
     have c8b1 : (a0 != 0) = true := bne_iff_ne.mpr c8
     by_cases c9 : a1 = 0
     ·rw [if_pos c9] at H
      have c9b0 : (a1 == 0) = true := beq_iff_eq.mpr c9
      have c9b1 : (a1 != 0) = false := bne_eq_false_iff_eq.mpr c9
      clear c9
      obtain rfl := Option.some.inj H
      go_wp2
      go_ret
      exact ⟨by first | rfl | (simp; done) | (simp [*]; done), by repeat (first | exact Drawn0.refl _ | apply Drawn0.step)⟩
     ·rw [if_neg c9] at H
      have c9b0 : (a1 == 0) = false := beq_eq_false_iff_ne.mpr c9
      have c9b1 : (a1 != 0) = true := bne_iff_ne.mpr c9
      by_cases c10 : a0 ≤ 7230584
      ·rw [if_pos c10] at H
       have c10b0 : decide (a0 ≤ 7230584) = true := decide_eq_true c10
       clear c10
       by_cases c11 : (wrap64 (Int.tdiv (wrap64 (a0 * 297)) a1)) > 1290
       ·rw [if_pos c11] at H
        have c11b0 : decide (1290 < (wrap64 (Int.tdiv (wrap64 (a0 * 297)) a1))) = true := decide_eq_true c11
        clear c11
        obtain rfl := Option.some.inj H
        go_wp2
        go_ret
        exact ⟨by first | rfl | (simp; done) | (simp [*]; done), by repeat (first | exact Drawn0.refl _ | apply Drawn0.step)⟩
       ·rw [if_neg c11] at H
        have c11b0 : decide (1290 < (wrap64 (Int.tdiv (wrap64 (a0 * 297)) a1))) = false := decide_eq_false c11
        clear c11
        obtain rfl := Option.some.inj H
        go_wp2
        go_ret
        exact ⟨by first | rfl | (simp; done) | (simp [*]; done), by repeat (first | exact Drawn0.refl _ | apply Drawn0.step)⟩
      ·rw [if_neg c10] at H
       have c10b0 : decide (a0 ≤ 7230584) = false := decide_eq_false c10
       clear c10
       by_cases c12 : a1 ≥ 1663497
       ·rw [if_pos c12] at H
        have c12b0 : decide (1663497 ≤ a1) = true := decide_eq_true c12
        clear c12
        by_cases c13 : (wrap64 (Int.tdiv a1 297)) = 0
        ·rw [if_pos c13] at H
         exact absurd H (by simp)
        ·rw [if_neg c13] at H
         have c13b0 : ((wrap64 (Int.tdiv a1 297)) == 0) = false := beq_eq_false_iff_ne.mpr c13
         have c13b1 : ((wrap64 (Int.tdiv a1 297)) != 0) = true := bne_iff_ne.mpr c13
         by_cases c14 : (wrap64 (Int.tdiv a0 (wrap64 (Int.tdiv a1 297)))) > 1290
         ·rw [if_pos c14] at H
          have c14b0 : decide (1290 < (wrap64 (Int.tdiv a0 (wrap64 (Int.tdiv a1 297))))) = true := decide_eq_true c14
          clear c14
          obtain rfl := Option.some.inj H
          go_wp2
          go_ret
          exact ⟨by first | rfl | (simp; done) | (simp [*]; done), by repeat (first | exact Drawn0.refl _ | apply Drawn0.step)⟩
         ·rw [if_neg c14] at H
          have c14b0 : decide (1290 < (wrap64 (Int.tdiv a0 (wrap64 (Int.tdiv a1 297))))) = false := decide_eq_false c14
          clear c14
          obtain rfl := Option.some.inj H
          go_wp2
          go_ret
          exact ⟨by first | rfl | (simp; done) | (simp [*]; done), by repeat (first | exact Drawn0.refl _ | apply Drawn0.step)⟩
       ·rw [if_neg c12] at H
        have c12b0 : decide (1663497 ≤ a1) = false := decide_eq_false c12
        clear c12
        by_cases c15 : a0 > 1290
        ·rw [if_pos c15] at H
         have c15b0 : decide (1290 < a0) = true := decide_eq_true c15
         clear c15
         obtain rfl := Option.some.inj H
         go_wp2
         go_ret
         exact ⟨by first | rfl | (simp; done) | (simp [*]; done), by repeat (first | exact Drawn0.refl _ | apply Drawn0.step)⟩
        ·rw [if_neg c15] at H
         have c15b0 : decide (1290 < a0) = false := decide_eq_false c15
         clear c15
         obtain rfl := Option.some.inj H
         go_wp2
         go_ret
         exact ⟨by first | rfl | (simp; done) | (simp [*]; done), by repeat (first | exact Drawn0.refl _ | apply Drawn0.step)⟩

end Go.Proofs.Ytpfnfofaajpdmaa.PWi

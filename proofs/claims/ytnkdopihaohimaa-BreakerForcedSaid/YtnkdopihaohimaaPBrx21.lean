/- Written by a program of this session: functions of the given program as plain Lean functions, the walks that show it, and the row of each law, for every input that its statement speaks of. -/
import Derived.Test.YtnkdopihaohimaaPBrx0
import Derived.Test.YtnkdopihaohimaaPBrx8
import Derived.Test.YtnkdopihaohimaaPBrx9
import Derived.Test.YtnkdopihaohimaaPBrx12
namespace Go.Proofs.Ytnkdopihaohimaa.PBr
open Go.RowKit Go.Proofs.YtnkdopihaohimaaW.PrintWords Go.Proofs.YtnkdopihaohimaaW.PrintLast Go.Proofs.YtnkdopihaohimaaW.PrintMore
attribute [local go_sem] max2_int min2_int max_two min_two max_three min_three max_four min_four   -- for this text's walks alone
set_option linter.unusedVariables false
set_option linter.unusedSimpArgs false

/-! ### variorumlaw11_BreakerForced: function 6 -/
mutual
def variorumlaw11_BreakerForced.j0 : Nat → List (S47) → Int → Bool → Option (Bool)
 | 0, _, _, _ => none
 | k + 1, x0, x1, x22 => if x22 = true then ((variorumlaw11_fixed.f k).bind fun t251 => (some t251)) else ((breaker_Best.f k x0 x1 200).bind fun bt252 => ((breaker_Best.f k x0 x1 10000).bind fun bt257 => ((breaker_Break.f k x0 x1).bind fun bt262 => (if bt252.2.2 = true then (if bt257.2.2 = true then (if bt257.2.1 > bt252.2.1 then (variorumlaw11_BreakerForced.j1 k x0 bt262.1 true bt262.2.2.1 bt262.2.2.2) else ((variorumref09_May.f k x0).bind fun t269 => (if t269 = true then (if ((bt262.2.2.1 == 0) != true) = true then (variorumlaw11_BreakerForced.j1 k x0 bt262.1 true bt262.2.2.1 bt262.2.2.2) else (if (bt262.2.1 != false) = true then (variorumlaw11_BreakerForced.j1 k x0 bt262.1 true bt262.2.2.1 bt262.2.2.2) else ((variorumref11_Ints.f k bt252.1 bt262.1).bind fun t270 => (variorumlaw11_BreakerForced.j1 k x0 bt262.1 (!t270) bt262.2.2.1 bt262.2.2.2)))) else (if ((bt262.2.2.1 == 0) != false) = true then (variorumlaw11_BreakerForced.j1 k x0 bt262.1 true bt262.2.2.1 bt262.2.2.2) else (if (bt262.2.1 != false) = true then (variorumlaw11_BreakerForced.j1 k x0 bt262.1 true bt262.2.2.1 bt262.2.2.2) else ((variorumref11_Ints.f k bt252.1 bt262.1).bind fun t271 => (variorumlaw11_BreakerForced.j1 k x0 bt262.1 (!t271) bt262.2.2.1 bt262.2.2.2))))))) else (variorumlaw11_BreakerForced.j1 k x0 bt262.1 true bt262.2.2.1 bt262.2.2.2)) else ((variorumref09_May.f k x0).bind fun t272 => (if t272 = true then (if ((bt262.2.2.1 == 0) != bt257.2.2) = true then (variorumlaw11_BreakerForced.j1 k x0 bt262.1 true bt262.2.2.1 bt262.2.2.2) else (if (bt262.2.1 != bt257.2.2) = true then (variorumlaw11_BreakerForced.j1 k x0 bt262.1 true bt262.2.2.1 bt262.2.2.2) else (variorumlaw11_BreakerForced.j1 k x0 bt262.1 false bt262.2.2.1 bt262.2.2.2))) else (if ((bt262.2.2.1 == 0) != false) = true then (variorumlaw11_BreakerForced.j1 k x0 bt262.1 true bt262.2.2.1 bt262.2.2.2) else (if (bt262.2.1 != bt257.2.2) = true then (variorumlaw11_BreakerForced.j1 k x0 bt262.1 true bt262.2.2.1 bt262.2.2.2) else (variorumlaw11_BreakerForced.j1 k x0 bt262.1 false bt262.2.2.1 bt262.2.2.2)))))))))
def variorumlaw11_BreakerForced.j1 : Nat → List (S47) → List Int → Bool → Int → Int → Option (Bool)
 | 0, _, _, _, _, _ => none
 | k + 1, x0, x11, x86, x269000, x269001 => if x86 = true then (none) else (variorumlaw11_BreakerForced.l0 k x0 x11 0 0 x269000 x269001)
def variorumlaw11_BreakerForced.l0 : Nat → List (S47) → List Int → Int → Int → Int → Int → Option (Bool)
 | 0, _, _, _, _, _, _ => none
 | k + 1, x0, x11, x14, x15, x269000, x269001 => if x15 < (x0.length : Int) then (variorumlaw11_BreakerForced.j3 k x0 x11 x14 x15 (x269000 == 0) x269000 x269001) else (variorumlaw11_BreakerForced.j3 k x0 x11 x14 x15 false x269000 x269001)
def variorumlaw11_BreakerForced.j3 : Nat → List (S47) → List Int → Int → Int → Bool → Int → Int → Option (Bool)
 | 0, _, _, _, _, _, _, _ => none
 | k + 1, x0, x11, x14, x15, x95, x269000, x269001 => if x95 = true then (variorumlaw11_BreakerForced.l1 k x0 x11 x14 x15 x269000 x269001) else (some true)
def variorumlaw11_BreakerForced.l1 : Nat → List (S47) → List Int → Int → Int → Int → Int → Option (Bool)
 | 0, _, _, _, _, _, _ => none
 | k + 1, x0, x11, x14, x15, x269000, x269001 => if x14 < (x11.length : Int) then (if 0 ≤ x14 then (if (rd x11 x14) < x15 then (variorumlaw11_BreakerForced.l1 k x0 x11 (wrap64 (x14 + 1)) x15 x269000 x269001) else (if 0 ≤ x15 then (if x15 < (x0.length : Int) then ((variorumref10_Forced.f ((rd_T47 x0 x15).f0) ((rd_T47 x0 x15).f1.f0) ((rd_T47 x0 x15).f1.f1) ((rd_T47 x0 x15).f1.f2) ((rd_T47 x0 x15).f1.f3) ((rd_T47 x0 x15).f2) ((rd_T47 x0 x15).f3) ((rd_T47 x0 x15).f4) ((rd_T47 x0 x15).f5)).bind fun t275 => (if t275 = true then (if x14 ≥ (x11.length : Int) then (none) else (if (rd x11 x14) = x15 then (variorumlaw11_BreakerForced.l0 k x0 x11 x14 (wrap64 (x15 + 1)) x269000 x269001) else (none))) else (variorumlaw11_BreakerForced.l0 k x0 x11 x14 (wrap64 (x15 + 1)) x269000 x269001))) else (none)) else (none))) else (none)) else (if 0 ≤ x15 then (if x15 < (x0.length : Int) then ((variorumref10_Forced.f ((rd_T47 x0 x15).f0) ((rd_T47 x0 x15).f1.f0) ((rd_T47 x0 x15).f1.f1) ((rd_T47 x0 x15).f1.f2) ((rd_T47 x0 x15).f1.f3) ((rd_T47 x0 x15).f2) ((rd_T47 x0 x15).f3) ((rd_T47 x0 x15).f4) ((rd_T47 x0 x15).f5)).bind fun t278 => (if t278 = true then (if x14 ≥ (x11.length : Int) then (none) else (if 0 ≤ x14 then (none) else (none))) else (variorumlaw11_BreakerForced.l0 k x0 x11 x14 (wrap64 (x15 + 1)) x269000 x269001))) else (none)) else (none))
end
def variorumlaw11_BreakerForced.f (k : Nat) (l0 : List (S47)) (a1 : Int) : Option (Bool) := (variorumlaw11_fixed.f k).bind fun t250 => (if t250 = true then (variorumlaw11_BreakerForced.j0 k l0 a1 (decide ((l0.length : Int) > 200))) else (variorumlaw11_BreakerForced.j0 k l0 a1 true))
theorem variorumlaw11_BreakerForced.mono_l : ∀ k, (∀ y0 y1 y2, LeO (variorumlaw11_BreakerForced.j0 k y0 y1 y2) (variorumlaw11_BreakerForced.j0 (k + 1) y0 y1 y2)) ∧ (∀ y0 y1 y2 y3 y4, LeO (variorumlaw11_BreakerForced.j1 k y0 y1 y2 y3 y4) (variorumlaw11_BreakerForced.j1 (k + 1) y0 y1 y2 y3 y4)) ∧ (∀ y0 y1 y2 y3 y4 y5, LeO (variorumlaw11_BreakerForced.l0 k y0 y1 y2 y3 y4 y5) (variorumlaw11_BreakerForced.l0 (k + 1) y0 y1 y2 y3 y4 y5)) ∧ (∀ y0 y1 y2 y3 y4 y5 y6, LeO (variorumlaw11_BreakerForced.j3 k y0 y1 y2 y3 y4 y5 y6) (variorumlaw11_BreakerForced.j3 (k + 1) y0 y1 y2 y3 y4 y5 y6)) ∧ (∀ y0 y1 y2 y3 y4 y5, LeO (variorumlaw11_BreakerForced.l1 k y0 y1 y2 y3 y4 y5) (variorumlaw11_BreakerForced.l1 (k + 1) y0 y1 y2 y3 y4 y5))
 | 0 => ⟨fun _ _ _ r h => by simp [variorumlaw11_BreakerForced.j0] at h, fun _ _ _ _ _ r h => by simp [variorumlaw11_BreakerForced.j1] at h, fun _ _ _ _ _ _ r h => by simp [variorumlaw11_BreakerForced.l0] at h, fun _ _ _ _ _ _ _ r h => by simp [variorumlaw11_BreakerForced.j3] at h, fun _ _ _ _ _ _ r h => by simp [variorumlaw11_BreakerForced.l1] at h⟩
 | k + 1 => by
  obtain ⟨ih0, ih1, ih2, ih3, ih4⟩ := variorumlaw11_BreakerForced.mono_l k
  refine ⟨?_, ?_, ?_, ?_, ?_⟩
  ·intro y0 y1 y2
   unfold variorumlaw11_BreakerForced.j0
   repeat' first | (with_reducible first | exact ih0 _ _ _ | exact ih1 _ _ _ _ _ | exact ih2 _ _ _ _ _ _ | exact ih3 _ _ _ _ _ _ _ | exact ih4 _ _ _ _ _ _ | exact breaker_Best.mono _ _ _ _ | exact breaker_Break.mono _ _ _ | exact variorumlaw11_fixed.mono _ | exact variorumref09_May.mono _ _ | exact variorumref11_Ints.mono _ _ _ | exact LeO.refl _ | exact LeO.none _ | refine LeO.ite ?_ ?_ | refine LeO.bind ?_ (fun _ => ?_)) | exact LeO.none _ | refine LeO.ite ?_ ?_ | refine LeO.bind ?_ (fun _ => ?_)
  ·intro y0 y1 y2 y3 y4
   unfold variorumlaw11_BreakerForced.j1
   repeat' first | (with_reducible first | exact ih0 _ _ _ | exact ih1 _ _ _ _ _ | exact ih2 _ _ _ _ _ _ | exact ih3 _ _ _ _ _ _ _ | exact ih4 _ _ _ _ _ _ | exact breaker_Best.mono _ _ _ _ | exact breaker_Break.mono _ _ _ | exact variorumlaw11_fixed.mono _ | exact variorumref09_May.mono _ _ | exact variorumref11_Ints.mono _ _ _ | exact LeO.refl _ | exact LeO.none _ | refine LeO.ite ?_ ?_ | refine LeO.bind ?_ (fun _ => ?_)) | exact LeO.none _ | refine LeO.ite ?_ ?_ | refine LeO.bind ?_ (fun _ => ?_)
  ·intro y0 y1 y2 y3 y4 y5
   unfold variorumlaw11_BreakerForced.l0
   repeat' first | (with_reducible first | exact ih0 _ _ _ | exact ih1 _ _ _ _ _ | exact ih2 _ _ _ _ _ _ | exact ih3 _ _ _ _ _ _ _ | exact ih4 _ _ _ _ _ _ | exact breaker_Best.mono _ _ _ _ | exact breaker_Break.mono _ _ _ | exact variorumlaw11_fixed.mono _ | exact variorumref09_May.mono _ _ | exact variorumref11_Ints.mono _ _ _ | exact LeO.refl _ | exact LeO.none _ | refine LeO.ite ?_ ?_ | refine LeO.bind ?_ (fun _ => ?_)) | exact LeO.none _ | refine LeO.ite ?_ ?_ | refine LeO.bind ?_ (fun _ => ?_)
  ·intro y0 y1 y2 y3 y4 y5 y6
   unfold variorumlaw11_BreakerForced.j3
   repeat' first | (with_reducible first | exact ih0 _ _ _ | exact ih1 _ _ _ _ _ | exact ih2 _ _ _ _ _ _ | exact ih3 _ _ _ _ _ _ _ | exact ih4 _ _ _ _ _ _ | exact breaker_Best.mono _ _ _ _ | exact breaker_Break.mono _ _ _ | exact variorumlaw11_fixed.mono _ | exact variorumref09_May.mono _ _ | exact variorumref11_Ints.mono _ _ _ | exact LeO.refl _ | exact LeO.none _ | refine LeO.ite ?_ ?_ | refine LeO.bind ?_ (fun _ => ?_)) | exact LeO.none _ | refine LeO.ite ?_ ?_ | refine LeO.bind ?_ (fun _ => ?_)
  ·intro y0 y1 y2 y3 y4 y5
   unfold variorumlaw11_BreakerForced.l1
   repeat' first | (with_reducible first | exact ih0 _ _ _ | exact ih1 _ _ _ _ _ | exact ih2 _ _ _ _ _ _ | exact ih3 _ _ _ _ _ _ _ | exact ih4 _ _ _ _ _ _ | exact breaker_Best.mono _ _ _ _ | exact breaker_Break.mono _ _ _ | exact variorumlaw11_fixed.mono _ | exact variorumref09_May.mono _ _ | exact variorumref11_Ints.mono _ _ _ | exact LeO.refl _ | exact LeO.none _ | refine LeO.ite ?_ ?_ | refine LeO.bind ?_ (fun _ => ?_)) | exact LeO.none _ | refine LeO.ite ?_ ?_ | refine LeO.bind ?_ (fun _ => ?_)
theorem variorumlaw11_BreakerForced.mono : ∀ a0 a1 k, LeO (variorumlaw11_BreakerForced.f k a0 a1) (variorumlaw11_BreakerForced.f (k + 1) a0 a1) := by
 intro a0 a1 k
 obtain ⟨ih0, ih1, ih2, ih3, ih4⟩ := variorumlaw11_BreakerForced.mono_l k
 unfold variorumlaw11_BreakerForced.f
 repeat' first
   | (with_reducible exact ih0 _ _ _)
   | (with_reducible exact ih1 _ _ _ _ _)
   | (with_reducible exact ih2 _ _ _ _ _ _)
   | (with_reducible exact ih3 _ _ _ _ _ _ _)
   | (with_reducible exact ih4 _ _ _ _ _ _)
   | (with_reducible exact breaker_Best.mono _ _ _ _)
   | (with_reducible exact breaker_Break.mono _ _ _)
   | (with_reducible exact variorumlaw11_fixed.mono _)
   | (with_reducible exact variorumref09_May.mono _ _)
   | (with_reducible exact variorumref11_Ints.mono _ _ _)
   | (with_reducible exact LeO.refl _)
   | (with_reducible exact LeO.none _)
   | (with_reducible refine LeO.ite ?_ ?_)
   | (with_reducible refine LeO.bind ?_ (fun _ => ?_))
   | exact ih0 _ _ _
   | exact ih1 _ _ _ _ _
   | exact ih2 _ _ _ _ _ _
   | exact ih3 _ _ _ _ _ _ _
   | exact ih4 _ _ _ _ _ _
   | exact breaker_Best.mono _ _ _ _
   | exact breaker_Break.mono _ _ _
   | exact variorumlaw11_fixed.mono _
   | exact variorumref09_May.mono _ _
   | exact variorumref11_Ints.mono _ _ _
   | exact LeO.none _
   | refine LeO.ite ?_ ?_
   | refine LeO.bind ?_ (fun _ => ?_)
def variorumlaw11_BreakerForced.T6 : Bool × List (List Nat × List Nat) := (true, [([], []), ([0], [0]), ([1], [1]), ([2, 1], [1, 2]), ([3, 1, 1], [1, 3]), ([4], [4]), ([4], [4]), ([5, 6, 4], [4, 5, 6]), ([4, 7, 1], [1, 4, 7]), ([1, 8], [1, 8]), ([9, 4], [9]), ([10], [10]), ([11, 10], [10, 11]), ([12, 10], [10, 12]), ([10], [10]), ([14, 10, 10], [10, 14]), ([15, 15, 10], [10, 15]), ([16], [16]), ([17, 16, 16], [16, 17]), ([18], [18]), ([18, 19, 16], [16, 18, 19]), ([16, 20, 10], [10, 16, 20]), ([13, 21, 10], [10, 13, 21]), ([10, 22], [10, 22]), ([23, 18], [23]), ([24], [24]), ([24], [24]), ([26, 24], [24, 26]), ([27, 24, 24], [24, 27]), ([28], [28]), ([28, 29, 24], [24, 28, 29]), ([25, 30, 24], [24, 25, 30]), ([24, 31], [24, 31]), ([32, 28], [32]), ([33], [33]), ([34, 33, 33], [33, 34]), ([35], [35]), ([35], [35]), ([36, 37, 35, 35], [35, 36, 37]), ([38, 35], [35, 38]), ([35, 39, 33], [33, 35, 39]), ([33, 40], [33, 40])])
def variorumlaw11_BreakerForced.B6 : List Nat := [0, 1, 3, 7, 15, 31, 31, 127, 255, 511, 1023, 2047, 4095, 8191, 2047, 18431, 51199, 116735, 247807, 509951, 1034239, 2082815, 4194303, 8388607, 16777215, 33554431, 33554431, 100663295, 234881023, 503316479, 1040187391, 2147483647, 4294967295, 8589934591, 17179869183, 34359738367, 68719476735, 68719476735, 274877906943, 549755813887, 1099511627775, 2199023255551]
theorem variorumlaw11_BreakerForced.tab6 : rtab .any (opsOf Try.f6 6) = variorumlaw11_BreakerForced.T6 := by kernel_rfl
theorem variorumlaw11_BreakerForced.bits6 : waitsOk variorumlaw11_BreakerForced.T6.2 variorumlaw11_BreakerForced.B6 = true := by kernel_rfl
theorem variorumlaw11_BreakerForced.j1.none_ (k : Nat) (x0 : List (S47)) (x11 : List Int) (a b : Int) : variorumlaw11_BreakerForced.j1 k x0 x11 true a b = none := by cases k <;> simp [variorumlaw11_BreakerForced.j1]
set_option maxHeartbeats 8000000 in
set_option maxRecDepth 100000 in
theorem variorumlaw11_BreakerForced.calls (k : Nat) (A0 : Option Addr) (c0 : Nat) (l0 : List (S47)) (a1 : Int) (r : Bool) (w : World) (hr0 : Kd.C k47 w A0 l0.length l0) (hc0 : l0.length ≤ c0) (h : variorumlaw11_BreakerForced.f k l0 a1 = some r) :
  Calls Try.prog 6 #[.slice A0 l0.length c0, .int .i64 a1] w fun e w' => e = .returned (.bool r) ∧ Below w.heap.size w w' := by
 have hu29 := Try.underlying29
 have hu47 := Try.underlying47
 have HR0 := a_ hr0
 have HC0 := a_ hc0
 clear hr0 hc0
 have HB := a_ (Below.refl w.heap.size w)
 have H : ((variorumlaw11_fixed.f k).bind fun t250 => (if t250 = true then (variorumlaw11_BreakerForced.j0 k l0 a1 (decide ((l0.length : Int) > 200))) else (variorumlaw11_BreakerForced.j0 k l0 a1 true))) = some r := h
 clear h
 have HC3 := a_ H
 clear H
 go_enter Try.func6, Try.ntmps6
 go_upto_region 1 with (fail)
 go_cut [22] (fun v22 wc => ∃ (kq : Nat) (x22_2 : Bool), v22 = .bool x22_2 ∧ Aside0 (variorumlaw11_BreakerForced.j0 kq l0 a1 x22_2 = some r) ∧ Aside0 (kq ≤ k) ∧ Aside0 (Below w.heap.size w wc))
 case first =>
  have H := HC3.out
  clear HC3
  replace H := Option.bind_eq_some_iff.mp H
  obtain ⟨t250, A40, H⟩ := H
  replace H : (if t250 = true then (variorumlaw11_BreakerForced.j0 k l0 a1 (decide ((l0.length : Int) > 200))) else (variorumlaw11_BreakerForced.j0 k l0 a1 true)) = some r := H
  have A4 := a_ A40
  clear A40
  by_cases c5 : t250 = true
  ·subst c5
   have H1 : (variorumlaw11_BreakerForced.j0 k l0 a1 (decide ((l0.length : Int) > 200))) = some r := by rw [if_pos rfl] at H; exact H
   clear H
   have H := H1
   clear H1
   have H' := a_ H
   clear H
   go_wp2_with (first | ((with_reducible refine gate_callee (f := 8) rfl ?_); refine gl_ (some 16) Try.func8 (by kernel_rfl) #[] ?_; (with_reducible refine (variorumlaw11_fixed.calls k  true _ A4.out).mono ?_); rintro e w6 ⟨rfl, hb⟩; refine ⟨_, rfl, ?_⟩; have n0_ := a_ (bs_ HB.out hb); clear HB; have HB := n0_; clear n0_; (try clear hb); (try clear hb2); (try clear hk); (try clear hi)))
   go_meet
   case rel => exact ⟨_, (decide ((l0.length : Int) > 200)), (by first | rfl | (simp; done) | (simp [*]; done)), H', ⟨by first | omega | exact Nat.le_refl _⟩, ⟨bv_ HB.out⟩⟩
  ·replace c5 := Bool.eq_false_iff.mpr c5
   subst c5
   have H1 : (variorumlaw11_BreakerForced.j0 k l0 a1 true) = some r := by rw [if_neg (show ¬ (false = true) by decide)] at H; exact H
   clear H
   have H := H1
   clear H1
   have H' := a_ H
   clear H
   go_wp2_with (first | ((with_reducible refine gate_callee (f := 8) rfl ?_); refine gl_ (some 16) Try.func8 (by kernel_rfl) #[] ?_; (with_reducible refine (variorumlaw11_fixed.calls k  false _ A4.out).mono ?_); rintro e w7 ⟨rfl, hb⟩; refine ⟨_, rfl, ?_⟩; have n0_ := a_ (bs_ HB.out hb); clear HB; have HB := n0_; clear n0_; (try clear hb); (try clear hb2); (try clear hk); (try clear hi)))
   go_meet
   case rel => exact ⟨_, (true), (by first | rfl | (simp; done) | (simp [*]; done)), H', ⟨by first | omega | exact Nat.le_refl _⟩, ⟨bv_ HB.out⟩⟩
 case rest =>
  clear HC3
  try clear p2
  try clear c5
  try clear c6
  obtain ⟨kq, x22_2, rfl, HA, HJ2, HB⟩ := hcut
  cases kq with
  | zero => exact absurd HA.out (by simp [variorumlaw11_BreakerForced.j0])
  | succ kj2 =>
   have H := HA.out
   clear HA
   simp only [variorumlaw11_BreakerForced.j0] at H
   by_cases c8 : x22_2 = true
   ·subst c8
    have H1 : ((variorumlaw11_fixed.f kj2).bind fun t251 => (some t251)) = some r := by rw [if_pos rfl] at H; exact H
    clear H
    have H := H1
    clear H1
    replace H := Option.bind_eq_some_iff.mp H
    obtain ⟨t251, A90, H⟩ := H
    replace H : (some t251) = some r := H
    have A9 := a_ A90
    clear A90
    obtain rfl := Option.some.inj H
    go_wp2_with (first | ((with_reducible refine gate_callee (f := 8) rfl ?_); refine gl_ (some 23) Try.func8 (by kernel_rfl) #[] ?_; (with_reducible refine (variorumlaw11_fixed.calls kj2  t251 _ A9.out).mono ?_); rintro e w10 ⟨rfl, hb⟩; refine ⟨_, rfl, ?_⟩; have n0_ := a_ (bs_ HB.out hb); clear HB; have HB := n0_; clear n0_; (try clear hb); (try clear hb2); (try clear hk); (try clear hi)))
    go_ret
    exact ⟨by first | rfl | (simp [errW_none, errW_some] <;> rfl) | (simp [*, errW_none, errW_some] <;> rfl), bv_ HB.out⟩
   ·replace c8 := Bool.eq_false_iff.mpr c8
    subst c8
    have H1 : ((breaker_Best.f kj2 l0 a1 200).bind fun bt252 => ((breaker_Best.f kj2 l0 a1 10000).bind fun bt257 => ((breaker_Break.f kj2 l0 a1).bind fun bt262 => (if bt252.2.2 = true then (if bt257.2.2 = true then (if bt257.2.1 > bt252.2.1 then (variorumlaw11_BreakerForced.j1 kj2 l0 bt262.1 true bt262.2.2.1 bt262.2.2.2) else ((variorumref09_May.f kj2 l0).bind fun t269 => (if t269 = true then (if ((bt262.2.2.1 == 0) != true) = true then (variorumlaw11_BreakerForced.j1 kj2 l0 bt262.1 true bt262.2.2.1 bt262.2.2.2) else (if (bt262.2.1 != false) = true then (variorumlaw11_BreakerForced.j1 kj2 l0 bt262.1 true bt262.2.2.1 bt262.2.2.2) else ((variorumref11_Ints.f kj2 bt252.1 bt262.1).bind fun t270 => (variorumlaw11_BreakerForced.j1 kj2 l0 bt262.1 (!t270) bt262.2.2.1 bt262.2.2.2)))) else (if ((bt262.2.2.1 == 0) != false) = true then (variorumlaw11_BreakerForced.j1 kj2 l0 bt262.1 true bt262.2.2.1 bt262.2.2.2) else (if (bt262.2.1 != false) = true then (variorumlaw11_BreakerForced.j1 kj2 l0 bt262.1 true bt262.2.2.1 bt262.2.2.2) else ((variorumref11_Ints.f kj2 bt252.1 bt262.1).bind fun t271 => (variorumlaw11_BreakerForced.j1 kj2 l0 bt262.1 (!t271) bt262.2.2.1 bt262.2.2.2))))))) else (variorumlaw11_BreakerForced.j1 kj2 l0 bt262.1 true bt262.2.2.1 bt262.2.2.2)) else ((variorumref09_May.f kj2 l0).bind fun t272 => (if t272 = true then (if ((bt262.2.2.1 == 0) != bt257.2.2) = true then (variorumlaw11_BreakerForced.j1 kj2 l0 bt262.1 true bt262.2.2.1 bt262.2.2.2) else (if (bt262.2.1 != bt257.2.2) = true then (variorumlaw11_BreakerForced.j1 kj2 l0 bt262.1 true bt262.2.2.1 bt262.2.2.2) else (variorumlaw11_BreakerForced.j1 kj2 l0 bt262.1 false bt262.2.2.1 bt262.2.2.2))) else (if ((bt262.2.2.1 == 0) != false) = true then (variorumlaw11_BreakerForced.j1 kj2 l0 bt262.1 true bt262.2.2.1 bt262.2.2.2) else (if (bt262.2.1 != bt257.2.2) = true then (variorumlaw11_BreakerForced.j1 kj2 l0 bt262.1 true bt262.2.2.1 bt262.2.2.2) else (variorumlaw11_BreakerForced.j1 kj2 l0 bt262.1 false bt262.2.2.1 bt262.2.2.2))))))))) = some r := by rw [if_neg (show ¬ (false = true) by decide)] at H; exact H
    clear H
    have H := H1
    clear H1
    replace H := Option.bind_eq_some_iff.mp H
    obtain ⟨⟨t252, t253, t254⟩, A110, H⟩ := H
    replace H : ((breaker_Best.f kj2 l0 a1 10000).bind fun bt257 => ((breaker_Break.f kj2 l0 a1).bind fun bt262 => (if t254 = true then (if bt257.2.2 = true then (if bt257.2.1 > t253 then (variorumlaw11_BreakerForced.j1 kj2 l0 bt262.1 true bt262.2.2.1 bt262.2.2.2) else ((variorumref09_May.f kj2 l0).bind fun t269 => (if t269 = true then (if ((bt262.2.2.1 == 0) != true) = true then (variorumlaw11_BreakerForced.j1 kj2 l0 bt262.1 true bt262.2.2.1 bt262.2.2.2) else (if (bt262.2.1 != false) = true then (variorumlaw11_BreakerForced.j1 kj2 l0 bt262.1 true bt262.2.2.1 bt262.2.2.2) else ((variorumref11_Ints.f kj2 t252 bt262.1).bind fun t270 => (variorumlaw11_BreakerForced.j1 kj2 l0 bt262.1 (!t270) bt262.2.2.1 bt262.2.2.2)))) else (if ((bt262.2.2.1 == 0) != false) = true then (variorumlaw11_BreakerForced.j1 kj2 l0 bt262.1 true bt262.2.2.1 bt262.2.2.2) else (if (bt262.2.1 != false) = true then (variorumlaw11_BreakerForced.j1 kj2 l0 bt262.1 true bt262.2.2.1 bt262.2.2.2) else ((variorumref11_Ints.f kj2 t252 bt262.1).bind fun t271 => (variorumlaw11_BreakerForced.j1 kj2 l0 bt262.1 (!t271) bt262.2.2.1 bt262.2.2.2))))))) else (variorumlaw11_BreakerForced.j1 kj2 l0 bt262.1 true bt262.2.2.1 bt262.2.2.2)) else ((variorumref09_May.f kj2 l0).bind fun t272 => (if t272 = true then (if ((bt262.2.2.1 == 0) != bt257.2.2) = true then (variorumlaw11_BreakerForced.j1 kj2 l0 bt262.1 true bt262.2.2.1 bt262.2.2.2) else (if (bt262.2.1 != bt257.2.2) = true then (variorumlaw11_BreakerForced.j1 kj2 l0 bt262.1 true bt262.2.2.1 bt262.2.2.2) else (variorumlaw11_BreakerForced.j1 kj2 l0 bt262.1 false bt262.2.2.1 bt262.2.2.2))) else (if ((bt262.2.2.1 == 0) != false) = true then (variorumlaw11_BreakerForced.j1 kj2 l0 bt262.1 true bt262.2.2.1 bt262.2.2.2) else (if (bt262.2.1 != bt257.2.2) = true then (variorumlaw11_BreakerForced.j1 kj2 l0 bt262.1 true bt262.2.2.1 bt262.2.2.2) else (variorumlaw11_BreakerForced.j1 kj2 l0 bt262.1 false bt262.2.2.1 bt262.2.2.2)))))))) = some r := H
    have A11 := a_ A110
    clear A110
    replace H := Option.bind_eq_some_iff.mp H
    obtain ⟨⟨t257, t258, t259⟩, A120, H⟩ := H
    replace H : ((breaker_Break.f kj2 l0 a1).bind fun bt262 => (if t254 = true then (if t259 = true then (if t258 > t253 then (variorumlaw11_BreakerForced.j1 kj2 l0 bt262.1 true bt262.2.2.1 bt262.2.2.2) else ((variorumref09_May.f kj2 l0).bind fun t269 => (if t269 = true then (if ((bt262.2.2.1 == 0) != true) = true then (variorumlaw11_BreakerForced.j1 kj2 l0 bt262.1 true bt262.2.2.1 bt262.2.2.2) else (if (bt262.2.1 != false) = true then (variorumlaw11_BreakerForced.j1 kj2 l0 bt262.1 true bt262.2.2.1 bt262.2.2.2) else ((variorumref11_Ints.f kj2 t252 bt262.1).bind fun t270 => (variorumlaw11_BreakerForced.j1 kj2 l0 bt262.1 (!t270) bt262.2.2.1 bt262.2.2.2)))) else (if ((bt262.2.2.1 == 0) != false) = true then (variorumlaw11_BreakerForced.j1 kj2 l0 bt262.1 true bt262.2.2.1 bt262.2.2.2) else (if (bt262.2.1 != false) = true then (variorumlaw11_BreakerForced.j1 kj2 l0 bt262.1 true bt262.2.2.1 bt262.2.2.2) else ((variorumref11_Ints.f kj2 t252 bt262.1).bind fun t271 => (variorumlaw11_BreakerForced.j1 kj2 l0 bt262.1 (!t271) bt262.2.2.1 bt262.2.2.2))))))) else (variorumlaw11_BreakerForced.j1 kj2 l0 bt262.1 true bt262.2.2.1 bt262.2.2.2)) else ((variorumref09_May.f kj2 l0).bind fun t272 => (if t272 = true then (if ((bt262.2.2.1 == 0) != t259) = true then (variorumlaw11_BreakerForced.j1 kj2 l0 bt262.1 true bt262.2.2.1 bt262.2.2.2) else (if (bt262.2.1 != t259) = true then (variorumlaw11_BreakerForced.j1 kj2 l0 bt262.1 true bt262.2.2.1 bt262.2.2.2) else (variorumlaw11_BreakerForced.j1 kj2 l0 bt262.1 false bt262.2.2.1 bt262.2.2.2))) else (if ((bt262.2.2.1 == 0) != false) = true then (variorumlaw11_BreakerForced.j1 kj2 l0 bt262.1 true bt262.2.2.1 bt262.2.2.2) else (if (bt262.2.1 != t259) = true then (variorumlaw11_BreakerForced.j1 kj2 l0 bt262.1 true bt262.2.2.1 bt262.2.2.2) else (variorumlaw11_BreakerForced.j1 kj2 l0 bt262.1 false bt262.2.2.1 bt262.2.2.2))))))) = some r := H
    have A12 := a_ A120
    clear A120
    replace H := Option.bind_eq_some_iff.mp H
    obtain ⟨⟨t262, t265, t266, t267⟩, A130, H⟩ := H
    replace H : (if t254 = true then (if t259 = true then (if t258 > t253 then (variorumlaw11_BreakerForced.j1 kj2 l0 t262 true t266 t267) else ((variorumref09_May.f kj2 l0).bind fun t269 => (if t269 = true then (if ((t266 == 0) != true) = true then (variorumlaw11_BreakerForced.j1 kj2 l0 t262 true t266 t267) else (if (t265 != false) = true then (variorumlaw11_BreakerForced.j1 kj2 l0 t262 true t266 t267) else ((variorumref11_Ints.f kj2 t252 t262).bind fun t270 => (variorumlaw11_BreakerForced.j1 kj2 l0 t262 (!t270) t266 t267)))) else (if ((t266 == 0) != false) = true then (variorumlaw11_BreakerForced.j1 kj2 l0 t262 true t266 t267) else (if (t265 != false) = true then (variorumlaw11_BreakerForced.j1 kj2 l0 t262 true t266 t267) else ((variorumref11_Ints.f kj2 t252 t262).bind fun t271 => (variorumlaw11_BreakerForced.j1 kj2 l0 t262 (!t271) t266 t267))))))) else (variorumlaw11_BreakerForced.j1 kj2 l0 t262 true t266 t267)) else ((variorumref09_May.f kj2 l0).bind fun t272 => (if t272 = true then (if ((t266 == 0) != t259) = true then (variorumlaw11_BreakerForced.j1 kj2 l0 t262 true t266 t267) else (if (t265 != t259) = true then (variorumlaw11_BreakerForced.j1 kj2 l0 t262 true t266 t267) else (variorumlaw11_BreakerForced.j1 kj2 l0 t262 false t266 t267))) else (if ((t266 == 0) != false) = true then (variorumlaw11_BreakerForced.j1 kj2 l0 t262 true t266 t267) else (if (t265 != t259) = true then (variorumlaw11_BreakerForced.j1 kj2 l0 t262 true t266 t267) else (variorumlaw11_BreakerForced.j1 kj2 l0 t262 false t266 t267)))))) = some r := H
    have A13 := a_ A130
    clear A130
    have HC14 := a_ H
    clear H
    go_upto_region 6 with (first | ((with_reducible refine gate_callee (f := 9) rfl ?_); refine gl_ (some 27) Try.func9 (by kernel_rfl) #[.slice A0 l0.length c0, .int .i64 a1, .int .i64 200] ?_; (with_reducible refine (breaker_Best.calls kj2 _ _ l0 a1 200 t252 t253 t254 _ ?side1 ?side2 A11.out).mono ?_); (case side1 => exact cw_ HR0.out HB.out); (case side2 => exact HC0.out); rintro e w15 ⟨v255, rfl, ho0, hb⟩; refine ⟨_, rfl, ?_⟩; have n0_ := a_ (Kd.R_lower ho0 (below_size (bv_ HB.out))); have n1_ := a_ (bs_ HB.out hb); clear HB; have HO256 := n0_; have HB := n1_; clear n0_ n1_; (try clear hb); (try clear hb2); (try clear hk); (try clear hi); (try clear ho0)) | ((with_reducible refine gate_callee (f := 9) rfl ?_); refine gl_ (some 34) Try.func9 (by kernel_rfl) #[.slice A0 l0.length c0, .int .i64 a1, .int .i64 10000] ?_; (with_reducible refine (breaker_Best.calls kj2 _ _ l0 a1 10000 t257 t258 t259 _ ?side1 ?side2 A12.out).mono ?_); (case side1 => exact cw_ HR0.out HB.out); (case side2 => exact HC0.out); rintro e w16 ⟨v260, rfl, ho0, hb⟩; refine ⟨_, rfl, ?_⟩; have n0_ := a_ (Kd.R_elder' (rv_ HO256.out) (Kd.R_base ho0) hb); have n1_ := a_ (Kd.R_lower (Kd.R_new' ho0 (Kd.R_lt (rv_ HO256.out))) (below_size (bv_ HB.out))); have n2_ := a_ (bs_ HB.out hb); clear HO256; clear HB; have HO256 := n0_; have HO261 := n1_; have HB := n2_; clear n0_ n1_ n2_; (try clear hb); (try clear hb2); (try clear hk); (try clear hi); (try clear ho0)) | ((with_reducible refine gate_callee (f := 11) rfl ?_); refine gl_ (some 41) Try.func11 (by kernel_rfl) #[.slice A0 l0.length c0, .int .i64 a1] ?_; (with_reducible refine (breaker_Break.calls kj2 _ _ l0 a1 t262 t265 t266 t267 _ ?side1 ?side2 A13.out).mono ?_); (case side1 => exact cw_ HR0.out HB.out); (case side2 => exact HC0.out); rintro e w17 ⟨v263, rfl, ho0, hb⟩; refine ⟨_, rfl, ?_⟩; have n0_ := a_ (Kd.R_elder' (rv_ HO256.out) (Kd.R_base ho0) hb); have n1_ := a_ (Kd.R_elder' (rv_ HO261.out) (Kd.R_base ho0) hb); have n2_ := a_ (Kd.R_lower (Kd.R_new' (Kd.R_new' ho0 (Kd.R_lt (rv_ HO256.out))) (Kd.R_lt (rv_ HO261.out))) (below_size (bv_ HB.out))); have n3_ := a_ (bs_ HB.out hb); clear HO256; clear HO261; clear HB; have HO256 := n0_; have HO261 := n1_; have HO264 := n2_; have HB := n3_; clear n0_ n1_ n2_ n3_; (try clear hb); (try clear hb2); (try clear hk); (try clear hi); (try clear ho0)) | ((with_reducible refine gate_dst (N := 13) rfl ?_); (try (refine gate_guard (by rfl) ?_; dsimp only)); refine box_event ?hg (N := 13) ?hd (cs := #[.int .i64 0, .int .i64 0]) (t := 29) ?hr ?_; (case hd => rfl); (case hg => rfl); (case hr => first | (go_simp; done) | (go_simp; rfl)); intro gb268 hg w18 hbox hb; have n0_ := a_ (Kd.R_below (rv_ HO256.out) hb); have n1_ := a_ (Kd.R_below (rv_ HO261.out) hb); have n2_ := a_ (Kd.R_below (rv_ HO264.out) hb); have n3_ := a_ (bs_ HB.out hb); have n4_ := a_ (hbox); have n5_ := a_ ((by rw [hg]; exact (below_size (bv_ HB.out)) : w.heap.size ≤ gb268)); have n6_ := a_ ((by rw [hg]; exact (below_size (bv_ HB.out)) : w.heap.size ≤ gb268)); clear HO256; clear HO261; clear HO264; clear HB; have HO256 := n0_; have HO261 := n1_; have HO264 := n2_; have HB := n3_; have BK268 := n4_; have GW268 := n5_; have GE268 := n6_; clear n0_ n1_ n2_ n3_ n4_ n5_ n6_; clear hb hbox hg; obtain ⟨⟨Z19_0, Y19_0⟩, Z19_1, Y19_1⟩ := cs2_ BK268.out))
    (try simp only [Act.put, List.setIfInBounds_toArray, List.set_cons_zero, List.set_cons_succ])
    go_cut [86] (fun v86 wc => ∃ (kq : Nat) (x86_13 : Bool), v86 = .bool x86_13 ∧ Aside0 (variorumlaw11_BreakerForced.j1 kq l0 t262 x86_13 t266 t267 = some r) ∧ Aside0 (kq ≤ kj2) ∧ Aside0 (Kd.R (Kd.int .i64) 3 wc w.heap.size (fun _ => True) v263 t262) ∧ Aside0 (wc.heap[gb268]? = some (.cells #[.int .i64 t266, .int .i64 t267] 29 (0, 0))) ∧ Aside0 (Below w.heap.size w wc))
    case first =>
     have H := HC14.out
     clear HC14
     by_cases c20 : t254 = true
     ·subst c20
      have H1 : (if t259 = true then (if t258 > t253 then (variorumlaw11_BreakerForced.j1 kj2 l0 t262 true t266 t267) else ((variorumref09_May.f kj2 l0).bind fun t269 => (if t269 = true then (if ((t266 == 0) != true) = true then (variorumlaw11_BreakerForced.j1 kj2 l0 t262 true t266 t267) else (if (t265 != false) = true then (variorumlaw11_BreakerForced.j1 kj2 l0 t262 true t266 t267) else ((variorumref11_Ints.f kj2 t252 t262).bind fun t270 => (variorumlaw11_BreakerForced.j1 kj2 l0 t262 (!t270) t266 t267)))) else (if ((t266 == 0) != false) = true then (variorumlaw11_BreakerForced.j1 kj2 l0 t262 true t266 t267) else (if (t265 != false) = true then (variorumlaw11_BreakerForced.j1 kj2 l0 t262 true t266 t267) else ((variorumref11_Ints.f kj2 t252 t262).bind fun t271 => (variorumlaw11_BreakerForced.j1 kj2 l0 t262 (!t271) t266 t267))))))) else (variorumlaw11_BreakerForced.j1 kj2 l0 t262 true t266 t267)) = some r := by rw [if_pos rfl] at H; exact H
      clear H
      have H := H1
      clear H1
      by_cases c21 : t259 = true
      ·subst c21
       have H1 : (if t258 > t253 then (variorumlaw11_BreakerForced.j1 kj2 l0 t262 true t266 t267) else ((variorumref09_May.f kj2 l0).bind fun t269 => (if t269 = true then (if ((t266 == 0) != true) = true then (variorumlaw11_BreakerForced.j1 kj2 l0 t262 true t266 t267) else (if (t265 != false) = true then (variorumlaw11_BreakerForced.j1 kj2 l0 t262 true t266 t267) else ((variorumref11_Ints.f kj2 t252 t262).bind fun t270 => (variorumlaw11_BreakerForced.j1 kj2 l0 t262 (!t270) t266 t267)))) else (if ((t266 == 0) != false) = true then (variorumlaw11_BreakerForced.j1 kj2 l0 t262 true t266 t267) else (if (t265 != false) = true then (variorumlaw11_BreakerForced.j1 kj2 l0 t262 true t266 t267) else ((variorumref11_Ints.f kj2 t252 t262).bind fun t271 => (variorumlaw11_BreakerForced.j1 kj2 l0 t262 (!t271) t266 t267))))))) = some r := by rw [if_pos rfl] at H; exact H
       clear H
       have H := H1
       clear H1
       by_cases c22 : t258 > t253
       ·rw [if_pos c22] at H
        have c22b0 : decide (t253 < t258) = true := decide_eq_true c22
        clear c22
        (first | rw [c22b0] | (simp only [i64_w, i32_w]; rw [c22b0]) | skip)
        have H' := a_ H
        exact absurd H'.out (by rw [variorumlaw11_BreakerForced.j1.none_]; simp)
       ·rw [if_neg c22] at H
        have c22b0 : decide (t253 < t258) = false := decide_eq_false c22
        clear c22
        (first | rw [c22b0] | (simp only [i64_w, i32_w]; rw [c22b0]) | skip)
        replace H := Option.bind_eq_some_iff.mp H
        obtain ⟨t269, A250, H⟩ := H
        replace H : (if t269 = true then (if ((t266 == 0) != true) = true then (variorumlaw11_BreakerForced.j1 kj2 l0 t262 true t266 t267) else (if (t265 != false) = true then (variorumlaw11_BreakerForced.j1 kj2 l0 t262 true t266 t267) else ((variorumref11_Ints.f kj2 t252 t262).bind fun t270 => (variorumlaw11_BreakerForced.j1 kj2 l0 t262 (!t270) t266 t267)))) else (if ((t266 == 0) != false) = true then (variorumlaw11_BreakerForced.j1 kj2 l0 t262 true t266 t267) else (if (t265 != false) = true then (variorumlaw11_BreakerForced.j1 kj2 l0 t262 true t266 t267) else ((variorumref11_Ints.f kj2 t252 t262).bind fun t271 => (variorumlaw11_BreakerForced.j1 kj2 l0 t262 (!t271) t266 t267))))) = some r := H
        have A25 := a_ A250
        clear A250
        by_cases c26 : t269 = true
        ·subst c26
         have H1 : (if ((t266 == 0) != true) = true then (variorumlaw11_BreakerForced.j1 kj2 l0 t262 true t266 t267) else (if (t265 != false) = true then (variorumlaw11_BreakerForced.j1 kj2 l0 t262 true t266 t267) else ((variorumref11_Ints.f kj2 t252 t262).bind fun t270 => (variorumlaw11_BreakerForced.j1 kj2 l0 t262 (!t270) t266 t267)))) = some r := by rw [if_pos rfl] at H; exact H
         clear H
         have H := H1
         clear H1
         by_cases c27 : ((t266 == 0) != true) = true
         ·rw [if_pos c27] at H
          have c27b0 : ((t266 == 0) != true) = true := c27
          (try (have c27b1 : decide ((t266 == 0) = true) = false := by simpa using c27))
          (try (have c27b2 : ((t266 == 0) == true) = false := by simpa using c27))
          (try (have c27b3 : ¬ ((t266 == 0) = true) := by simpa using c27))
          clear c27
          have H' := a_ H
          exact absurd H'.out (by rw [variorumlaw11_BreakerForced.j1.none_]; simp)
         ·rw [if_neg c27] at H
          have c27b0 : ((t266 == 0) != true) = false := by simpa using c27
          (try (have c27b1 : decide ((t266 == 0) = true) = true := by simpa using c27))
          (try (have c27b2 : ((t266 == 0) == true) = true := by simpa using c27))
          clear c27
          by_cases c31 : (t265 != false) = true
          ·rw [if_pos c31] at H
           have c31b0 : (t265 != false) = true := c31
           (try (have c31b1 : decide (t265 = false) = false := by simpa using c31))
           (try (have c31b2 : (t265 == false) = false := by simpa using c31))
           (try (have c31b3 : ¬ (t265 = false) := by simpa using c31))
           clear c31
           have H' := a_ H
           exact absurd H'.out (by rw [variorumlaw11_BreakerForced.j1.none_]; simp)
          ·rw [if_neg c31] at H
           have c31b0 : (t265 != false) = false := by simpa using c31
           (try (have c31b1 : decide (t265 = false) = true := by simpa using c31))
           (try (have c31b2 : (t265 == false) = true := by simpa using c31))
           clear c31
           replace H := Option.bind_eq_some_iff.mp H
           obtain ⟨t270, A350, H⟩ := H
           replace H : (variorumlaw11_BreakerForced.j1 kj2 l0 t262 (!t270) t266 t267) = some r := H
           have A35 := a_ A350
           clear A350
           have H' := a_ H
           clear H
           try go_wp2
           have n0_ : Aside0 (Kd.R (Kd.int .i64) 3 ((w18.setCell ⟨gb268, 0, none⟩ (.int .i64 t266)).setCell ⟨gb268, 1, none⟩ (.int .i64 t267)) w.heap.size (fun k_ => some k_ ≠ (v260 : Value).ownBlock ∧ some k_ ≠ (v263 : Value).ownBlock) v255 t252) := ⟨by (with_reducible repeat (first | apply Kd.R_alloc | apply Kd.R_drewN | apply Kd.R_drew)); exact Kd.R_mono (Kd.R_far (p := ⟨gb268, 1, none⟩) (Kd.R_far (p := ⟨gb268, 0, none⟩) (Kd.R_types HO256.out BK268.out (by decide)) (fun _ hk => hk.2) (.int .i64 t266)) (fun _ hk => hk.2) (.int .i64 t267)) (fun _ hk => ⟨hk.1.1.2, hk.1.2⟩)⟩
           have n1_ : Aside0 (Kd.R (Kd.int .i64) 3 ((w18.setCell ⟨gb268, 0, none⟩ (.int .i64 t266)).setCell ⟨gb268, 1, none⟩ (.int .i64 t267)) w.heap.size (fun k_ => some k_ ≠ (v255 : Value).ownBlock ∧ some k_ ≠ (v263 : Value).ownBlock) v260 t257) := ⟨by (with_reducible repeat (first | apply Kd.R_alloc | apply Kd.R_drewN | apply Kd.R_drew)); exact Kd.R_mono (Kd.R_far (p := ⟨gb268, 1, none⟩) (Kd.R_far (p := ⟨gb268, 0, none⟩) (Kd.R_types HO261.out BK268.out (by decide)) (fun _ hk => hk.2) (.int .i64 t266)) (fun _ hk => hk.2) (.int .i64 t267)) (fun _ hk => ⟨hk.1.1.2, hk.1.2⟩)⟩
           have n2_ : Aside0 (Kd.R (Kd.int .i64) 3 ((w18.setCell ⟨gb268, 0, none⟩ (.int .i64 t266)).setCell ⟨gb268, 1, none⟩ (.int .i64 t267)) w.heap.size (fun k_ => some k_ ≠ (v255 : Value).ownBlock ∧ some k_ ≠ (v260 : Value).ownBlock) v263 t262) := ⟨by (with_reducible repeat (first | apply Kd.R_alloc | apply Kd.R_drewN | apply Kd.R_drew)); exact Kd.R_mono (Kd.R_far (p := ⟨gb268, 1, none⟩) (Kd.R_far (p := ⟨gb268, 0, none⟩) (Kd.R_types HO264.out BK268.out (by decide)) (fun _ hk => hk.2) (.int .i64 t266)) (fun _ hk => hk.2) (.int .i64 t267)) (fun _ hk => ⟨hk.1.1.2, hk.1.2⟩)⟩
           have n3_ : Aside0 (((w18.setCell ⟨gb268, 0, none⟩ (.int .i64 t266)).setCell ⟨gb268, 1, none⟩ (.int .i64 t267)).heap[gb268]? = some (.cells #[.int .i64 t266, .int .i64 t267] 29 (0, 0))) := ⟨kp0_ BK268.out⟩
           have n4_ : Aside0 (Below w.heap.size w ((w18.setCell ⟨gb268, 0, none⟩ (.int .i64 t266)).setCell ⟨gb268, 1, none⟩ (.int .i64 t267))) := ⟨bS1_ HB.out GE268.out⟩
           (try clear HO256)
           (try clear HO261)
           (try clear HO264)
           (try clear BK268)
           (try clear HB)
           generalize ((w18.setCell ⟨gb268, 0, none⟩ (.int .i64 t266)).setCell ⟨gb268, 1, none⟩ (.int .i64 t267)) = w36 at n0_ n1_ n2_ n3_ n4_ ⊢
           have HO256 := n0_
           have HO261 := n1_
           have HO264 := n2_
           have BK268 := n3_
           have HB := n4_
           clear n0_ n1_ n2_ n3_ n4_
           have n0_ := a_ (Kd.R_drew HO256.out)
           have n1_ := a_ (Kd.R_drew HO261.out)
           have n2_ := a_ (Kd.R_drew HO264.out)
           have n3_ := a_ (blk_drew BK268.out)
           have n4_ := a_ (below_drew1 HB.out)
           clear HO256
           clear HO261
           clear HO264
           clear BK268
           clear HB
           have HO256 := n0_
           have HO261 := n1_
           have HO264 := n2_
           have BK268 := n3_
           have HB := n4_
           clear n0_ n1_ n2_ n3_ n4_
           refine start_ (n := 42) (S := fun w' => w'.cell? ⟨gb268, 0, none⟩ = some (.int .i64 t266) ∧ w'.cell? ⟨gb268, 1, none⟩ = some (.int .i64 t267)) (ds := []) #[false, false, false, false, false, false, false, false, false, false, false, false, false, false, false, false, false, false, false, false, false, false, false, false, false, false, false, false, false, false, false, false, false, false, false, false, false, false, false, false, false, false] (by kernel_rfl) rfl rfl ⟨(blk_cell BK268.out 0).trans rfl, (blk_cell BK268.out 1).trans rfl⟩ (fun hHeld => ?_); refine with_tabW variorumlaw11_BreakerForced.tab6 variorumlaw11_BreakerForced.bits6 (fun HT_ HW_ => ?_)
           generalize w36.drew = w37 at HO256 HO261 HO264 BK268 HB hHeld ⊢
           refine pure_ (i := 0) (N := some 45) #[true, false, false, false, false, false, false, false, false, false, false, false, false, false, false, false, false, false, false, false, false, false, false, false, false, false, false, false, false, false, false, false, false, false, false, false, false, false, false, false, false, false] rfl rfl (any_of HT_.out (by kernel_rfl)) (fun _ _ _ h => h) (Or.inl ⟨by rfl, fun w' => by go_simp; with_reducible rfl⟩) (by simp only [Act.put, List.setIfInBounds_toArray, List.set_cons_zero, List.set_cons_succ, i64_w, i32_w]; rfl) ?_
           refine pure_ (i := 1) (N := some 46) #[true, true, false, false, false, false, false, false, false, false, false, false, false, false, false, false, false, false, false, false, false, false, false, false, false, false, false, false, false, false, false, false, false, false, false, false, false, false, false, false, false, false] rfl rfl (any_of HT_.out (by kernel_rfl)) (fun _ _ _ h => h) (Or.inl ⟨by rfl, fun w' => by go_simp; with_reducible rfl⟩) (by simp only [Act.put, List.setIfInBounds_toArray, List.set_cons_zero, List.set_cons_succ, i64_w, i32_w]; rfl) ?_
           refine pure_ (i := 2) (N := some 47) #[true, true, true, false, false, false, false, false, false, false, false, false, false, false, false, false, false, false, false, false, false, false, false, false, false, false, false, false, false, false, false, false, false, false, false, false, false, false, false, false, false, false] rfl rfl (any_of HT_.out (by kernel_rfl)) (fun _ _ _ h => h) (Or.inl ⟨by rfl, fun w' => by go_simp; with_reducible rfl⟩) (by simp only [Act.put, List.setIfInBounds_toArray, List.set_cons_zero, List.set_cons_succ, i64_w, i32_w]; rfl) ?_
           refine pure_ (i := 3) (N := some 48) #[true, true, true, true, false, false, false, false, false, false, false, false, false, false, false, false, false, false, false, false, false, false, false, false, false, false, false, false, false, false, false, false, false, false, false, false, false, false, false, false, false, false] rfl rfl (any_of HT_.out (by kernel_rfl)) (fun _ _ _ h => h) (Or.inl ⟨by rfl, fun w' => by go_simp; with_reducible rfl⟩) (by simp only [Act.put, List.setIfInBounds_toArray, List.set_cons_zero, List.set_cons_succ, i64_w, i32_w]; rfl) ?_
           refine pure_ (i := 4) (N := some 49) #[true, true, true, true, true, false, false, false, false, false, false, false, false, false, false, false, false, false, false, false, false, false, false, false, false, false, false, false, false, false, false, false, false, false, false, false, false, false, false, false, false, false] rfl rfl (any_of HT_.out (by kernel_rfl)) (fun _ _ _ h => h) (Or.inl ⟨by rfl, fun w' => by go_simp; with_reducible rfl⟩) (by simp only [Act.put, List.setIfInBounds_toArray, List.set_cons_zero, List.set_cons_succ, i64_w, i32_w]; rfl) ?_
           refine pure_ (i := 5) (N := some 50) #[true, true, true, true, true, true, false, false, false, false, false, false, false, false, false, false, false, false, false, false, false, false, false, false, false, false, false, false, false, false, false, false, false, false, false, false, false, false, false, false, false, false] rfl rfl (any_of HT_.out (by kernel_rfl)) (fun _ _ _ h => h) (Or.inl ⟨by rfl, fun w' => by go_simp; with_reducible rfl⟩) (by simp only [Act.put, List.setIfInBounds_toArray, List.set_cons_zero, List.set_cons_succ, i64_w, i32_w]; rfl) ?_
           refine pure_ (i := 6) (N := some 51) #[true, true, true, true, true, true, true, false, false, false, false, false, false, false, false, false, false, false, false, false, false, false, false, false, false, false, false, false, false, false, false, false, false, false, false, false, false, false, false, false, false, false] rfl rfl (any_of HT_.out (by kernel_rfl)) (fun _ _ _ h => h) (Or.inl ⟨by rfl, fun w' => by go_simp; with_reducible rfl⟩) (by simp only [Act.put, List.setIfInBounds_toArray, List.set_cons_zero, List.set_cons_succ, i64_w, i32_w]; rfl) ?_
           refine pure_ (i := 7) (N := some 52) #[true, true, true, true, true, true, true, true, false, false, false, false, false, false, false, false, false, false, false, false, false, false, false, false, false, false, false, false, false, false, false, false, false, false, false, false, false, false, false, false, false, false] rfl rfl (any_of HT_.out (by kernel_rfl)) (fun _ _ _ h => h) (Or.inl ⟨by rfl, fun w' => by go_simp; with_reducible rfl⟩) (by simp only [Act.put, List.setIfInBounds_toArray, List.set_cons_zero, List.set_cons_succ, i64_w, i32_w]; rfl) ?_
           refine pure_ (i := 8) (N := some 53) #[true, true, true, true, true, true, true, true, true, false, false, false, false, false, false, false, false, false, false, false, false, false, false, false, false, false, false, false, false, false, false, false, false, false, false, false, false, false, false, false, false, false] rfl rfl (any_of HT_.out (by kernel_rfl)) (fun _ _ _ h => h) (Or.inl ⟨by rfl, fun w' => by go_simp; with_reducible rfl⟩) (by simp only [Act.put, List.setIfInBounds_toArray, List.set_cons_zero, List.set_cons_succ, i64_w, i32_w]; rfl) ?_
           refine pure_ (i := 9) (N := some 54) #[true, true, true, true, true, true, true, true, true, true, false, false, false, false, false, false, false, false, false, false, false, false, false, false, false, false, false, false, false, false, false, false, false, false, false, false, false, false, false, false, false, false] rfl rfl (any_of HT_.out (by kernel_rfl)) (fun _ _ _ h => h) (Or.inl ⟨by rfl, fun w' => by go_simp; with_reducible rfl⟩) (by simp only [Act.put, List.setIfInBounds_toArray, List.set_cons_zero, List.set_cons_succ, i64_w, i32_w]; rfl) ?_
           refine pure_ (i := 10) (N := some 55) #[true, true, true, true, true, true, true, true, true, true, true, false, false, false, false, false, false, false, false, false, false, false, false, false, false, false, false, false, false, false, false, false, false, false, false, false, false, false, false, false, false, false] rfl rfl (any_of HT_.out (by kernel_rfl)) (fun _ _ _ h => h) (Or.inl ⟨by rfl, fun w' => by go_simp; with_reducible rfl⟩) (by simp only [Act.put, List.setIfInBounds_toArray, List.set_cons_zero, List.set_cons_succ, i64_w, i32_w]; rfl) ?_
           refine pure_ (i := 11) (N := some 56) #[true, true, true, true, true, true, true, true, true, true, true, true, false, false, false, false, false, false, false, false, false, false, false, false, false, false, false, false, false, false, false, false, false, false, false, false, false, false, false, false, false, false] rfl rfl (any_of HT_.out (by kernel_rfl)) (fun _ _ _ h => h) (Or.inl ⟨by rfl, fun w' => by go_simp; with_reducible rfl⟩) (by simp only [Act.put, List.setIfInBounds_toArray, List.set_cons_zero, List.set_cons_succ, i64_w, i32_w]; rfl) ?_
           refine pure_ (i := 14) (N := some 59) #[true, true, true, true, true, true, true, true, true, true, true, true, false, false, true, false, false, false, false, false, false, false, false, false, false, false, false, false, false, false, false, false, false, false, false, false, false, false, false, false, false, false] rfl rfl (any_of HT_.out (by kernel_rfl)) (fun _ _ _ h => h) (Or.inl ⟨by rfl, fun w' => by go_simp; with_reducible rfl⟩) (by simp only [Act.put, List.setIfInBounds_toArray, List.set_cons_zero, List.set_cons_succ, i64_w, i32_w]; rfl) ?_
           refine take_ (i := 12) (N := some 57) (v := ?_) (a' := ?_) #[true, true, true, true, true, true, true, true, true, true, true, true, true, false, true, false, false, false, false, false, false, false, false, false, false, false, false, false, false, false, false, false, false, false, false, false, false, false, false, false, false, false] rfl rfl (take_ofW HT_.out HW_.out (by kernel_rfl)) (fun _ _ _ h => h) (Or.inl ⟨by rfl, ?_⟩) hHeld ?_ ?_
           rotate_left
           ·rintro w' ⟨s0, s1⟩
            go_simp
            with_reducible rfl
           rotate_left
           ·simp only [Act.put, List.setIfInBounds_toArray, List.set_cons_zero, List.set_cons_succ, i64_w, i32_w]
            rfl
           refine pure_ (i := 13) (N := some 58) #[true, true, true, true, true, true, true, true, true, true, true, true, true, true, true, false, false, false, false, false, false, false, false, false, false, false, false, false, false, false, false, false, false, false, false, false, false, false, false, false, false, false] rfl rfl (any_of HT_.out (by kernel_rfl)) (fun _ _ _ h => h) (Or.inl ⟨by rfl, fun w' => by go_simp; with_reducible rfl⟩) (by simp only [Act.put, List.setIfInBounds_toArray, List.set_cons_zero, List.set_cons_succ, i64_w, i32_w]; rfl) ?_
           refine one_ (i := 15) (N := some 60) #[true, true, true, true, true, true, true, true, true, true, true, true, true, true, true, true, false, false, false, false, false, false, false, false, false, false, false, false, false, false, false, false, false, false, false, false, false, false, false, false, false, false] rfl rfl (one_of HT_.out (by kernel_rfl)) (by decide) (fun K hK => ?_)
           refine goes_ Try.func14 (by kernel_rfl) rfl #[.slice A0 l0.length c0] (by rfl) rfl rfl (by (try simp only [List.map_toArray, List.map_cons, List.map_nil]); first | done | rfl | (simp only [List.length_drop, List.length_take]; rfl) | (simp only [*]; first | done | rfl)) ?_
           with_reducible refine (variorumref09_May.calls kj2 _ _ l0 true _ ?side1 ?side2 A25.out).mono ?_
           (case side1 => exact cw_ HR0.out HB.out)
           (case side2 => exact HC0.out)
           rintro e w38 ⟨rfl, hb⟩
           refine ⟨_, rfl, ?_⟩
           have n0_ := a_ (Kd.R_below (rv_ HO256.out) hb)
           have n1_ := a_ (Kd.R_below (rv_ HO261.out) hb)
           have n2_ := a_ (Kd.R_below (rv_ HO264.out) hb)
           have n3_ := a_ (kb_ BK268.out hb)
           have n4_ := a_ (below_step (bS1_ HB.out GE268.out) hb)
           clear HO256
           clear HO261
           clear HO264
           clear BK268
           clear HB
           have HO256 := n0_
           have HO261 := n1_
           have HO264 := n2_
           have BK268 := n3_
           have HB := n4_
           clear n0_ n1_ n2_ n3_ n4_
           (try clear hb)
           (try clear hb2)
           (try clear hk)
           (try clear hi)
           obtain ⟨Ao39, co39, eo39⟩ := Kd.R_slice HO256.out
           (first | subst eo39 | (injection eo39 with f1_ f2_ f3_; have f4_ := f1_.symm; have f5_ := f3_.symm; clear f1_ f2_ f3_; subst f4_; subst f5_))
           obtain ⟨Ao40, co40, eo40⟩ := Kd.R_slice HO264.out
           (first | subst eo40 | (injection eo40 with f1_ f2_ f3_; have f4_ := f1_.symm; have f5_ := f3_.symm; clear f1_ f2_ f3_; subst f4_; subst f5_))
           refine hK.out _ _ ⟨(blk_cell BK268.out 0).trans rfl, (blk_cell BK268.out 1).trans rfl⟩ (fun hHeld => ?_)
           clear hK K
           refine norm_ (a' := ?_) ?_ ?_
           rotate_left
           ·show Act.put _ (some 60) _ = _
            simp only [Act.put, List.setIfInBounds_toArray, List.set_cons_zero, List.set_cons_succ, i64_w, i32_w]
            rfl
           refine pure_ (i := 16) (N := some 61) #[true, true, true, true, true, true, true, true, true, true, true, true, true, true, true, true, true, false, false, false, false, false, false, false, false, false, false, false, false, false, false, false, false, false, false, false, false, false, false, false, false, false] rfl rfl (any_of HT_.out (by kernel_rfl)) (fun _ _ _ h => h) (Or.inl ⟨by rfl, fun w' => by go_simp; with_reducible rfl⟩) (by simp only [Act.put, List.setIfInBounds_toArray, List.set_cons_zero, List.set_cons_succ, i64_w, i32_w]; rfl) ?_
           refine pure_ (i := 17) (N := some 62) #[true, true, true, true, true, true, true, true, true, true, true, true, true, true, true, true, true, true, false, false, false, false, false, false, false, false, false, false, false, false, false, false, false, false, false, false, false, false, false, false, false, false] rfl rfl (any_of HT_.out (by kernel_rfl)) (fun _ _ _ h => h) (Or.inl ⟨by rfl, fun w' => by go_simp; with_reducible rfl⟩) (by simp only [Act.put, List.setIfInBounds_toArray, List.set_cons_zero, List.set_cons_succ, i64_w, i32_w]; rfl) ?_
           refine pure_ (i := 18) (N := some 63) #[true, true, true, true, true, true, true, true, true, true, true, true, true, true, true, true, true, true, true, false, false, false, false, false, false, false, false, false, false, false, false, false, false, false, false, false, false, false, false, false, false, false] rfl rfl (any_of HT_.out (by kernel_rfl)) (fun _ _ _ h => h) (Or.inl ⟨by rfl, fun w' => by go_simp; with_reducible rfl⟩) (by simp only [Act.put, List.setIfInBounds_toArray, List.set_cons_zero, List.set_cons_succ, i64_w, i32_w]; rfl) ?_
           refine pure_ (i := 19) (N := some 64) (v := undef) (a' := ?_) #[true, true, true, true, true, true, true, true, true, true, true, true, true, true, true, true, true, true, true, true, false, false, false, false, false, false, false, false, false, false, false, false, false, false, false, false, false, false, false, false, false, false] rfl rfl (any_of HT_.out (by kernel_rfl)) (fun _ _ _ h => h) (Or.inr ⟨by rfl, rfl⟩) ?_ ?_
           rotate_left
           ·simp only [Act.put, List.setIfInBounds_toArray, List.set_cons_zero, List.set_cons_succ, i64_w, i32_w]
            rfl
           refine pure_ (i := 20) (N := some 65) #[true, true, true, true, true, true, true, true, true, true, true, true, true, true, true, true, true, true, true, true, true, false, false, false, false, false, false, false, false, false, false, false, false, false, false, false, false, false, false, false, false, false] rfl rfl (any_of HT_.out (by kernel_rfl)) (fun _ _ _ h => h) (Or.inl ⟨by rfl, fun w' => by go_simp; with_reducible rfl⟩) (by simp only [Act.put, List.setIfInBounds_toArray, List.set_cons_zero, List.set_cons_succ, i64_w, i32_w]; rfl) ?_
           refine pure_ (i := 21) (N := some 66) #[true, true, true, true, true, true, true, true, true, true, true, true, true, true, true, true, true, true, true, true, true, true, false, false, false, false, false, false, false, false, false, false, false, false, false, false, false, false, false, false, false, false] rfl rfl (any_of HT_.out (by kernel_rfl)) (fun _ _ _ h => h) (Or.inl ⟨by rfl, fun w' => by go_simp; with_reducible rfl⟩) (by simp only [Act.put, List.setIfInBounds_toArray, List.set_cons_zero, List.set_cons_succ, i64_w, i32_w]; rfl) ?_
           refine pure_ (i := 22) (N := some 67) #[true, true, true, true, true, true, true, true, true, true, true, true, true, true, true, true, true, true, true, true, true, true, true, false, false, false, false, false, false, false, false, false, false, false, false, false, false, false, false, false, false, false] rfl rfl (any_of HT_.out (by kernel_rfl)) (fun _ _ _ h => h) (Or.inl ⟨by rfl, fun w' => by go_simp; with_reducible rfl⟩) (by simp only [Act.put, List.setIfInBounds_toArray, List.set_cons_zero, List.set_cons_succ, i64_w, i32_w]; rfl) ?_
           refine pure_ (i := 23) (N := some 68) #[true, true, true, true, true, true, true, true, true, true, true, true, true, true, true, true, true, true, true, true, true, true, true, true, false, false, false, false, false, false, false, false, false, false, false, false, false, false, false, false, false, false] rfl rfl (any_of HT_.out (by kernel_rfl)) (fun _ _ _ h => h) (Or.inl ⟨by rfl, fun w' => by go_simp; with_reducible rfl⟩) (by simp only [Act.put, List.setIfInBounds_toArray, List.set_cons_zero, List.set_cons_succ, i64_w, i32_w]; rfl) ?_
           refine pure_ (i := 24) (N := some 69) #[true, true, true, true, true, true, true, true, true, true, true, true, true, true, true, true, true, true, true, true, true, true, true, true, true, false, false, false, false, false, false, false, false, false, false, false, false, false, false, false, false, false] rfl rfl (any_of HT_.out (by kernel_rfl)) (fun _ _ _ h => h) (Or.inl ⟨by rfl, fun w' => by go_simp; with_reducible rfl⟩) (by simp only [Act.put, List.setIfInBounds_toArray, List.set_cons_zero, List.set_cons_succ, i64_w, i32_w]; rfl) ?_
           refine pure_ (i := 25) (N := some 70) #[true, true, true, true, true, true, true, true, true, true, true, true, true, true, true, true, true, true, true, true, true, true, true, true, true, true, false, false, false, false, false, false, false, false, false, false, false, false, false, false, false, false] rfl rfl (any_of HT_.out (by kernel_rfl)) (fun _ _ _ h => h) (Or.inl ⟨by rfl, fun w' => by go_simp; with_reducible rfl⟩) (by simp only [Act.put, List.setIfInBounds_toArray, List.set_cons_zero, List.set_cons_succ, i64_w, i32_w]; rfl) ?_
           refine pure_ (i := 26) (N := some 71) #[true, true, true, true, true, true, true, true, true, true, true, true, true, true, true, true, true, true, true, true, true, true, true, true, true, true, true, false, false, false, false, false, false, false, false, false, false, false, false, false, false, false] rfl rfl (any_of HT_.out (by kernel_rfl)) (fun _ _ _ h => h) (Or.inl ⟨by rfl, fun w' => by go_simp; with_reducible rfl⟩) (by simp only [Act.put, List.setIfInBounds_toArray, List.set_cons_zero, List.set_cons_succ, i64_w, i32_w]; rfl) ?_
           refine pure_ (i := 27) (N := some 72) #[true, true, true, true, true, true, true, true, true, true, true, true, true, true, true, true, true, true, true, true, true, true, true, true, true, true, true, true, false, false, false, false, false, false, false, false, false, false, false, false, false, false] rfl rfl (any_of HT_.out (by kernel_rfl)) (fun _ _ _ h => h) (Or.inl ⟨by rfl, fun w' => by go_simp; with_reducible rfl⟩) (by simp only [Act.put, List.setIfInBounds_toArray, List.set_cons_zero, List.set_cons_succ, i64_w, i32_w]; rfl) ?_
           refine pure_ (i := 28) (N := some 73) #[true, true, true, true, true, true, true, true, true, true, true, true, true, true, true, true, true, true, true, true, true, true, true, true, true, true, true, true, true, false, false, false, false, false, false, false, false, false, false, false, false, false] rfl rfl (any_of HT_.out (by kernel_rfl)) (fun _ _ _ h => h) (Or.inl ⟨by rfl, fun w' => by go_simp; with_reducible rfl⟩) (by simp only [Act.put, List.setIfInBounds_toArray, List.set_cons_zero, List.set_cons_succ, i64_w, i32_w]; rfl) ?_
           refine pure_ (i := 29) (N := some 74) (v := undef) (a' := ?_) #[true, true, true, true, true, true, true, true, true, true, true, true, true, true, true, true, true, true, true, true, true, true, true, true, true, true, true, true, true, true, false, false, false, false, false, false, false, false, false, false, false, false] rfl rfl (any_of HT_.out (by kernel_rfl)) (fun _ _ _ h => h) (Or.inr ⟨by rfl, rfl⟩) ?_ ?_
           rotate_left
           ·simp only [Act.put, List.setIfInBounds_toArray, List.set_cons_zero, List.set_cons_succ, i64_w, i32_w]
            rfl
           refine pure_ (i := 30) (N := some 75) #[true, true, true, true, true, true, true, true, true, true, true, true, true, true, true, true, true, true, true, true, true, true, true, true, true, true, true, true, true, true, true, false, false, false, false, false, false, false, false, false, false, false] rfl rfl (any_of HT_.out (by kernel_rfl)) (fun _ _ _ h => h) (Or.inl ⟨by rfl, fun w' => by go_simp; with_reducible rfl⟩) (by simp only [Act.put, List.setIfInBounds_toArray, List.set_cons_zero, List.set_cons_succ, i64_w, i32_w]; rfl) ?_
           refine pure_ (i := 31) (N := some 76) #[true, true, true, true, true, true, true, true, true, true, true, true, true, true, true, true, true, true, true, true, true, true, true, true, true, true, true, true, true, true, true, true, false, false, false, false, false, false, false, false, false, false] rfl rfl (any_of HT_.out (by kernel_rfl)) (fun _ _ _ h => h) (Or.inl ⟨by rfl, fun w' => by go_simp; with_reducible rfl⟩) (by simp only [Act.put, List.setIfInBounds_toArray, List.set_cons_zero, List.set_cons_succ, i64_w, i32_w]; rfl) ?_
           refine pure_ (i := 32) (N := some 77) #[true, true, true, true, true, true, true, true, true, true, true, true, true, true, true, true, true, true, true, true, true, true, true, true, true, true, true, true, true, true, true, true, true, false, false, false, false, false, false, false, false, false] rfl rfl (any_of HT_.out (by kernel_rfl)) (fun _ _ _ h => h) (Or.inl ⟨by rfl, fun w' => by go_simp; with_reducible rfl⟩) (by simp only [Act.put, List.setIfInBounds_toArray, List.set_cons_zero, List.set_cons_succ, i64_w, i32_w]; rfl) ?_
           refine pure_ (i := 33) (N := some 78) #[true, true, true, true, true, true, true, true, true, true, true, true, true, true, true, true, true, true, true, true, true, true, true, true, true, true, true, true, true, true, true, true, true, true, false, false, false, false, false, false, false, false] rfl rfl (any_of HT_.out (by kernel_rfl)) (fun _ _ _ h => h) (Or.inl ⟨by rfl, fun w' => by go_simp; with_reducible rfl⟩) (by simp only [Act.put, List.setIfInBounds_toArray, List.set_cons_zero, List.set_cons_succ, i64_w, i32_w]; rfl) ?_
           refine pure_ (i := 34) (N := some 79) #[true, true, true, true, true, true, true, true, true, true, true, true, true, true, true, true, true, true, true, true, true, true, true, true, true, true, true, true, true, true, true, true, true, true, true, false, false, false, false, false, false, false] rfl rfl (any_of HT_.out (by kernel_rfl)) (fun _ _ _ h => h) (Or.inl ⟨by rfl, fun w' => by go_simp; with_reducible rfl⟩) (by simp only [Act.put, List.setIfInBounds_toArray, List.set_cons_zero, List.set_cons_succ, i64_w, i32_w]; rfl) ?_
           refine pure_ (i := 35) (N := some 80) #[true, true, true, true, true, true, true, true, true, true, true, true, true, true, true, true, true, true, true, true, true, true, true, true, true, true, true, true, true, true, true, true, true, true, true, true, false, false, false, false, false, false] rfl rfl (any_of HT_.out (by kernel_rfl)) (fun _ _ _ h => h) (Or.inl ⟨by rfl, fun w' => by go_simp; with_reducible rfl⟩) (by simp only [Act.put, List.setIfInBounds_toArray, List.set_cons_zero, List.set_cons_succ, i64_w, i32_w]; rfl) ?_
           refine pure_ (i := 36) (N := some 81) #[true, true, true, true, true, true, true, true, true, true, true, true, true, true, true, true, true, true, true, true, true, true, true, true, true, true, true, true, true, true, true, true, true, true, true, true, true, false, false, false, false, false] rfl rfl (any_of HT_.out (by kernel_rfl)) (fun _ _ _ h => h) (Or.inl ⟨by rfl, fun w' => by go_simp; with_reducible rfl⟩) (by simp only [Act.put, List.setIfInBounds_toArray, List.set_cons_zero, List.set_cons_succ, i64_w, i32_w]; rfl) ?_
           refine pure_ (i := 37) (N := some 82) #[true, true, true, true, true, true, true, true, true, true, true, true, true, true, true, true, true, true, true, true, true, true, true, true, true, true, true, true, true, true, true, true, true, true, true, true, true, true, false, false, false, false] rfl rfl (any_of HT_.out (by kernel_rfl)) (fun _ _ _ h => h) (Or.inl ⟨by rfl, fun w' => by go_simp; with_reducible rfl⟩) (by simp only [Act.put, List.setIfInBounds_toArray, List.set_cons_zero, List.set_cons_succ, i64_w, i32_w]; rfl) ?_
           refine one_ (i := 38) (N := some 83) #[true, true, true, true, true, true, true, true, true, true, true, true, true, true, true, true, true, true, true, true, true, true, true, true, true, true, true, true, true, true, true, true, true, true, true, true, true, true, true, false, false, false] rfl rfl (one_of HT_.out (by kernel_rfl)) (by decide) (fun K hK => ?_)
           refine goes_ Try.func13 (by kernel_rfl) rfl #[.slice Ao39 t252.length co39, .slice Ao40 t262.length co40] (by rfl) rfl rfl (by (try simp only [List.map_toArray, List.map_cons, List.map_nil]); first | done | rfl | (simp only [List.length_drop, List.length_take]; rfl) | (simp only [*]; first | done | rfl)) ?_
           with_reducible refine (variorumref11_Ints.calls kj2 _ _ t252 _ _ t262 t270 _ ?side1 ?side2 ?side3 ?side4 A35.out).mono ?_
           (case side1 => exact cr_ (Kd.R_reads' HO256.out).2.2)
           (case side2 => exact (Kd.R_reads' HO256.out).2.1)
           (case side3 => exact cr_ (Kd.R_reads' HO264.out).2.2)
           (case side4 => exact (Kd.R_reads' HO264.out).2.1)
           rintro e w' ⟨rfl, ⟨nd, rfl⟩⟩
           refine ⟨_, rfl, ?_⟩
           refine hK.out _ _ ⟨(blk_cell BK268.out 0).trans rfl, (blk_cell BK268.out 1).trans rfl⟩ (fun hHeld => ?_)
           clear hK K
           refine norm_ (a' := ?_) ?_ ?_
           rotate_left
           ·show Act.put _ (some 83) _ = _
            simp only [Act.put, List.setIfInBounds_toArray, List.set_cons_zero, List.set_cons_succ, i64_w, i32_w]
            rfl
           refine pure_ (i := 39) (N := some 84) #[true, true, true, true, true, true, true, true, true, true, true, true, true, true, true, true, true, true, true, true, true, true, true, true, true, true, true, true, true, true, true, true, true, true, true, true, true, true, true, true, false, false] rfl rfl (any_of HT_.out (by kernel_rfl)) (fun _ _ _ h => h) (Or.inl ⟨by rfl, fun w' => by go_simp; with_reducible rfl⟩) (by simp only [Act.put, List.setIfInBounds_toArray, List.set_cons_zero, List.set_cons_succ, i64_w, i32_w]; rfl) ?_
           refine pure_ (i := 40) (N := some 85) #[true, true, true, true, true, true, true, true, true, true, true, true, true, true, true, true, true, true, true, true, true, true, true, true, true, true, true, true, true, true, true, true, true, true, true, true, true, true, true, true, true, false] rfl rfl (any_of HT_.out (by kernel_rfl)) (fun _ _ _ h => h) (Or.inl ⟨by rfl, fun w' => by go_simp; with_reducible rfl⟩) (by simp only [Act.put, List.setIfInBounds_toArray, List.set_cons_zero, List.set_cons_succ, i64_w, i32_w]; rfl) ?_
           refine pure_ (i := 41) (N := some 86) #[true, true, true, true, true, true, true, true, true, true, true, true, true, true, true, true, true, true, true, true, true, true, true, true, true, true, true, true, true, true, true, true, true, true, true, true, true, true, true, true, true, true] rfl rfl (any_of HT_.out (by kernel_rfl)) (fun _ _ _ h => h) (Or.inl ⟨by rfl, fun w' => by go_simp; with_reducible rfl⟩) (by simp only [Act.put, List.setIfInBounds_toArray, List.set_cons_zero, List.set_cons_succ, i64_w, i32_w]; rfl) ?_
           refine done_ (done_of HT_.out (by kernel_rfl)) ?_
           try go_wp2
           go_meet
           case rel => exact ⟨_, (!t270), (by first | rfl | (simp; done) | (simp [*]; done)), H', ⟨by have := HJ2.out; first | omega | exact Nat.le_refl _⟩, ⟨by (with_reducible repeat (first | apply Kd.R_alloc | apply Kd.R_drewN | apply Kd.R_drew)); exact Kd.R_mono HO264.out (fun _ hk => trivial)⟩, ⟨kv_ BK268.out⟩, ⟨bS1_ HB.out GE268.out⟩⟩
        ·replace c26 := Bool.eq_false_iff.mpr c26
         subst c26
         have H1 : (if ((t266 == 0) != false) = true then (variorumlaw11_BreakerForced.j1 kj2 l0 t262 true t266 t267) else (if (t265 != false) = true then (variorumlaw11_BreakerForced.j1 kj2 l0 t262 true t266 t267) else ((variorumref11_Ints.f kj2 t252 t262).bind fun t271 => (variorumlaw11_BreakerForced.j1 kj2 l0 t262 (!t271) t266 t267)))) = some r := by rw [if_neg (show ¬ (false = true) by decide)] at H; exact H
         clear H
         have H := H1
         clear H1
         by_cases c41 : ((t266 == 0) != false) = true
         ·rw [if_pos c41] at H
          have c41b0 : ((t266 == 0) != false) = true := c41
          (try (have c41b1 : decide ((t266 == 0) = false) = false := by simpa using c41))
          (try (have c41b2 : ((t266 == 0) == false) = false := by simpa using c41))
          (try (have c41b3 : ¬ ((t266 == 0) = false) := by simpa using c41))
          clear c41
          have H' := a_ H
          exact absurd H'.out (by rw [variorumlaw11_BreakerForced.j1.none_]; simp)
         ·rw [if_neg c41] at H
          have c41b0 : ((t266 == 0) != false) = false := by simpa using c41
          (try (have c41b1 : decide ((t266 == 0) = false) = true := by simpa using c41))
          (try (have c41b2 : ((t266 == 0) == false) = true := by simpa using c41))
          clear c41
          by_cases c45 : (t265 != false) = true
          ·rw [if_pos c45] at H
           have c45b0 : (t265 != false) = true := c45
           (try (have c45b1 : decide (t265 = false) = false := by simpa using c45))
           (try (have c45b2 : (t265 == false) = false := by simpa using c45))
           (try (have c45b3 : ¬ (t265 = false) := by simpa using c45))
           clear c45
           have H' := a_ H
           exact absurd H'.out (by rw [variorumlaw11_BreakerForced.j1.none_]; simp)
          ·rw [if_neg c45] at H
           have c45b0 : (t265 != false) = false := by simpa using c45
           (try (have c45b1 : decide (t265 = false) = true := by simpa using c45))
           (try (have c45b2 : (t265 == false) = true := by simpa using c45))
           clear c45
           replace H := Option.bind_eq_some_iff.mp H
           obtain ⟨t271, A490, H⟩ := H
           replace H : (variorumlaw11_BreakerForced.j1 kj2 l0 t262 (!t271) t266 t267) = some r := H
           have A49 := a_ A490
           clear A490
           have H' := a_ H
           clear H
           try go_wp2
           have n0_ : Aside0 (Kd.R (Kd.int .i64) 3 ((w18.setCell ⟨gb268, 0, none⟩ (.int .i64 t266)).setCell ⟨gb268, 1, none⟩ (.int .i64 t267)) w.heap.size (fun k_ => some k_ ≠ (v260 : Value).ownBlock ∧ some k_ ≠ (v263 : Value).ownBlock) v255 t252) := ⟨by (with_reducible repeat (first | apply Kd.R_alloc | apply Kd.R_drewN | apply Kd.R_drew)); exact Kd.R_mono (Kd.R_far (p := ⟨gb268, 1, none⟩) (Kd.R_far (p := ⟨gb268, 0, none⟩) (Kd.R_types HO256.out BK268.out (by decide)) (fun _ hk => hk.2) (.int .i64 t266)) (fun _ hk => hk.2) (.int .i64 t267)) (fun _ hk => ⟨hk.1.1.2, hk.1.2⟩)⟩
           have n1_ : Aside0 (Kd.R (Kd.int .i64) 3 ((w18.setCell ⟨gb268, 0, none⟩ (.int .i64 t266)).setCell ⟨gb268, 1, none⟩ (.int .i64 t267)) w.heap.size (fun k_ => some k_ ≠ (v255 : Value).ownBlock ∧ some k_ ≠ (v263 : Value).ownBlock) v260 t257) := ⟨by (with_reducible repeat (first | apply Kd.R_alloc | apply Kd.R_drewN | apply Kd.R_drew)); exact Kd.R_mono (Kd.R_far (p := ⟨gb268, 1, none⟩) (Kd.R_far (p := ⟨gb268, 0, none⟩) (Kd.R_types HO261.out BK268.out (by decide)) (fun _ hk => hk.2) (.int .i64 t266)) (fun _ hk => hk.2) (.int .i64 t267)) (fun _ hk => ⟨hk.1.1.2, hk.1.2⟩)⟩
           have n2_ : Aside0 (Kd.R (Kd.int .i64) 3 ((w18.setCell ⟨gb268, 0, none⟩ (.int .i64 t266)).setCell ⟨gb268, 1, none⟩ (.int .i64 t267)) w.heap.size (fun k_ => some k_ ≠ (v255 : Value).ownBlock ∧ some k_ ≠ (v260 : Value).ownBlock) v263 t262) := ⟨by (with_reducible repeat (first | apply Kd.R_alloc | apply Kd.R_drewN | apply Kd.R_drew)); exact Kd.R_mono (Kd.R_far (p := ⟨gb268, 1, none⟩) (Kd.R_far (p := ⟨gb268, 0, none⟩) (Kd.R_types HO264.out BK268.out (by decide)) (fun _ hk => hk.2) (.int .i64 t266)) (fun _ hk => hk.2) (.int .i64 t267)) (fun _ hk => ⟨hk.1.1.2, hk.1.2⟩)⟩
           have n3_ : Aside0 (((w18.setCell ⟨gb268, 0, none⟩ (.int .i64 t266)).setCell ⟨gb268, 1, none⟩ (.int .i64 t267)).heap[gb268]? = some (.cells #[.int .i64 t266, .int .i64 t267] 29 (0, 0))) := ⟨kp0_ BK268.out⟩
           have n4_ : Aside0 (Below w.heap.size w ((w18.setCell ⟨gb268, 0, none⟩ (.int .i64 t266)).setCell ⟨gb268, 1, none⟩ (.int .i64 t267))) := ⟨bS1_ HB.out GE268.out⟩
           (try clear HO256)
           (try clear HO261)
           (try clear HO264)
           (try clear BK268)
           (try clear HB)
           generalize ((w18.setCell ⟨gb268, 0, none⟩ (.int .i64 t266)).setCell ⟨gb268, 1, none⟩ (.int .i64 t267)) = w50 at n0_ n1_ n2_ n3_ n4_ ⊢
           have HO256 := n0_
           have HO261 := n1_
           have HO264 := n2_
           have BK268 := n3_
           have HB := n4_
           clear n0_ n1_ n2_ n3_ n4_
           have n0_ := a_ (Kd.R_drew HO256.out)
           have n1_ := a_ (Kd.R_drew HO261.out)
           have n2_ := a_ (Kd.R_drew HO264.out)
           have n3_ := a_ (blk_drew BK268.out)
           have n4_ := a_ (below_drew1 HB.out)
           clear HO256
           clear HO261
           clear HO264
           clear BK268
           clear HB
           have HO256 := n0_
           have HO261 := n1_
           have HO264 := n2_
           have BK268 := n3_
           have HB := n4_
           clear n0_ n1_ n2_ n3_ n4_
           refine start_ (n := 42) (S := fun w' => w'.cell? ⟨gb268, 0, none⟩ = some (.int .i64 t266) ∧ w'.cell? ⟨gb268, 1, none⟩ = some (.int .i64 t267)) (ds := []) #[false, false, false, false, false, false, false, false, false, false, false, false, false, false, false, false, false, false, false, false, false, false, false, false, false, false, false, false, false, false, false, false, false, false, false, false, false, false, false, false, false, false] (by kernel_rfl) rfl rfl ⟨(blk_cell BK268.out 0).trans rfl, (blk_cell BK268.out 1).trans rfl⟩ (fun hHeld => ?_); refine with_tabW variorumlaw11_BreakerForced.tab6 variorumlaw11_BreakerForced.bits6 (fun HT_ HW_ => ?_)
           generalize w50.drew = w51 at HO256 HO261 HO264 BK268 HB hHeld ⊢
           refine pure_ (i := 0) (N := some 45) #[true, false, false, false, false, false, false, false, false, false, false, false, false, false, false, false, false, false, false, false, false, false, false, false, false, false, false, false, false, false, false, false, false, false, false, false, false, false, false, false, false, false] rfl rfl (any_of HT_.out (by kernel_rfl)) (fun _ _ _ h => h) (Or.inl ⟨by rfl, fun w' => by go_simp; with_reducible rfl⟩) (by simp only [Act.put, List.setIfInBounds_toArray, List.set_cons_zero, List.set_cons_succ, i64_w, i32_w]; rfl) ?_
           refine pure_ (i := 1) (N := some 46) #[true, true, false, false, false, false, false, false, false, false, false, false, false, false, false, false, false, false, false, false, false, false, false, false, false, false, false, false, false, false, false, false, false, false, false, false, false, false, false, false, false, false] rfl rfl (any_of HT_.out (by kernel_rfl)) (fun _ _ _ h => h) (Or.inl ⟨by rfl, fun w' => by go_simp; with_reducible rfl⟩) (by simp only [Act.put, List.setIfInBounds_toArray, List.set_cons_zero, List.set_cons_succ, i64_w, i32_w]; rfl) ?_
           refine pure_ (i := 2) (N := some 47) #[true, true, true, false, false, false, false, false, false, false, false, false, false, false, false, false, false, false, false, false, false, false, false, false, false, false, false, false, false, false, false, false, false, false, false, false, false, false, false, false, false, false] rfl rfl (any_of HT_.out (by kernel_rfl)) (fun _ _ _ h => h) (Or.inl ⟨by rfl, fun w' => by go_simp; with_reducible rfl⟩) (by simp only [Act.put, List.setIfInBounds_toArray, List.set_cons_zero, List.set_cons_succ, i64_w, i32_w]; rfl) ?_
           refine pure_ (i := 3) (N := some 48) #[true, true, true, true, false, false, false, false, false, false, false, false, false, false, false, false, false, false, false, false, false, false, false, false, false, false, false, false, false, false, false, false, false, false, false, false, false, false, false, false, false, false] rfl rfl (any_of HT_.out (by kernel_rfl)) (fun _ _ _ h => h) (Or.inl ⟨by rfl, fun w' => by go_simp; with_reducible rfl⟩) (by simp only [Act.put, List.setIfInBounds_toArray, List.set_cons_zero, List.set_cons_succ, i64_w, i32_w]; rfl) ?_
           refine pure_ (i := 4) (N := some 49) #[true, true, true, true, true, false, false, false, false, false, false, false, false, false, false, false, false, false, false, false, false, false, false, false, false, false, false, false, false, false, false, false, false, false, false, false, false, false, false, false, false, false] rfl rfl (any_of HT_.out (by kernel_rfl)) (fun _ _ _ h => h) (Or.inl ⟨by rfl, fun w' => by go_simp; with_reducible rfl⟩) (by simp only [Act.put, List.setIfInBounds_toArray, List.set_cons_zero, List.set_cons_succ, i64_w, i32_w]; rfl) ?_
           refine pure_ (i := 5) (N := some 50) #[true, true, true, true, true, true, false, false, false, false, false, false, false, false, false, false, false, false, false, false, false, false, false, false, false, false, false, false, false, false, false, false, false, false, false, false, false, false, false, false, false, false] rfl rfl (any_of HT_.out (by kernel_rfl)) (fun _ _ _ h => h) (Or.inl ⟨by rfl, fun w' => by go_simp; with_reducible rfl⟩) (by simp only [Act.put, List.setIfInBounds_toArray, List.set_cons_zero, List.set_cons_succ, i64_w, i32_w]; rfl) ?_
           refine pure_ (i := 6) (N := some 51) #[true, true, true, true, true, true, true, false, false, false, false, false, false, false, false, false, false, false, false, false, false, false, false, false, false, false, false, false, false, false, false, false, false, false, false, false, false, false, false, false, false, false] rfl rfl (any_of HT_.out (by kernel_rfl)) (fun _ _ _ h => h) (Or.inl ⟨by rfl, fun w' => by go_simp; with_reducible rfl⟩) (by simp only [Act.put, List.setIfInBounds_toArray, List.set_cons_zero, List.set_cons_succ, i64_w, i32_w]; rfl) ?_
           refine pure_ (i := 7) (N := some 52) #[true, true, true, true, true, true, true, true, false, false, false, false, false, false, false, false, false, false, false, false, false, false, false, false, false, false, false, false, false, false, false, false, false, false, false, false, false, false, false, false, false, false] rfl rfl (any_of HT_.out (by kernel_rfl)) (fun _ _ _ h => h) (Or.inl ⟨by rfl, fun w' => by go_simp; with_reducible rfl⟩) (by simp only [Act.put, List.setIfInBounds_toArray, List.set_cons_zero, List.set_cons_succ, i64_w, i32_w]; rfl) ?_
           refine pure_ (i := 8) (N := some 53) #[true, true, true, true, true, true, true, true, true, false, false, false, false, false, false, false, false, false, false, false, false, false, false, false, false, false, false, false, false, false, false, false, false, false, false, false, false, false, false, false, false, false] rfl rfl (any_of HT_.out (by kernel_rfl)) (fun _ _ _ h => h) (Or.inl ⟨by rfl, fun w' => by go_simp; with_reducible rfl⟩) (by simp only [Act.put, List.setIfInBounds_toArray, List.set_cons_zero, List.set_cons_succ, i64_w, i32_w]; rfl) ?_
           refine pure_ (i := 9) (N := some 54) #[true, true, true, true, true, true, true, true, true, true, false, false, false, false, false, false, false, false, false, false, false, false, false, false, false, false, false, false, false, false, false, false, false, false, false, false, false, false, false, false, false, false] rfl rfl (any_of HT_.out (by kernel_rfl)) (fun _ _ _ h => h) (Or.inl ⟨by rfl, fun w' => by go_simp; with_reducible rfl⟩) (by simp only [Act.put, List.setIfInBounds_toArray, List.set_cons_zero, List.set_cons_succ, i64_w, i32_w]; rfl) ?_
           refine pure_ (i := 10) (N := some 55) #[true, true, true, true, true, true, true, true, true, true, true, false, false, false, false, false, false, false, false, false, false, false, false, false, false, false, false, false, false, false, false, false, false, false, false, false, false, false, false, false, false, false] rfl rfl (any_of HT_.out (by kernel_rfl)) (fun _ _ _ h => h) (Or.inl ⟨by rfl, fun w' => by go_simp; with_reducible rfl⟩) (by simp only [Act.put, List.setIfInBounds_toArray, List.set_cons_zero, List.set_cons_succ, i64_w, i32_w]; rfl) ?_
           refine pure_ (i := 11) (N := some 56) #[true, true, true, true, true, true, true, true, true, true, true, true, false, false, false, false, false, false, false, false, false, false, false, false, false, false, false, false, false, false, false, false, false, false, false, false, false, false, false, false, false, false] rfl rfl (any_of HT_.out (by kernel_rfl)) (fun _ _ _ h => h) (Or.inl ⟨by rfl, fun w' => by go_simp; with_reducible rfl⟩) (by simp only [Act.put, List.setIfInBounds_toArray, List.set_cons_zero, List.set_cons_succ, i64_w, i32_w]; rfl) ?_
           refine pure_ (i := 14) (N := some 59) #[true, true, true, true, true, true, true, true, true, true, true, true, false, false, true, false, false, false, false, false, false, false, false, false, false, false, false, false, false, false, false, false, false, false, false, false, false, false, false, false, false, false] rfl rfl (any_of HT_.out (by kernel_rfl)) (fun _ _ _ h => h) (Or.inl ⟨by rfl, fun w' => by go_simp; with_reducible rfl⟩) (by simp only [Act.put, List.setIfInBounds_toArray, List.set_cons_zero, List.set_cons_succ, i64_w, i32_w]; rfl) ?_
           refine take_ (i := 12) (N := some 57) (v := ?_) (a' := ?_) #[true, true, true, true, true, true, true, true, true, true, true, true, true, false, true, false, false, false, false, false, false, false, false, false, false, false, false, false, false, false, false, false, false, false, false, false, false, false, false, false, false, false] rfl rfl (take_ofW HT_.out HW_.out (by kernel_rfl)) (fun _ _ _ h => h) (Or.inl ⟨by rfl, ?_⟩) hHeld ?_ ?_
           rotate_left
           ·rintro w' ⟨s0, s1⟩
            go_simp
            with_reducible rfl
           rotate_left
           ·simp only [Act.put, List.setIfInBounds_toArray, List.set_cons_zero, List.set_cons_succ, i64_w, i32_w]
            rfl
           refine pure_ (i := 13) (N := some 58) #[true, true, true, true, true, true, true, true, true, true, true, true, true, true, true, false, false, false, false, false, false, false, false, false, false, false, false, false, false, false, false, false, false, false, false, false, false, false, false, false, false, false] rfl rfl (any_of HT_.out (by kernel_rfl)) (fun _ _ _ h => h) (Or.inl ⟨by rfl, fun w' => by go_simp; with_reducible rfl⟩) (by simp only [Act.put, List.setIfInBounds_toArray, List.set_cons_zero, List.set_cons_succ, i64_w, i32_w]; rfl) ?_
           refine one_ (i := 15) (N := some 60) #[true, true, true, true, true, true, true, true, true, true, true, true, true, true, true, true, false, false, false, false, false, false, false, false, false, false, false, false, false, false, false, false, false, false, false, false, false, false, false, false, false, false] rfl rfl (one_of HT_.out (by kernel_rfl)) (by decide) (fun K hK => ?_)
           refine goes_ Try.func14 (by kernel_rfl) rfl #[.slice A0 l0.length c0] (by rfl) rfl rfl (by (try simp only [List.map_toArray, List.map_cons, List.map_nil]); first | done | rfl | (simp only [List.length_drop, List.length_take]; rfl) | (simp only [*]; first | done | rfl)) ?_
           with_reducible refine (variorumref09_May.calls kj2 _ _ l0 false _ ?side1 ?side2 A25.out).mono ?_
           (case side1 => exact cw_ HR0.out HB.out)
           (case side2 => exact HC0.out)
           rintro e w52 ⟨rfl, hb⟩
           refine ⟨_, rfl, ?_⟩
           have n0_ := a_ (Kd.R_below (rv_ HO256.out) hb)
           have n1_ := a_ (Kd.R_below (rv_ HO261.out) hb)
           have n2_ := a_ (Kd.R_below (rv_ HO264.out) hb)
           have n3_ := a_ (kb_ BK268.out hb)
           have n4_ := a_ (below_step (bS1_ HB.out GE268.out) hb)
           clear HO256
           clear HO261
           clear HO264
           clear BK268
           clear HB
           have HO256 := n0_
           have HO261 := n1_
           have HO264 := n2_
           have BK268 := n3_
           have HB := n4_
           clear n0_ n1_ n2_ n3_ n4_
           (try clear hb)
           (try clear hb2)
           (try clear hk)
           (try clear hi)
           obtain ⟨Ao53, co53, eo53⟩ := Kd.R_slice HO256.out
           (first | subst eo53 | (injection eo53 with f1_ f2_ f3_; have f4_ := f1_.symm; have f5_ := f3_.symm; clear f1_ f2_ f3_; subst f4_; subst f5_))
           obtain ⟨Ao54, co54, eo54⟩ := Kd.R_slice HO264.out
           (first | subst eo54 | (injection eo54 with f1_ f2_ f3_; have f4_ := f1_.symm; have f5_ := f3_.symm; clear f1_ f2_ f3_; subst f4_; subst f5_))
           refine hK.out _ _ ⟨(blk_cell BK268.out 0).trans rfl, (blk_cell BK268.out 1).trans rfl⟩ (fun hHeld => ?_)
           clear hK K
           refine norm_ (a' := ?_) ?_ ?_
           rotate_left
           ·show Act.put _ (some 60) _ = _
            simp only [Act.put, List.setIfInBounds_toArray, List.set_cons_zero, List.set_cons_succ, i64_w, i32_w]
            rfl
           refine pure_ (i := 16) (N := some 61) #[true, true, true, true, true, true, true, true, true, true, true, true, true, true, true, true, true, false, false, false, false, false, false, false, false, false, false, false, false, false, false, false, false, false, false, false, false, false, false, false, false, false] rfl rfl (any_of HT_.out (by kernel_rfl)) (fun _ _ _ h => h) (Or.inl ⟨by rfl, fun w' => by go_simp; with_reducible rfl⟩) (by simp only [Act.put, List.setIfInBounds_toArray, List.set_cons_zero, List.set_cons_succ, i64_w, i32_w]; rfl) ?_
           refine pure_ (i := 17) (N := some 62) (v := undef) (a' := ?_) #[true, true, true, true, true, true, true, true, true, true, true, true, true, true, true, true, true, true, false, false, false, false, false, false, false, false, false, false, false, false, false, false, false, false, false, false, false, false, false, false, false, false] rfl rfl (any_of HT_.out (by kernel_rfl)) (fun _ _ _ h => h) (Or.inr ⟨by rfl, rfl⟩) ?_ ?_
           rotate_left
           ·simp only [Act.put, List.setIfInBounds_toArray, List.set_cons_zero, List.set_cons_succ, i64_w, i32_w]
            rfl
           refine pure_ (i := 18) (N := some 63) (v := undef) (a' := ?_) #[true, true, true, true, true, true, true, true, true, true, true, true, true, true, true, true, true, true, true, false, false, false, false, false, false, false, false, false, false, false, false, false, false, false, false, false, false, false, false, false, false, false] rfl rfl (any_of HT_.out (by kernel_rfl)) (fun _ _ _ h => h) (Or.inr ⟨by rfl, rfl⟩) ?_ ?_
           rotate_left
           ·simp only [Act.put, List.setIfInBounds_toArray, List.set_cons_zero, List.set_cons_succ, i64_w, i32_w]
            rfl
           refine pure_ (i := 19) (N := some 64) (v := undef) (a' := ?_) #[true, true, true, true, true, true, true, true, true, true, true, true, true, true, true, true, true, true, true, true, false, false, false, false, false, false, false, false, false, false, false, false, false, false, false, false, false, false, false, false, false, false] rfl rfl (any_of HT_.out (by kernel_rfl)) (fun _ _ _ h => h) (Or.inr ⟨by rfl, rfl⟩) ?_ ?_
           rotate_left
           ·simp only [Act.put, List.setIfInBounds_toArray, List.set_cons_zero, List.set_cons_succ, i64_w, i32_w]
            rfl
           refine pure_ (i := 20) (N := some 65) (v := undef) (a' := ?_) #[true, true, true, true, true, true, true, true, true, true, true, true, true, true, true, true, true, true, true, true, true, false, false, false, false, false, false, false, false, false, false, false, false, false, false, false, false, false, false, false, false, false] rfl rfl (any_of HT_.out (by kernel_rfl)) (fun _ _ _ h => h) (Or.inr ⟨by rfl, rfl⟩) ?_ ?_
           rotate_left
           ·simp only [Act.put, List.setIfInBounds_toArray, List.set_cons_zero, List.set_cons_succ, i64_w, i32_w]
            rfl
           refine pure_ (i := 21) (N := some 66) #[true, true, true, true, true, true, true, true, true, true, true, true, true, true, true, true, true, true, true, true, true, true, false, false, false, false, false, false, false, false, false, false, false, false, false, false, false, false, false, false, false, false] rfl rfl (any_of HT_.out (by kernel_rfl)) (fun _ _ _ h => h) (Or.inl ⟨by rfl, fun w' => by go_simp; with_reducible rfl⟩) (by simp only [Act.put, List.setIfInBounds_toArray, List.set_cons_zero, List.set_cons_succ, i64_w, i32_w]; rfl) ?_
           refine pure_ (i := 22) (N := some 67) #[true, true, true, true, true, true, true, true, true, true, true, true, true, true, true, true, true, true, true, true, true, true, true, false, false, false, false, false, false, false, false, false, false, false, false, false, false, false, false, false, false, false] rfl rfl (any_of HT_.out (by kernel_rfl)) (fun _ _ _ h => h) (Or.inl ⟨by rfl, fun w' => by go_simp; with_reducible rfl⟩) (by simp only [Act.put, List.setIfInBounds_toArray, List.set_cons_zero, List.set_cons_succ, i64_w, i32_w]; rfl) ?_
           refine pure_ (i := 23) (N := some 68) #[true, true, true, true, true, true, true, true, true, true, true, true, true, true, true, true, true, true, true, true, true, true, true, true, false, false, false, false, false, false, false, false, false, false, false, false, false, false, false, false, false, false] rfl rfl (any_of HT_.out (by kernel_rfl)) (fun _ _ _ h => h) (Or.inl ⟨by rfl, fun w' => by go_simp; with_reducible rfl⟩) (by simp only [Act.put, List.setIfInBounds_toArray, List.set_cons_zero, List.set_cons_succ, i64_w, i32_w]; rfl) ?_
           refine pure_ (i := 24) (N := some 69) #[true, true, true, true, true, true, true, true, true, true, true, true, true, true, true, true, true, true, true, true, true, true, true, true, true, false, false, false, false, false, false, false, false, false, false, false, false, false, false, false, false, false] rfl rfl (any_of HT_.out (by kernel_rfl)) (fun _ _ _ h => h) (Or.inl ⟨by rfl, fun w' => by go_simp; with_reducible rfl⟩) (by simp only [Act.put, List.setIfInBounds_toArray, List.set_cons_zero, List.set_cons_succ, i64_w, i32_w]; rfl) ?_
           refine pure_ (i := 25) (N := some 70) #[true, true, true, true, true, true, true, true, true, true, true, true, true, true, true, true, true, true, true, true, true, true, true, true, true, true, false, false, false, false, false, false, false, false, false, false, false, false, false, false, false, false] rfl rfl (any_of HT_.out (by kernel_rfl)) (fun _ _ _ h => h) (Or.inl ⟨by rfl, fun w' => by go_simp; with_reducible rfl⟩) (by simp only [Act.put, List.setIfInBounds_toArray, List.set_cons_zero, List.set_cons_succ, i64_w, i32_w]; rfl) ?_
           refine pure_ (i := 26) (N := some 71) #[true, true, true, true, true, true, true, true, true, true, true, true, true, true, true, true, true, true, true, true, true, true, true, true, true, true, true, false, false, false, false, false, false, false, false, false, false, false, false, false, false, false] rfl rfl (any_of HT_.out (by kernel_rfl)) (fun _ _ _ h => h) (Or.inl ⟨by rfl, fun w' => by go_simp; with_reducible rfl⟩) (by simp only [Act.put, List.setIfInBounds_toArray, List.set_cons_zero, List.set_cons_succ, i64_w, i32_w]; rfl) ?_
           refine pure_ (i := 27) (N := some 72) #[true, true, true, true, true, true, true, true, true, true, true, true, true, true, true, true, true, true, true, true, true, true, true, true, true, true, true, true, false, false, false, false, false, false, false, false, false, false, false, false, false, false] rfl rfl (any_of HT_.out (by kernel_rfl)) (fun _ _ _ h => h) (Or.inl ⟨by rfl, fun w' => by go_simp; with_reducible rfl⟩) (by simp only [Act.put, List.setIfInBounds_toArray, List.set_cons_zero, List.set_cons_succ, i64_w, i32_w]; rfl) ?_
           refine pure_ (i := 28) (N := some 73) #[true, true, true, true, true, true, true, true, true, true, true, true, true, true, true, true, true, true, true, true, true, true, true, true, true, true, true, true, true, false, false, false, false, false, false, false, false, false, false, false, false, false] rfl rfl (any_of HT_.out (by kernel_rfl)) (fun _ _ _ h => h) (Or.inl ⟨by rfl, fun w' => by go_simp; with_reducible rfl⟩) (by simp only [Act.put, List.setIfInBounds_toArray, List.set_cons_zero, List.set_cons_succ, i64_w, i32_w]; rfl) ?_
           refine pure_ (i := 29) (N := some 74) (v := undef) (a' := ?_) #[true, true, true, true, true, true, true, true, true, true, true, true, true, true, true, true, true, true, true, true, true, true, true, true, true, true, true, true, true, true, false, false, false, false, false, false, false, false, false, false, false, false] rfl rfl (any_of HT_.out (by kernel_rfl)) (fun _ _ _ h => h) (Or.inr ⟨by rfl, rfl⟩) ?_ ?_
           rotate_left
           ·simp only [Act.put, List.setIfInBounds_toArray, List.set_cons_zero, List.set_cons_succ, i64_w, i32_w]
            rfl
           refine pure_ (i := 30) (N := some 75) #[true, true, true, true, true, true, true, true, true, true, true, true, true, true, true, true, true, true, true, true, true, true, true, true, true, true, true, true, true, true, true, false, false, false, false, false, false, false, false, false, false, false] rfl rfl (any_of HT_.out (by kernel_rfl)) (fun _ _ _ h => h) (Or.inl ⟨by rfl, fun w' => by go_simp; with_reducible rfl⟩) (by simp only [Act.put, List.setIfInBounds_toArray, List.set_cons_zero, List.set_cons_succ, i64_w, i32_w]; rfl) ?_
           refine pure_ (i := 31) (N := some 76) #[true, true, true, true, true, true, true, true, true, true, true, true, true, true, true, true, true, true, true, true, true, true, true, true, true, true, true, true, true, true, true, true, false, false, false, false, false, false, false, false, false, false] rfl rfl (any_of HT_.out (by kernel_rfl)) (fun _ _ _ h => h) (Or.inl ⟨by rfl, fun w' => by go_simp; with_reducible rfl⟩) (by simp only [Act.put, List.setIfInBounds_toArray, List.set_cons_zero, List.set_cons_succ, i64_w, i32_w]; rfl) ?_
           refine pure_ (i := 32) (N := some 77) #[true, true, true, true, true, true, true, true, true, true, true, true, true, true, true, true, true, true, true, true, true, true, true, true, true, true, true, true, true, true, true, true, true, false, false, false, false, false, false, false, false, false] rfl rfl (any_of HT_.out (by kernel_rfl)) (fun _ _ _ h => h) (Or.inl ⟨by rfl, fun w' => by go_simp; with_reducible rfl⟩) (by simp only [Act.put, List.setIfInBounds_toArray, List.set_cons_zero, List.set_cons_succ, i64_w, i32_w]; rfl) ?_
           refine pure_ (i := 33) (N := some 78) #[true, true, true, true, true, true, true, true, true, true, true, true, true, true, true, true, true, true, true, true, true, true, true, true, true, true, true, true, true, true, true, true, true, true, false, false, false, false, false, false, false, false] rfl rfl (any_of HT_.out (by kernel_rfl)) (fun _ _ _ h => h) (Or.inl ⟨by rfl, fun w' => by go_simp; with_reducible rfl⟩) (by simp only [Act.put, List.setIfInBounds_toArray, List.set_cons_zero, List.set_cons_succ, i64_w, i32_w]; rfl) ?_
           refine pure_ (i := 34) (N := some 79) #[true, true, true, true, true, true, true, true, true, true, true, true, true, true, true, true, true, true, true, true, true, true, true, true, true, true, true, true, true, true, true, true, true, true, true, false, false, false, false, false, false, false] rfl rfl (any_of HT_.out (by kernel_rfl)) (fun _ _ _ h => h) (Or.inl ⟨by rfl, fun w' => by go_simp; with_reducible rfl⟩) (by simp only [Act.put, List.setIfInBounds_toArray, List.set_cons_zero, List.set_cons_succ, i64_w, i32_w]; rfl) ?_
           refine pure_ (i := 35) (N := some 80) #[true, true, true, true, true, true, true, true, true, true, true, true, true, true, true, true, true, true, true, true, true, true, true, true, true, true, true, true, true, true, true, true, true, true, true, true, false, false, false, false, false, false] rfl rfl (any_of HT_.out (by kernel_rfl)) (fun _ _ _ h => h) (Or.inl ⟨by rfl, fun w' => by go_simp; with_reducible rfl⟩) (by simp only [Act.put, List.setIfInBounds_toArray, List.set_cons_zero, List.set_cons_succ, i64_w, i32_w]; rfl) ?_
           refine pure_ (i := 36) (N := some 81) #[true, true, true, true, true, true, true, true, true, true, true, true, true, true, true, true, true, true, true, true, true, true, true, true, true, true, true, true, true, true, true, true, true, true, true, true, true, false, false, false, false, false] rfl rfl (any_of HT_.out (by kernel_rfl)) (fun _ _ _ h => h) (Or.inl ⟨by rfl, fun w' => by go_simp; with_reducible rfl⟩) (by simp only [Act.put, List.setIfInBounds_toArray, List.set_cons_zero, List.set_cons_succ, i64_w, i32_w]; rfl) ?_
           refine pure_ (i := 37) (N := some 82) #[true, true, true, true, true, true, true, true, true, true, true, true, true, true, true, true, true, true, true, true, true, true, true, true, true, true, true, true, true, true, true, true, true, true, true, true, true, true, false, false, false, false] rfl rfl (any_of HT_.out (by kernel_rfl)) (fun _ _ _ h => h) (Or.inl ⟨by rfl, fun w' => by go_simp; with_reducible rfl⟩) (by simp only [Act.put, List.setIfInBounds_toArray, List.set_cons_zero, List.set_cons_succ, i64_w, i32_w]; rfl) ?_
           refine one_ (i := 38) (N := some 83) #[true, true, true, true, true, true, true, true, true, true, true, true, true, true, true, true, true, true, true, true, true, true, true, true, true, true, true, true, true, true, true, true, true, true, true, true, true, true, true, false, false, false] rfl rfl (one_of HT_.out (by kernel_rfl)) (by decide) (fun K hK => ?_)
           refine goes_ Try.func13 (by kernel_rfl) rfl #[.slice Ao53 t252.length co53, .slice Ao54 t262.length co54] (by rfl) rfl rfl (by (try simp only [List.map_toArray, List.map_cons, List.map_nil]); first | done | rfl | (simp only [List.length_drop, List.length_take]; rfl) | (simp only [*]; first | done | rfl)) ?_
           with_reducible refine (variorumref11_Ints.calls kj2 _ _ t252 _ _ t262 t271 _ ?side1 ?side2 ?side3 ?side4 A49.out).mono ?_
           (case side1 => exact cr_ (Kd.R_reads' HO256.out).2.2)
           (case side2 => exact (Kd.R_reads' HO256.out).2.1)
           (case side3 => exact cr_ (Kd.R_reads' HO264.out).2.2)
           (case side4 => exact (Kd.R_reads' HO264.out).2.1)
           rintro e w' ⟨rfl, ⟨nd, rfl⟩⟩
           refine ⟨_, rfl, ?_⟩
           refine hK.out _ _ ⟨(blk_cell BK268.out 0).trans rfl, (blk_cell BK268.out 1).trans rfl⟩ (fun hHeld => ?_)
           clear hK K
           refine norm_ (a' := ?_) ?_ ?_
           rotate_left
           ·show Act.put _ (some 83) _ = _
            simp only [Act.put, List.setIfInBounds_toArray, List.set_cons_zero, List.set_cons_succ, i64_w, i32_w]
            rfl
           refine pure_ (i := 39) (N := some 84) #[true, true, true, true, true, true, true, true, true, true, true, true, true, true, true, true, true, true, true, true, true, true, true, true, true, true, true, true, true, true, true, true, true, true, true, true, true, true, true, true, false, false] rfl rfl (any_of HT_.out (by kernel_rfl)) (fun _ _ _ h => h) (Or.inl ⟨by rfl, fun w' => by go_simp; with_reducible rfl⟩) (by simp only [Act.put, List.setIfInBounds_toArray, List.set_cons_zero, List.set_cons_succ, i64_w, i32_w]; rfl) ?_
           refine pure_ (i := 40) (N := some 85) #[true, true, true, true, true, true, true, true, true, true, true, true, true, true, true, true, true, true, true, true, true, true, true, true, true, true, true, true, true, true, true, true, true, true, true, true, true, true, true, true, true, false] rfl rfl (any_of HT_.out (by kernel_rfl)) (fun _ _ _ h => h) (Or.inl ⟨by rfl, fun w' => by go_simp; with_reducible rfl⟩) (by simp only [Act.put, List.setIfInBounds_toArray, List.set_cons_zero, List.set_cons_succ, i64_w, i32_w]; rfl) ?_
           refine pure_ (i := 41) (N := some 86) #[true, true, true, true, true, true, true, true, true, true, true, true, true, true, true, true, true, true, true, true, true, true, true, true, true, true, true, true, true, true, true, true, true, true, true, true, true, true, true, true, true, true] rfl rfl (any_of HT_.out (by kernel_rfl)) (fun _ _ _ h => h) (Or.inl ⟨by rfl, fun w' => by go_simp; with_reducible rfl⟩) (by simp only [Act.put, List.setIfInBounds_toArray, List.set_cons_zero, List.set_cons_succ, i64_w, i32_w]; rfl) ?_
           refine done_ (done_of HT_.out (by kernel_rfl)) ?_
           try go_wp2
           go_meet
           case rel => exact ⟨_, (!t271), (by first | rfl | (simp; done) | (simp [*]; done)), H', ⟨by have := HJ2.out; first | omega | exact Nat.le_refl _⟩, ⟨by (with_reducible repeat (first | apply Kd.R_alloc | apply Kd.R_drewN | apply Kd.R_drew)); exact Kd.R_mono HO264.out (fun _ hk => trivial)⟩, ⟨kv_ BK268.out⟩, ⟨bS1_ HB.out GE268.out⟩⟩
      ·replace c21 := Bool.eq_false_iff.mpr c21
       subst c21
       have H1 : (variorumlaw11_BreakerForced.j1 kj2 l0 t262 true t266 t267) = some r := by rw [if_neg (show ¬ (false = true) by decide)] at H; exact H
       clear H
       have H := H1
       clear H1
       have H' := a_ H
       exact absurd H'.out (by rw [variorumlaw11_BreakerForced.j1.none_]; simp)
     ·replace c20 := Bool.eq_false_iff.mpr c20
      subst c20
      have H1 : ((variorumref09_May.f kj2 l0).bind fun t272 => (if t272 = true then (if ((t266 == 0) != t259) = true then (variorumlaw11_BreakerForced.j1 kj2 l0 t262 true t266 t267) else (if (t265 != t259) = true then (variorumlaw11_BreakerForced.j1 kj2 l0 t262 true t266 t267) else (variorumlaw11_BreakerForced.j1 kj2 l0 t262 false t266 t267))) else (if ((t266 == 0) != false) = true then (variorumlaw11_BreakerForced.j1 kj2 l0 t262 true t266 t267) else (if (t265 != t259) = true then (variorumlaw11_BreakerForced.j1 kj2 l0 t262 true t266 t267) else (variorumlaw11_BreakerForced.j1 kj2 l0 t262 false t266 t267))))) = some r := by rw [if_neg (show ¬ (false = true) by decide)] at H; exact H
      clear H
      have H := H1
      clear H1
      replace H := Option.bind_eq_some_iff.mp H
      obtain ⟨t272, A570, H⟩ := H
      replace H : (if t272 = true then (if ((t266 == 0) != t259) = true then (variorumlaw11_BreakerForced.j1 kj2 l0 t262 true t266 t267) else (if (t265 != t259) = true then (variorumlaw11_BreakerForced.j1 kj2 l0 t262 true t266 t267) else (variorumlaw11_BreakerForced.j1 kj2 l0 t262 false t266 t267))) else (if ((t266 == 0) != false) = true then (variorumlaw11_BreakerForced.j1 kj2 l0 t262 true t266 t267) else (if (t265 != t259) = true then (variorumlaw11_BreakerForced.j1 kj2 l0 t262 true t266 t267) else (variorumlaw11_BreakerForced.j1 kj2 l0 t262 false t266 t267)))) = some r := H
      have A57 := a_ A570
      clear A570
      by_cases c58 : t272 = true
      ·subst c58
       have H1 : (if ((t266 == 0) != t259) = true then (variorumlaw11_BreakerForced.j1 kj2 l0 t262 true t266 t267) else (if (t265 != t259) = true then (variorumlaw11_BreakerForced.j1 kj2 l0 t262 true t266 t267) else (variorumlaw11_BreakerForced.j1 kj2 l0 t262 false t266 t267))) = some r := by rw [if_pos rfl] at H; exact H
       clear H
       have H := H1
       clear H1
       by_cases c59 : ((t266 == 0) != t259) = true
       ·rw [if_pos c59] at H
        have c59b0 : ((t266 == 0) != t259) = true := c59
        (try (have c59b1 : decide ((t266 == 0) = t259) = false := by simpa using c59))
        (try (have c59b2 : ((t266 == 0) == t259) = false := by simpa using c59))
        (try (have c59b3 : ¬ ((t266 == 0) = t259) := by simpa using c59))
        clear c59
        have H' := a_ H
        exact absurd H'.out (by rw [variorumlaw11_BreakerForced.j1.none_]; simp)
       ·rw [if_neg c59] at H
        have c59b0 : ((t266 == 0) != t259) = false := by simpa using c59
        (try (have c59b1 : decide ((t266 == 0) = t259) = true := by simpa using c59))
        (try (have c59b2 : ((t266 == 0) == t259) = true := by simpa using c59))
        clear c59
        by_cases c63 : (t265 != t259) = true
        ·rw [if_pos c63] at H
         have c63b0 : (t265 != t259) = true := c63
         (try (have c63b1 : decide (t265 = t259) = false := by simpa using c63))
         (try (have c63b2 : (t265 == t259) = false := by simpa using c63))
         (try (have c63b3 : ¬ (t265 = t259) := by simpa using c63))
         clear c63
         have H' := a_ H
         exact absurd H'.out (by rw [variorumlaw11_BreakerForced.j1.none_]; simp)
        ·rw [if_neg c63] at H
         have c63b0 : (t265 != t259) = false := by simpa using c63
         (try (have c63b1 : decide (t265 = t259) = true := by simpa using c63))
         (try (have c63b2 : (t265 == t259) = true := by simpa using c63))
         clear c63
         have H' := a_ H
         clear H
         try go_wp2
         have n0_ : Aside0 (Kd.R (Kd.int .i64) 3 ((w18.setCell ⟨gb268, 0, none⟩ (.int .i64 t266)).setCell ⟨gb268, 1, none⟩ (.int .i64 t267)) w.heap.size (fun k_ => some k_ ≠ (v260 : Value).ownBlock ∧ some k_ ≠ (v263 : Value).ownBlock) v255 t252) := ⟨by (with_reducible repeat (first | apply Kd.R_alloc | apply Kd.R_drewN | apply Kd.R_drew)); exact Kd.R_mono (Kd.R_far (p := ⟨gb268, 1, none⟩) (Kd.R_far (p := ⟨gb268, 0, none⟩) (Kd.R_types HO256.out BK268.out (by decide)) (fun _ hk => hk.2) (.int .i64 t266)) (fun _ hk => hk.2) (.int .i64 t267)) (fun _ hk => ⟨hk.1.1.2, hk.1.2⟩)⟩
         have n1_ : Aside0 (Kd.R (Kd.int .i64) 3 ((w18.setCell ⟨gb268, 0, none⟩ (.int .i64 t266)).setCell ⟨gb268, 1, none⟩ (.int .i64 t267)) w.heap.size (fun k_ => some k_ ≠ (v255 : Value).ownBlock ∧ some k_ ≠ (v263 : Value).ownBlock) v260 t257) := ⟨by (with_reducible repeat (first | apply Kd.R_alloc | apply Kd.R_drewN | apply Kd.R_drew)); exact Kd.R_mono (Kd.R_far (p := ⟨gb268, 1, none⟩) (Kd.R_far (p := ⟨gb268, 0, none⟩) (Kd.R_types HO261.out BK268.out (by decide)) (fun _ hk => hk.2) (.int .i64 t266)) (fun _ hk => hk.2) (.int .i64 t267)) (fun _ hk => ⟨hk.1.1.2, hk.1.2⟩)⟩
         have n2_ : Aside0 (Kd.R (Kd.int .i64) 3 ((w18.setCell ⟨gb268, 0, none⟩ (.int .i64 t266)).setCell ⟨gb268, 1, none⟩ (.int .i64 t267)) w.heap.size (fun k_ => some k_ ≠ (v255 : Value).ownBlock ∧ some k_ ≠ (v260 : Value).ownBlock) v263 t262) := ⟨by (with_reducible repeat (first | apply Kd.R_alloc | apply Kd.R_drewN | apply Kd.R_drew)); exact Kd.R_mono (Kd.R_far (p := ⟨gb268, 1, none⟩) (Kd.R_far (p := ⟨gb268, 0, none⟩) (Kd.R_types HO264.out BK268.out (by decide)) (fun _ hk => hk.2) (.int .i64 t266)) (fun _ hk => hk.2) (.int .i64 t267)) (fun _ hk => ⟨hk.1.1.2, hk.1.2⟩)⟩
         have n3_ : Aside0 (((w18.setCell ⟨gb268, 0, none⟩ (.int .i64 t266)).setCell ⟨gb268, 1, none⟩ (.int .i64 t267)).heap[gb268]? = some (.cells #[.int .i64 t266, .int .i64 t267] 29 (0, 0))) := ⟨kp0_ BK268.out⟩
         have n4_ : Aside0 (Below w.heap.size w ((w18.setCell ⟨gb268, 0, none⟩ (.int .i64 t266)).setCell ⟨gb268, 1, none⟩ (.int .i64 t267))) := ⟨bS1_ HB.out GE268.out⟩
         (try clear HO256)
         (try clear HO261)
         (try clear HO264)
         (try clear BK268)
         (try clear HB)
         generalize ((w18.setCell ⟨gb268, 0, none⟩ (.int .i64 t266)).setCell ⟨gb268, 1, none⟩ (.int .i64 t267)) = w67 at n0_ n1_ n2_ n3_ n4_ ⊢
         have HO256 := n0_
         have HO261 := n1_
         have HO264 := n2_
         have BK268 := n3_
         have HB := n4_
         clear n0_ n1_ n2_ n3_ n4_
         have n0_ := a_ (Kd.R_drew HO256.out)
         have n1_ := a_ (Kd.R_drew HO261.out)
         have n2_ := a_ (Kd.R_drew HO264.out)
         have n3_ := a_ (blk_drew BK268.out)
         have n4_ := a_ (below_drew1 HB.out)
         clear HO256
         clear HO261
         clear HO264
         clear BK268
         clear HB
         have HO256 := n0_
         have HO261 := n1_
         have HO264 := n2_
         have BK268 := n3_
         have HB := n4_
         clear n0_ n1_ n2_ n3_ n4_
         refine start_ (n := 42) (S := fun w' => w'.cell? ⟨gb268, 0, none⟩ = some (.int .i64 t266) ∧ w'.cell? ⟨gb268, 1, none⟩ = some (.int .i64 t267)) (ds := []) #[false, false, false, false, false, false, false, false, false, false, false, false, false, false, false, false, false, false, false, false, false, false, false, false, false, false, false, false, false, false, false, false, false, false, false, false, false, false, false, false, false, false] (by kernel_rfl) rfl rfl ⟨(blk_cell BK268.out 0).trans rfl, (blk_cell BK268.out 1).trans rfl⟩ (fun hHeld => ?_); refine with_tabW variorumlaw11_BreakerForced.tab6 variorumlaw11_BreakerForced.bits6 (fun HT_ HW_ => ?_)
         generalize w67.drew = w68 at HO256 HO261 HO264 BK268 HB hHeld ⊢
         refine pure_ (i := 0) (N := some 45) #[true, false, false, false, false, false, false, false, false, false, false, false, false, false, false, false, false, false, false, false, false, false, false, false, false, false, false, false, false, false, false, false, false, false, false, false, false, false, false, false, false, false] rfl rfl (any_of HT_.out (by kernel_rfl)) (fun _ _ _ h => h) (Or.inl ⟨by rfl, fun w' => by go_simp; with_reducible rfl⟩) (by simp only [Act.put, List.setIfInBounds_toArray, List.set_cons_zero, List.set_cons_succ, i64_w, i32_w]; rfl) ?_
         refine pure_ (i := 1) (N := some 46) #[true, true, false, false, false, false, false, false, false, false, false, false, false, false, false, false, false, false, false, false, false, false, false, false, false, false, false, false, false, false, false, false, false, false, false, false, false, false, false, false, false, false] rfl rfl (any_of HT_.out (by kernel_rfl)) (fun _ _ _ h => h) (Or.inl ⟨by rfl, fun w' => by go_simp; with_reducible rfl⟩) (by simp only [Act.put, List.setIfInBounds_toArray, List.set_cons_zero, List.set_cons_succ, i64_w, i32_w]; rfl) ?_
         refine pure_ (i := 2) (N := some 47) (v := undef) (a' := ?_) #[true, true, true, false, false, false, false, false, false, false, false, false, false, false, false, false, false, false, false, false, false, false, false, false, false, false, false, false, false, false, false, false, false, false, false, false, false, false, false, false, false, false] rfl rfl (any_of HT_.out (by kernel_rfl)) (fun _ _ _ h => h) (Or.inr ⟨by rfl, rfl⟩) ?_ ?_
         rotate_left
         ·simp only [Act.put, List.setIfInBounds_toArray, List.set_cons_zero, List.set_cons_succ, i64_w, i32_w]
          rfl
         refine pure_ (i := 3) (N := some 48) (v := undef) (a' := ?_) #[true, true, true, true, false, false, false, false, false, false, false, false, false, false, false, false, false, false, false, false, false, false, false, false, false, false, false, false, false, false, false, false, false, false, false, false, false, false, false, false, false, false] rfl rfl (any_of HT_.out (by kernel_rfl)) (fun _ _ _ h => h) (Or.inr ⟨by rfl, rfl⟩) ?_ ?_
         rotate_left
         ·simp only [Act.put, List.setIfInBounds_toArray, List.set_cons_zero, List.set_cons_succ, i64_w, i32_w]
          rfl
         refine pure_ (i := 4) (N := some 49) (v := undef) (a' := ?_) #[true, true, true, true, true, false, false, false, false, false, false, false, false, false, false, false, false, false, false, false, false, false, false, false, false, false, false, false, false, false, false, false, false, false, false, false, false, false, false, false, false, false] rfl rfl (any_of HT_.out (by kernel_rfl)) (fun _ _ _ h => h) (Or.inr ⟨by rfl, rfl⟩) ?_ ?_
         rotate_left
         ·simp only [Act.put, List.setIfInBounds_toArray, List.set_cons_zero, List.set_cons_succ, i64_w, i32_w]
          rfl
         refine pure_ (i := 5) (N := some 50) (v := undef) (a' := ?_) #[true, true, true, true, true, true, false, false, false, false, false, false, false, false, false, false, false, false, false, false, false, false, false, false, false, false, false, false, false, false, false, false, false, false, false, false, false, false, false, false, false, false] rfl rfl (any_of HT_.out (by kernel_rfl)) (fun _ _ _ h => h) (Or.inr ⟨by rfl, rfl⟩) ?_ ?_
         rotate_left
         ·simp only [Act.put, List.setIfInBounds_toArray, List.set_cons_zero, List.set_cons_succ, i64_w, i32_w]
          rfl
         refine pure_ (i := 6) (N := some 51) (v := undef) (a' := ?_) #[true, true, true, true, true, true, true, false, false, false, false, false, false, false, false, false, false, false, false, false, false, false, false, false, false, false, false, false, false, false, false, false, false, false, false, false, false, false, false, false, false, false] rfl rfl (any_of HT_.out (by kernel_rfl)) (fun _ _ _ h => h) (Or.inr ⟨by rfl, rfl⟩) ?_ ?_
         rotate_left
         ·simp only [Act.put, List.setIfInBounds_toArray, List.set_cons_zero, List.set_cons_succ, i64_w, i32_w]
          rfl
         refine pure_ (i := 7) (N := some 52) (v := undef) (a' := ?_) #[true, true, true, true, true, true, true, true, false, false, false, false, false, false, false, false, false, false, false, false, false, false, false, false, false, false, false, false, false, false, false, false, false, false, false, false, false, false, false, false, false, false] rfl rfl (any_of HT_.out (by kernel_rfl)) (fun _ _ _ h => h) (Or.inr ⟨by rfl, rfl⟩) ?_ ?_
         rotate_left
         ·simp only [Act.put, List.setIfInBounds_toArray, List.set_cons_zero, List.set_cons_succ, i64_w, i32_w]
          rfl
         refine pure_ (i := 8) (N := some 53) (v := undef) (a' := ?_) #[true, true, true, true, true, true, true, true, true, false, false, false, false, false, false, false, false, false, false, false, false, false, false, false, false, false, false, false, false, false, false, false, false, false, false, false, false, false, false, false, false, false] rfl rfl (any_of HT_.out (by kernel_rfl)) (fun _ _ _ h => h) (Or.inr ⟨by rfl, rfl⟩) ?_ ?_
         rotate_left
         ·simp only [Act.put, List.setIfInBounds_toArray, List.set_cons_zero, List.set_cons_succ, i64_w, i32_w]
          rfl
         refine pure_ (i := 9) (N := some 54) #[true, true, true, true, true, true, true, true, true, true, false, false, false, false, false, false, false, false, false, false, false, false, false, false, false, false, false, false, false, false, false, false, false, false, false, false, false, false, false, false, false, false] rfl rfl (any_of HT_.out (by kernel_rfl)) (fun _ _ _ h => h) (Or.inl ⟨by rfl, fun w' => by go_simp; with_reducible rfl⟩) (by simp only [Act.put, List.setIfInBounds_toArray, List.set_cons_zero, List.set_cons_succ, i64_w, i32_w]; rfl) ?_
         refine pure_ (i := 10) (N := some 55) #[true, true, true, true, true, true, true, true, true, true, true, false, false, false, false, false, false, false, false, false, false, false, false, false, false, false, false, false, false, false, false, false, false, false, false, false, false, false, false, false, false, false] rfl rfl (any_of HT_.out (by kernel_rfl)) (fun _ _ _ h => h) (Or.inl ⟨by rfl, fun w' => by go_simp; with_reducible rfl⟩) (by simp only [Act.put, List.setIfInBounds_toArray, List.set_cons_zero, List.set_cons_succ, i64_w, i32_w]; rfl) ?_
         refine pure_ (i := 11) (N := some 56) #[true, true, true, true, true, true, true, true, true, true, true, true, false, false, false, false, false, false, false, false, false, false, false, false, false, false, false, false, false, false, false, false, false, false, false, false, false, false, false, false, false, false] rfl rfl (any_of HT_.out (by kernel_rfl)) (fun _ _ _ h => h) (Or.inl ⟨by rfl, fun w' => by go_simp; with_reducible rfl⟩) (by simp only [Act.put, List.setIfInBounds_toArray, List.set_cons_zero, List.set_cons_succ, i64_w, i32_w]; rfl) ?_
         refine pure_ (i := 14) (N := some 59) #[true, true, true, true, true, true, true, true, true, true, true, true, false, false, true, false, false, false, false, false, false, false, false, false, false, false, false, false, false, false, false, false, false, false, false, false, false, false, false, false, false, false] rfl rfl (any_of HT_.out (by kernel_rfl)) (fun _ _ _ h => h) (Or.inl ⟨by rfl, fun w' => by go_simp; with_reducible rfl⟩) (by simp only [Act.put, List.setIfInBounds_toArray, List.set_cons_zero, List.set_cons_succ, i64_w, i32_w]; rfl) ?_
         refine take_ (i := 12) (N := some 57) (v := ?_) (a' := ?_) #[true, true, true, true, true, true, true, true, true, true, true, true, true, false, true, false, false, false, false, false, false, false, false, false, false, false, false, false, false, false, false, false, false, false, false, false, false, false, false, false, false, false] rfl rfl (take_ofW HT_.out HW_.out (by kernel_rfl)) (fun _ _ _ h => h) (Or.inl ⟨by rfl, ?_⟩) hHeld ?_ ?_
         rotate_left
         ·rintro w' ⟨s0, s1⟩
          go_simp
          with_reducible rfl
         rotate_left
         ·simp only [Act.put, List.setIfInBounds_toArray, List.set_cons_zero, List.set_cons_succ, i64_w, i32_w]
          rfl
         refine pure_ (i := 13) (N := some 58) #[true, true, true, true, true, true, true, true, true, true, true, true, true, true, true, false, false, false, false, false, false, false, false, false, false, false, false, false, false, false, false, false, false, false, false, false, false, false, false, false, false, false] rfl rfl (any_of HT_.out (by kernel_rfl)) (fun _ _ _ h => h) (Or.inl ⟨by rfl, fun w' => by go_simp; with_reducible rfl⟩) (by simp only [Act.put, List.setIfInBounds_toArray, List.set_cons_zero, List.set_cons_succ, i64_w, i32_w]; rfl) ?_
         refine one_ (i := 15) (N := some 60) #[true, true, true, true, true, true, true, true, true, true, true, true, true, true, true, true, false, false, false, false, false, false, false, false, false, false, false, false, false, false, false, false, false, false, false, false, false, false, false, false, false, false] rfl rfl (one_of HT_.out (by kernel_rfl)) (by decide) (fun K hK => ?_)
         refine goes_ Try.func14 (by kernel_rfl) rfl #[.slice A0 l0.length c0] (by rfl) rfl rfl (by (try simp only [List.map_toArray, List.map_cons, List.map_nil]); first | done | rfl | (simp only [List.length_drop, List.length_take]; rfl) | (simp only [*]; first | done | rfl)) ?_
         with_reducible refine (variorumref09_May.calls kj2 _ _ l0 true _ ?side1 ?side2 A57.out).mono ?_
         (case side1 => exact cw_ HR0.out HB.out)
         (case side2 => exact HC0.out)
         rintro e w69 ⟨rfl, hb⟩
         refine ⟨_, rfl, ?_⟩
         have n0_ := a_ (Kd.R_below (rv_ HO256.out) hb)
         have n1_ := a_ (Kd.R_below (rv_ HO261.out) hb)
         have n2_ := a_ (Kd.R_below (rv_ HO264.out) hb)
         have n3_ := a_ (kb_ BK268.out hb)
         have n4_ := a_ (below_step (bS1_ HB.out GE268.out) hb)
         clear HO256
         clear HO261
         clear HO264
         clear BK268
         clear HB
         have HO256 := n0_
         have HO261 := n1_
         have HO264 := n2_
         have BK268 := n3_
         have HB := n4_
         clear n0_ n1_ n2_ n3_ n4_
         (try clear hb)
         (try clear hb2)
         (try clear hk)
         (try clear hi)
         refine hK.out _ _ ⟨(blk_cell BK268.out 0).trans rfl, (blk_cell BK268.out 1).trans rfl⟩ (fun hHeld => ?_)
         clear hK K
         refine norm_ (a' := ?_) ?_ ?_
         rotate_left
         ·show Act.put _ (some 60) _ = _
          simp only [Act.put, List.setIfInBounds_toArray, List.set_cons_zero, List.set_cons_succ, i64_w, i32_w]
          rfl
         refine pure_ (i := 16) (N := some 61) #[true, true, true, true, true, true, true, true, true, true, true, true, true, true, true, true, true, false, false, false, false, false, false, false, false, false, false, false, false, false, false, false, false, false, false, false, false, false, false, false, false, false] rfl rfl (any_of HT_.out (by kernel_rfl)) (fun _ _ _ h => h) (Or.inl ⟨by rfl, fun w' => by go_simp; with_reducible rfl⟩) (by simp only [Act.put, List.setIfInBounds_toArray, List.set_cons_zero, List.set_cons_succ, i64_w, i32_w]; rfl) ?_
         refine pure_ (i := 17) (N := some 62) #[true, true, true, true, true, true, true, true, true, true, true, true, true, true, true, true, true, true, false, false, false, false, false, false, false, false, false, false, false, false, false, false, false, false, false, false, false, false, false, false, false, false] rfl rfl (any_of HT_.out (by kernel_rfl)) (fun _ _ _ h => h) (Or.inl ⟨by rfl, fun w' => by go_simp; with_reducible rfl⟩) (by simp only [Act.put, List.setIfInBounds_toArray, List.set_cons_zero, List.set_cons_succ, i64_w, i32_w]; rfl) ?_
         refine pure_ (i := 18) (N := some 63) #[true, true, true, true, true, true, true, true, true, true, true, true, true, true, true, true, true, true, true, false, false, false, false, false, false, false, false, false, false, false, false, false, false, false, false, false, false, false, false, false, false, false] rfl rfl (any_of HT_.out (by kernel_rfl)) (fun _ _ _ h => h) (Or.inl ⟨by rfl, fun w' => by go_simp; with_reducible rfl⟩) (by simp only [Act.put, List.setIfInBounds_toArray, List.set_cons_zero, List.set_cons_succ, i64_w, i32_w]; rfl) ?_
         refine pure_ (i := 19) (N := some 64) #[true, true, true, true, true, true, true, true, true, true, true, true, true, true, true, true, true, true, true, true, false, false, false, false, false, false, false, false, false, false, false, false, false, false, false, false, false, false, false, false, false, false] rfl rfl (any_of HT_.out (by kernel_rfl)) (fun _ _ _ h => h) (Or.inl ⟨by rfl, fun w' => by go_simp; with_reducible rfl⟩) (by simp only [Act.put, List.setIfInBounds_toArray, List.set_cons_zero, List.set_cons_succ, i64_w, i32_w]; rfl) ?_
         refine pure_ (i := 20) (N := some 65) #[true, true, true, true, true, true, true, true, true, true, true, true, true, true, true, true, true, true, true, true, true, false, false, false, false, false, false, false, false, false, false, false, false, false, false, false, false, false, false, false, false, false] rfl rfl (any_of HT_.out (by kernel_rfl)) (fun _ _ _ h => h) (Or.inl ⟨by rfl, fun w' => by go_simp; with_reducible rfl⟩) (by simp only [Act.put, List.setIfInBounds_toArray, List.set_cons_zero, List.set_cons_succ, i64_w, i32_w]; rfl) ?_
         refine pure_ (i := 21) (N := some 66) #[true, true, true, true, true, true, true, true, true, true, true, true, true, true, true, true, true, true, true, true, true, true, false, false, false, false, false, false, false, false, false, false, false, false, false, false, false, false, false, false, false, false] rfl rfl (any_of HT_.out (by kernel_rfl)) (fun _ _ _ h => h) (Or.inl ⟨by rfl, fun w' => by go_simp; with_reducible rfl⟩) (by simp only [Act.put, List.setIfInBounds_toArray, List.set_cons_zero, List.set_cons_succ, i64_w, i32_w]; rfl) ?_
         refine pure_ (i := 22) (N := some 67) #[true, true, true, true, true, true, true, true, true, true, true, true, true, true, true, true, true, true, true, true, true, true, true, false, false, false, false, false, false, false, false, false, false, false, false, false, false, false, false, false, false, false] rfl rfl (any_of HT_.out (by kernel_rfl)) (fun _ _ _ h => h) (Or.inl ⟨by rfl, fun w' => by go_simp; with_reducible rfl⟩) (by simp only [Act.put, List.setIfInBounds_toArray, List.set_cons_zero, List.set_cons_succ, i64_w, i32_w]; rfl) ?_
         refine pure_ (i := 23) (N := some 68) #[true, true, true, true, true, true, true, true, true, true, true, true, true, true, true, true, true, true, true, true, true, true, true, true, false, false, false, false, false, false, false, false, false, false, false, false, false, false, false, false, false, false] rfl rfl (any_of HT_.out (by kernel_rfl)) (fun _ _ _ h => h) (Or.inl ⟨by rfl, fun w' => by go_simp; with_reducible rfl⟩) (by simp only [Act.put, List.setIfInBounds_toArray, List.set_cons_zero, List.set_cons_succ, i64_w, i32_w]; rfl) ?_
         refine pure_ (i := 24) (N := some 69) #[true, true, true, true, true, true, true, true, true, true, true, true, true, true, true, true, true, true, true, true, true, true, true, true, true, false, false, false, false, false, false, false, false, false, false, false, false, false, false, false, false, false] rfl rfl (any_of HT_.out (by kernel_rfl)) (fun _ _ _ h => h) (Or.inl ⟨by rfl, fun w' => by go_simp; with_reducible rfl⟩) (by simp only [Act.put, List.setIfInBounds_toArray, List.set_cons_zero, List.set_cons_succ, i64_w, i32_w]; rfl) ?_
         refine pure_ (i := 25) (N := some 70) #[true, true, true, true, true, true, true, true, true, true, true, true, true, true, true, true, true, true, true, true, true, true, true, true, true, true, false, false, false, false, false, false, false, false, false, false, false, false, false, false, false, false] rfl rfl (any_of HT_.out (by kernel_rfl)) (fun _ _ _ h => h) (Or.inl ⟨by rfl, fun w' => by go_simp; with_reducible rfl⟩) (by simp only [Act.put, List.setIfInBounds_toArray, List.set_cons_zero, List.set_cons_succ, i64_w, i32_w]; rfl) ?_
         refine pure_ (i := 26) (N := some 71) #[true, true, true, true, true, true, true, true, true, true, true, true, true, true, true, true, true, true, true, true, true, true, true, true, true, true, true, false, false, false, false, false, false, false, false, false, false, false, false, false, false, false] rfl rfl (any_of HT_.out (by kernel_rfl)) (fun _ _ _ h => h) (Or.inl ⟨by rfl, fun w' => by go_simp; with_reducible rfl⟩) (by simp only [Act.put, List.setIfInBounds_toArray, List.set_cons_zero, List.set_cons_succ, i64_w, i32_w]; rfl) ?_
         refine pure_ (i := 27) (N := some 72) #[true, true, true, true, true, true, true, true, true, true, true, true, true, true, true, true, true, true, true, true, true, true, true, true, true, true, true, true, false, false, false, false, false, false, false, false, false, false, false, false, false, false] rfl rfl (any_of HT_.out (by kernel_rfl)) (fun _ _ _ h => h) (Or.inl ⟨by rfl, fun w' => by go_simp; with_reducible rfl⟩) (by simp only [Act.put, List.setIfInBounds_toArray, List.set_cons_zero, List.set_cons_succ, i64_w, i32_w]; rfl) ?_
         refine pure_ (i := 28) (N := some 73) #[true, true, true, true, true, true, true, true, true, true, true, true, true, true, true, true, true, true, true, true, true, true, true, true, true, true, true, true, true, false, false, false, false, false, false, false, false, false, false, false, false, false] rfl rfl (any_of HT_.out (by kernel_rfl)) (fun _ _ _ h => h) (Or.inl ⟨by rfl, fun w' => by go_simp; with_reducible rfl⟩) (by simp only [Act.put, List.setIfInBounds_toArray, List.set_cons_zero, List.set_cons_succ, i64_w, i32_w]; rfl) ?_
         refine pure_ (i := 29) (N := some 74) #[true, true, true, true, true, true, true, true, true, true, true, true, true, true, true, true, true, true, true, true, true, true, true, true, true, true, true, true, true, true, false, false, false, false, false, false, false, false, false, false, false, false] rfl rfl (any_of HT_.out (by kernel_rfl)) (fun _ _ _ h => h) (Or.inl ⟨by rfl, fun w' => by go_simp; with_reducible rfl⟩) (by simp only [Act.put, List.setIfInBounds_toArray, List.set_cons_zero, List.set_cons_succ, i64_w, i32_w]; rfl) ?_
         refine pure_ (i := 30) (N := some 75) #[true, true, true, true, true, true, true, true, true, true, true, true, true, true, true, true, true, true, true, true, true, true, true, true, true, true, true, true, true, true, true, false, false, false, false, false, false, false, false, false, false, false] rfl rfl (any_of HT_.out (by kernel_rfl)) (fun _ _ _ h => h) (Or.inl ⟨by rfl, fun w' => by go_simp; with_reducible rfl⟩) (by simp only [Act.put, List.setIfInBounds_toArray, List.set_cons_zero, List.set_cons_succ, i64_w, i32_w]; rfl) ?_
         refine pure_ (i := 31) (N := some 76) #[true, true, true, true, true, true, true, true, true, true, true, true, true, true, true, true, true, true, true, true, true, true, true, true, true, true, true, true, true, true, true, true, false, false, false, false, false, false, false, false, false, false] rfl rfl (any_of HT_.out (by kernel_rfl)) (fun _ _ _ h => h) (Or.inl ⟨by rfl, fun w' => by go_simp; with_reducible rfl⟩) (by simp only [Act.put, List.setIfInBounds_toArray, List.set_cons_zero, List.set_cons_succ, i64_w, i32_w]; rfl) ?_
         refine pure_ (i := 32) (N := some 77) #[true, true, true, true, true, true, true, true, true, true, true, true, true, true, true, true, true, true, true, true, true, true, true, true, true, true, true, true, true, true, true, true, true, false, false, false, false, false, false, false, false, false] rfl rfl (any_of HT_.out (by kernel_rfl)) (fun _ _ _ h => h) (Or.inl ⟨by rfl, fun w' => by go_simp; with_reducible rfl⟩) (by simp only [Act.put, List.setIfInBounds_toArray, List.set_cons_zero, List.set_cons_succ, i64_w, i32_w]; rfl) ?_
         refine pure_ (i := 33) (N := some 78) #[true, true, true, true, true, true, true, true, true, true, true, true, true, true, true, true, true, true, true, true, true, true, true, true, true, true, true, true, true, true, true, true, true, true, false, false, false, false, false, false, false, false] rfl rfl (any_of HT_.out (by kernel_rfl)) (fun _ _ _ h => h) (Or.inl ⟨by rfl, fun w' => by go_simp; with_reducible rfl⟩) (by simp only [Act.put, List.setIfInBounds_toArray, List.set_cons_zero, List.set_cons_succ, i64_w, i32_w]; rfl) ?_
         refine pure_ (i := 34) (N := some 79) #[true, true, true, true, true, true, true, true, true, true, true, true, true, true, true, true, true, true, true, true, true, true, true, true, true, true, true, true, true, true, true, true, true, true, true, false, false, false, false, false, false, false] rfl rfl (any_of HT_.out (by kernel_rfl)) (fun _ _ _ h => h) (Or.inl ⟨by rfl, fun w' => by go_simp; with_reducible rfl⟩) (by simp only [Act.put, List.setIfInBounds_toArray, List.set_cons_zero, List.set_cons_succ, i64_w, i32_w]; rfl) ?_
         refine pure_ (i := 35) (N := some 80) #[true, true, true, true, true, true, true, true, true, true, true, true, true, true, true, true, true, true, true, true, true, true, true, true, true, true, true, true, true, true, true, true, true, true, true, true, false, false, false, false, false, false] rfl rfl (any_of HT_.out (by kernel_rfl)) (fun _ _ _ h => h) (Or.inl ⟨by rfl, fun w' => by go_simp; with_reducible rfl⟩) (by simp only [Act.put, List.setIfInBounds_toArray, List.set_cons_zero, List.set_cons_succ, i64_w, i32_w]; rfl) ?_
         refine pure_ (i := 36) (N := some 81) (v := undef) (a' := ?_) #[true, true, true, true, true, true, true, true, true, true, true, true, true, true, true, true, true, true, true, true, true, true, true, true, true, true, true, true, true, true, true, true, true, true, true, true, true, false, false, false, false, false] rfl rfl (any_of HT_.out (by kernel_rfl)) (fun _ _ _ h => h) (Or.inr ⟨by rfl, rfl⟩) ?_ ?_
         rotate_left
         ·simp only [Act.put, List.setIfInBounds_toArray, List.set_cons_zero, List.set_cons_succ, i64_w, i32_w]
          rfl
         refine pure_ (i := 37) (N := some 82) (v := undef) (a' := ?_) #[true, true, true, true, true, true, true, true, true, true, true, true, true, true, true, true, true, true, true, true, true, true, true, true, true, true, true, true, true, true, true, true, true, true, true, true, true, true, false, false, false, false] rfl rfl (any_of HT_.out (by kernel_rfl)) (fun _ _ _ h => h) (Or.inr ⟨by rfl, rfl⟩) ?_ ?_
         rotate_left
         ·simp only [Act.put, List.setIfInBounds_toArray, List.set_cons_zero, List.set_cons_succ, i64_w, i32_w]
          rfl
         refine pure_ (i := 38) (N := some 83) (v := undef) (a' := ?_) #[true, true, true, true, true, true, true, true, true, true, true, true, true, true, true, true, true, true, true, true, true, true, true, true, true, true, true, true, true, true, true, true, true, true, true, true, true, true, true, false, false, false] rfl rfl (any_of HT_.out (by kernel_rfl)) (fun _ _ _ h => h) (Or.inr ⟨by rfl, rfl⟩) ?_ ?_
         rotate_left
         ·simp only [Act.put, List.setIfInBounds_toArray, List.set_cons_zero, List.set_cons_succ, i64_w, i32_w]
          rfl
         refine pure_ (i := 39) (N := some 84) (v := undef) (a' := ?_) #[true, true, true, true, true, true, true, true, true, true, true, true, true, true, true, true, true, true, true, true, true, true, true, true, true, true, true, true, true, true, true, true, true, true, true, true, true, true, true, true, false, false] rfl rfl (any_of HT_.out (by kernel_rfl)) (fun _ _ _ h => h) (Or.inr ⟨by rfl, rfl⟩) ?_ ?_
         rotate_left
         ·simp only [Act.put, List.setIfInBounds_toArray, List.set_cons_zero, List.set_cons_succ, i64_w, i32_w]
          rfl
         refine pure_ (i := 40) (N := some 85) #[true, true, true, true, true, true, true, true, true, true, true, true, true, true, true, true, true, true, true, true, true, true, true, true, true, true, true, true, true, true, true, true, true, true, true, true, true, true, true, true, true, false] rfl rfl (any_of HT_.out (by kernel_rfl)) (fun _ _ _ h => h) (Or.inl ⟨by rfl, fun w' => by go_simp; with_reducible rfl⟩) (by simp only [Act.put, List.setIfInBounds_toArray, List.set_cons_zero, List.set_cons_succ, i64_w, i32_w]; rfl) ?_
         refine pure_ (i := 41) (N := some 86) #[true, true, true, true, true, true, true, true, true, true, true, true, true, true, true, true, true, true, true, true, true, true, true, true, true, true, true, true, true, true, true, true, true, true, true, true, true, true, true, true, true, true] rfl rfl (any_of HT_.out (by kernel_rfl)) (fun _ _ _ h => h) (Or.inl ⟨by rfl, fun w' => by go_simp; with_reducible rfl⟩) (by simp only [Act.put, List.setIfInBounds_toArray, List.set_cons_zero, List.set_cons_succ, i64_w, i32_w]; rfl) ?_
         refine done_ (done_of HT_.out (by kernel_rfl)) ?_
         try go_wp2
         go_meet
         case rel => exact ⟨_, (false), (by first | rfl | (simp; done) | (simp [*]; done)), H', ⟨by have := HJ2.out; first | omega | exact Nat.le_refl _⟩, ⟨by (with_reducible repeat (first | apply Kd.R_alloc | apply Kd.R_drewN | apply Kd.R_drew)); exact Kd.R_mono HO264.out (fun _ hk => trivial)⟩, ⟨kv_ BK268.out⟩, ⟨bS1_ HB.out GE268.out⟩⟩
      ·replace c58 := Bool.eq_false_iff.mpr c58
       subst c58
       have H1 : (if ((t266 == 0) != false) = true then (variorumlaw11_BreakerForced.j1 kj2 l0 t262 true t266 t267) else (if (t265 != t259) = true then (variorumlaw11_BreakerForced.j1 kj2 l0 t262 true t266 t267) else (variorumlaw11_BreakerForced.j1 kj2 l0 t262 false t266 t267))) = some r := by rw [if_neg (show ¬ (false = true) by decide)] at H; exact H
       clear H
       have H := H1
       clear H1
       by_cases c70 : ((t266 == 0) != false) = true
       ·rw [if_pos c70] at H
        have c70b0 : ((t266 == 0) != false) = true := c70
        (try (have c70b1 : decide ((t266 == 0) = false) = false := by simpa using c70))
        (try (have c70b2 : ((t266 == 0) == false) = false := by simpa using c70))
        (try (have c70b3 : ¬ ((t266 == 0) = false) := by simpa using c70))
        clear c70
        have H' := a_ H
        exact absurd H'.out (by rw [variorumlaw11_BreakerForced.j1.none_]; simp)
       ·rw [if_neg c70] at H
        have c70b0 : ((t266 == 0) != false) = false := by simpa using c70
        (try (have c70b1 : decide ((t266 == 0) = false) = true := by simpa using c70))
        (try (have c70b2 : ((t266 == 0) == false) = true := by simpa using c70))
        clear c70
        by_cases c74 : (t265 != t259) = true
        ·rw [if_pos c74] at H
         have c74b0 : (t265 != t259) = true := c74
         (try (have c74b1 : decide (t265 = t259) = false := by simpa using c74))
         (try (have c74b2 : (t265 == t259) = false := by simpa using c74))
         (try (have c74b3 : ¬ (t265 = t259) := by simpa using c74))
         clear c74
         have H' := a_ H
         exact absurd H'.out (by rw [variorumlaw11_BreakerForced.j1.none_]; simp)
        ·rw [if_neg c74] at H
         have c74b0 : (t265 != t259) = false := by simpa using c74
         (try (have c74b1 : decide (t265 = t259) = true := by simpa using c74))
         (try (have c74b2 : (t265 == t259) = true := by simpa using c74))
         clear c74
         have H' := a_ H
         clear H
         try go_wp2
         have n0_ : Aside0 (Kd.R (Kd.int .i64) 3 ((w18.setCell ⟨gb268, 0, none⟩ (.int .i64 t266)).setCell ⟨gb268, 1, none⟩ (.int .i64 t267)) w.heap.size (fun k_ => some k_ ≠ (v260 : Value).ownBlock ∧ some k_ ≠ (v263 : Value).ownBlock) v255 t252) := ⟨by (with_reducible repeat (first | apply Kd.R_alloc | apply Kd.R_drewN | apply Kd.R_drew)); exact Kd.R_mono (Kd.R_far (p := ⟨gb268, 1, none⟩) (Kd.R_far (p := ⟨gb268, 0, none⟩) (Kd.R_types HO256.out BK268.out (by decide)) (fun _ hk => hk.2) (.int .i64 t266)) (fun _ hk => hk.2) (.int .i64 t267)) (fun _ hk => ⟨hk.1.1.2, hk.1.2⟩)⟩
         have n1_ : Aside0 (Kd.R (Kd.int .i64) 3 ((w18.setCell ⟨gb268, 0, none⟩ (.int .i64 t266)).setCell ⟨gb268, 1, none⟩ (.int .i64 t267)) w.heap.size (fun k_ => some k_ ≠ (v255 : Value).ownBlock ∧ some k_ ≠ (v263 : Value).ownBlock) v260 t257) := ⟨by (with_reducible repeat (first | apply Kd.R_alloc | apply Kd.R_drewN | apply Kd.R_drew)); exact Kd.R_mono (Kd.R_far (p := ⟨gb268, 1, none⟩) (Kd.R_far (p := ⟨gb268, 0, none⟩) (Kd.R_types HO261.out BK268.out (by decide)) (fun _ hk => hk.2) (.int .i64 t266)) (fun _ hk => hk.2) (.int .i64 t267)) (fun _ hk => ⟨hk.1.1.2, hk.1.2⟩)⟩
         have n2_ : Aside0 (Kd.R (Kd.int .i64) 3 ((w18.setCell ⟨gb268, 0, none⟩ (.int .i64 t266)).setCell ⟨gb268, 1, none⟩ (.int .i64 t267)) w.heap.size (fun k_ => some k_ ≠ (v255 : Value).ownBlock ∧ some k_ ≠ (v260 : Value).ownBlock) v263 t262) := ⟨by (with_reducible repeat (first | apply Kd.R_alloc | apply Kd.R_drewN | apply Kd.R_drew)); exact Kd.R_mono (Kd.R_far (p := ⟨gb268, 1, none⟩) (Kd.R_far (p := ⟨gb268, 0, none⟩) (Kd.R_types HO264.out BK268.out (by decide)) (fun _ hk => hk.2) (.int .i64 t266)) (fun _ hk => hk.2) (.int .i64 t267)) (fun _ hk => ⟨hk.1.1.2, hk.1.2⟩)⟩
         have n3_ : Aside0 (((w18.setCell ⟨gb268, 0, none⟩ (.int .i64 t266)).setCell ⟨gb268, 1, none⟩ (.int .i64 t267)).heap[gb268]? = some (.cells #[.int .i64 t266, .int .i64 t267] 29 (0, 0))) := ⟨kp0_ BK268.out⟩
         have n4_ : Aside0 (Below w.heap.size w ((w18.setCell ⟨gb268, 0, none⟩ (.int .i64 t266)).setCell ⟨gb268, 1, none⟩ (.int .i64 t267))) := ⟨bS1_ HB.out GE268.out⟩
         (try clear HO256)
         (try clear HO261)
         (try clear HO264)
         (try clear BK268)
         (try clear HB)
         generalize ((w18.setCell ⟨gb268, 0, none⟩ (.int .i64 t266)).setCell ⟨gb268, 1, none⟩ (.int .i64 t267)) = w78 at n0_ n1_ n2_ n3_ n4_ ⊢
         have HO256 := n0_
         have HO261 := n1_
         have HO264 := n2_
         have BK268 := n3_
         have HB := n4_
         clear n0_ n1_ n2_ n3_ n4_
         have n0_ := a_ (Kd.R_drew HO256.out)
         have n1_ := a_ (Kd.R_drew HO261.out)
         have n2_ := a_ (Kd.R_drew HO264.out)
         have n3_ := a_ (blk_drew BK268.out)
         have n4_ := a_ (below_drew1 HB.out)
         clear HO256
         clear HO261
         clear HO264
         clear BK268
         clear HB
         have HO256 := n0_
         have HO261 := n1_
         have HO264 := n2_
         have BK268 := n3_
         have HB := n4_
         clear n0_ n1_ n2_ n3_ n4_
         refine start_ (n := 42) (S := fun w' => w'.cell? ⟨gb268, 0, none⟩ = some (.int .i64 t266) ∧ w'.cell? ⟨gb268, 1, none⟩ = some (.int .i64 t267)) (ds := []) #[false, false, false, false, false, false, false, false, false, false, false, false, false, false, false, false, false, false, false, false, false, false, false, false, false, false, false, false, false, false, false, false, false, false, false, false, false, false, false, false, false, false] (by kernel_rfl) rfl rfl ⟨(blk_cell BK268.out 0).trans rfl, (blk_cell BK268.out 1).trans rfl⟩ (fun hHeld => ?_); refine with_tabW variorumlaw11_BreakerForced.tab6 variorumlaw11_BreakerForced.bits6 (fun HT_ HW_ => ?_)
         generalize w78.drew = w79 at HO256 HO261 HO264 BK268 HB hHeld ⊢
         refine pure_ (i := 0) (N := some 45) #[true, false, false, false, false, false, false, false, false, false, false, false, false, false, false, false, false, false, false, false, false, false, false, false, false, false, false, false, false, false, false, false, false, false, false, false, false, false, false, false, false, false] rfl rfl (any_of HT_.out (by kernel_rfl)) (fun _ _ _ h => h) (Or.inl ⟨by rfl, fun w' => by go_simp; with_reducible rfl⟩) (by simp only [Act.put, List.setIfInBounds_toArray, List.set_cons_zero, List.set_cons_succ, i64_w, i32_w]; rfl) ?_
         refine pure_ (i := 1) (N := some 46) #[true, true, false, false, false, false, false, false, false, false, false, false, false, false, false, false, false, false, false, false, false, false, false, false, false, false, false, false, false, false, false, false, false, false, false, false, false, false, false, false, false, false] rfl rfl (any_of HT_.out (by kernel_rfl)) (fun _ _ _ h => h) (Or.inl ⟨by rfl, fun w' => by go_simp; with_reducible rfl⟩) (by simp only [Act.put, List.setIfInBounds_toArray, List.set_cons_zero, List.set_cons_succ, i64_w, i32_w]; rfl) ?_
         refine pure_ (i := 2) (N := some 47) (v := undef) (a' := ?_) #[true, true, true, false, false, false, false, false, false, false, false, false, false, false, false, false, false, false, false, false, false, false, false, false, false, false, false, false, false, false, false, false, false, false, false, false, false, false, false, false, false, false] rfl rfl (any_of HT_.out (by kernel_rfl)) (fun _ _ _ h => h) (Or.inr ⟨by rfl, rfl⟩) ?_ ?_
         rotate_left
         ·simp only [Act.put, List.setIfInBounds_toArray, List.set_cons_zero, List.set_cons_succ, i64_w, i32_w]
          rfl
         refine pure_ (i := 3) (N := some 48) (v := undef) (a' := ?_) #[true, true, true, true, false, false, false, false, false, false, false, false, false, false, false, false, false, false, false, false, false, false, false, false, false, false, false, false, false, false, false, false, false, false, false, false, false, false, false, false, false, false] rfl rfl (any_of HT_.out (by kernel_rfl)) (fun _ _ _ h => h) (Or.inr ⟨by rfl, rfl⟩) ?_ ?_
         rotate_left
         ·simp only [Act.put, List.setIfInBounds_toArray, List.set_cons_zero, List.set_cons_succ, i64_w, i32_w]
          rfl
         refine pure_ (i := 4) (N := some 49) (v := undef) (a' := ?_) #[true, true, true, true, true, false, false, false, false, false, false, false, false, false, false, false, false, false, false, false, false, false, false, false, false, false, false, false, false, false, false, false, false, false, false, false, false, false, false, false, false, false] rfl rfl (any_of HT_.out (by kernel_rfl)) (fun _ _ _ h => h) (Or.inr ⟨by rfl, rfl⟩) ?_ ?_
         rotate_left
         ·simp only [Act.put, List.setIfInBounds_toArray, List.set_cons_zero, List.set_cons_succ, i64_w, i32_w]
          rfl
         refine pure_ (i := 5) (N := some 50) (v := undef) (a' := ?_) #[true, true, true, true, true, true, false, false, false, false, false, false, false, false, false, false, false, false, false, false, false, false, false, false, false, false, false, false, false, false, false, false, false, false, false, false, false, false, false, false, false, false] rfl rfl (any_of HT_.out (by kernel_rfl)) (fun _ _ _ h => h) (Or.inr ⟨by rfl, rfl⟩) ?_ ?_
         rotate_left
         ·simp only [Act.put, List.setIfInBounds_toArray, List.set_cons_zero, List.set_cons_succ, i64_w, i32_w]
          rfl
         refine pure_ (i := 6) (N := some 51) (v := undef) (a' := ?_) #[true, true, true, true, true, true, true, false, false, false, false, false, false, false, false, false, false, false, false, false, false, false, false, false, false, false, false, false, false, false, false, false, false, false, false, false, false, false, false, false, false, false] rfl rfl (any_of HT_.out (by kernel_rfl)) (fun _ _ _ h => h) (Or.inr ⟨by rfl, rfl⟩) ?_ ?_
         rotate_left
         ·simp only [Act.put, List.setIfInBounds_toArray, List.set_cons_zero, List.set_cons_succ, i64_w, i32_w]
          rfl
         refine pure_ (i := 7) (N := some 52) (v := undef) (a' := ?_) #[true, true, true, true, true, true, true, true, false, false, false, false, false, false, false, false, false, false, false, false, false, false, false, false, false, false, false, false, false, false, false, false, false, false, false, false, false, false, false, false, false, false] rfl rfl (any_of HT_.out (by kernel_rfl)) (fun _ _ _ h => h) (Or.inr ⟨by rfl, rfl⟩) ?_ ?_
         rotate_left
         ·simp only [Act.put, List.setIfInBounds_toArray, List.set_cons_zero, List.set_cons_succ, i64_w, i32_w]
          rfl
         refine pure_ (i := 8) (N := some 53) (v := undef) (a' := ?_) #[true, true, true, true, true, true, true, true, true, false, false, false, false, false, false, false, false, false, false, false, false, false, false, false, false, false, false, false, false, false, false, false, false, false, false, false, false, false, false, false, false, false] rfl rfl (any_of HT_.out (by kernel_rfl)) (fun _ _ _ h => h) (Or.inr ⟨by rfl, rfl⟩) ?_ ?_
         rotate_left
         ·simp only [Act.put, List.setIfInBounds_toArray, List.set_cons_zero, List.set_cons_succ, i64_w, i32_w]
          rfl
         refine pure_ (i := 9) (N := some 54) #[true, true, true, true, true, true, true, true, true, true, false, false, false, false, false, false, false, false, false, false, false, false, false, false, false, false, false, false, false, false, false, false, false, false, false, false, false, false, false, false, false, false] rfl rfl (any_of HT_.out (by kernel_rfl)) (fun _ _ _ h => h) (Or.inl ⟨by rfl, fun w' => by go_simp; with_reducible rfl⟩) (by simp only [Act.put, List.setIfInBounds_toArray, List.set_cons_zero, List.set_cons_succ, i64_w, i32_w]; rfl) ?_
         refine pure_ (i := 10) (N := some 55) #[true, true, true, true, true, true, true, true, true, true, true, false, false, false, false, false, false, false, false, false, false, false, false, false, false, false, false, false, false, false, false, false, false, false, false, false, false, false, false, false, false, false] rfl rfl (any_of HT_.out (by kernel_rfl)) (fun _ _ _ h => h) (Or.inl ⟨by rfl, fun w' => by go_simp; with_reducible rfl⟩) (by simp only [Act.put, List.setIfInBounds_toArray, List.set_cons_zero, List.set_cons_succ, i64_w, i32_w]; rfl) ?_
         refine pure_ (i := 11) (N := some 56) #[true, true, true, true, true, true, true, true, true, true, true, true, false, false, false, false, false, false, false, false, false, false, false, false, false, false, false, false, false, false, false, false, false, false, false, false, false, false, false, false, false, false] rfl rfl (any_of HT_.out (by kernel_rfl)) (fun _ _ _ h => h) (Or.inl ⟨by rfl, fun w' => by go_simp; with_reducible rfl⟩) (by simp only [Act.put, List.setIfInBounds_toArray, List.set_cons_zero, List.set_cons_succ, i64_w, i32_w]; rfl) ?_
         refine pure_ (i := 14) (N := some 59) #[true, true, true, true, true, true, true, true, true, true, true, true, false, false, true, false, false, false, false, false, false, false, false, false, false, false, false, false, false, false, false, false, false, false, false, false, false, false, false, false, false, false] rfl rfl (any_of HT_.out (by kernel_rfl)) (fun _ _ _ h => h) (Or.inl ⟨by rfl, fun w' => by go_simp; with_reducible rfl⟩) (by simp only [Act.put, List.setIfInBounds_toArray, List.set_cons_zero, List.set_cons_succ, i64_w, i32_w]; rfl) ?_
         refine take_ (i := 12) (N := some 57) (v := ?_) (a' := ?_) #[true, true, true, true, true, true, true, true, true, true, true, true, true, false, true, false, false, false, false, false, false, false, false, false, false, false, false, false, false, false, false, false, false, false, false, false, false, false, false, false, false, false] rfl rfl (take_ofW HT_.out HW_.out (by kernel_rfl)) (fun _ _ _ h => h) (Or.inl ⟨by rfl, ?_⟩) hHeld ?_ ?_
         rotate_left
         ·rintro w' ⟨s0, s1⟩
          go_simp
          with_reducible rfl
         rotate_left
         ·simp only [Act.put, List.setIfInBounds_toArray, List.set_cons_zero, List.set_cons_succ, i64_w, i32_w]
          rfl
         refine pure_ (i := 13) (N := some 58) #[true, true, true, true, true, true, true, true, true, true, true, true, true, true, true, false, false, false, false, false, false, false, false, false, false, false, false, false, false, false, false, false, false, false, false, false, false, false, false, false, false, false] rfl rfl (any_of HT_.out (by kernel_rfl)) (fun _ _ _ h => h) (Or.inl ⟨by rfl, fun w' => by go_simp; with_reducible rfl⟩) (by simp only [Act.put, List.setIfInBounds_toArray, List.set_cons_zero, List.set_cons_succ, i64_w, i32_w]; rfl) ?_
         refine one_ (i := 15) (N := some 60) #[true, true, true, true, true, true, true, true, true, true, true, true, true, true, true, true, false, false, false, false, false, false, false, false, false, false, false, false, false, false, false, false, false, false, false, false, false, false, false, false, false, false] rfl rfl (one_of HT_.out (by kernel_rfl)) (by decide) (fun K hK => ?_)
         refine goes_ Try.func14 (by kernel_rfl) rfl #[.slice A0 l0.length c0] (by rfl) rfl rfl (by (try simp only [List.map_toArray, List.map_cons, List.map_nil]); first | done | rfl | (simp only [List.length_drop, List.length_take]; rfl) | (simp only [*]; first | done | rfl)) ?_
         with_reducible refine (variorumref09_May.calls kj2 _ _ l0 false _ ?side1 ?side2 A57.out).mono ?_
         (case side1 => exact cw_ HR0.out HB.out)
         (case side2 => exact HC0.out)
         rintro e w80 ⟨rfl, hb⟩
         refine ⟨_, rfl, ?_⟩
         have n0_ := a_ (Kd.R_below (rv_ HO256.out) hb)
         have n1_ := a_ (Kd.R_below (rv_ HO261.out) hb)
         have n2_ := a_ (Kd.R_below (rv_ HO264.out) hb)
         have n3_ := a_ (kb_ BK268.out hb)
         have n4_ := a_ (below_step (bS1_ HB.out GE268.out) hb)
         clear HO256
         clear HO261
         clear HO264
         clear BK268
         clear HB
         have HO256 := n0_
         have HO261 := n1_
         have HO264 := n2_
         have BK268 := n3_
         have HB := n4_
         clear n0_ n1_ n2_ n3_ n4_
         (try clear hb)
         (try clear hb2)
         (try clear hk)
         (try clear hi)
         refine hK.out _ _ ⟨(blk_cell BK268.out 0).trans rfl, (blk_cell BK268.out 1).trans rfl⟩ (fun hHeld => ?_)
         clear hK K
         refine norm_ (a' := ?_) ?_ ?_
         rotate_left
         ·show Act.put _ (some 60) _ = _
          simp only [Act.put, List.setIfInBounds_toArray, List.set_cons_zero, List.set_cons_succ, i64_w, i32_w]
          rfl
         refine pure_ (i := 16) (N := some 61) #[true, true, true, true, true, true, true, true, true, true, true, true, true, true, true, true, true, false, false, false, false, false, false, false, false, false, false, false, false, false, false, false, false, false, false, false, false, false, false, false, false, false] rfl rfl (any_of HT_.out (by kernel_rfl)) (fun _ _ _ h => h) (Or.inl ⟨by rfl, fun w' => by go_simp; with_reducible rfl⟩) (by simp only [Act.put, List.setIfInBounds_toArray, List.set_cons_zero, List.set_cons_succ, i64_w, i32_w]; rfl) ?_
         refine pure_ (i := 17) (N := some 62) (v := undef) (a' := ?_) #[true, true, true, true, true, true, true, true, true, true, true, true, true, true, true, true, true, true, false, false, false, false, false, false, false, false, false, false, false, false, false, false, false, false, false, false, false, false, false, false, false, false] rfl rfl (any_of HT_.out (by kernel_rfl)) (fun _ _ _ h => h) (Or.inr ⟨by rfl, rfl⟩) ?_ ?_
         rotate_left
         ·simp only [Act.put, List.setIfInBounds_toArray, List.set_cons_zero, List.set_cons_succ, i64_w, i32_w]
          rfl
         refine pure_ (i := 18) (N := some 63) (v := undef) (a' := ?_) #[true, true, true, true, true, true, true, true, true, true, true, true, true, true, true, true, true, true, true, false, false, false, false, false, false, false, false, false, false, false, false, false, false, false, false, false, false, false, false, false, false, false] rfl rfl (any_of HT_.out (by kernel_rfl)) (fun _ _ _ h => h) (Or.inr ⟨by rfl, rfl⟩) ?_ ?_
         rotate_left
         ·simp only [Act.put, List.setIfInBounds_toArray, List.set_cons_zero, List.set_cons_succ, i64_w, i32_w]
          rfl
         refine pure_ (i := 19) (N := some 64) (v := undef) (a' := ?_) #[true, true, true, true, true, true, true, true, true, true, true, true, true, true, true, true, true, true, true, true, false, false, false, false, false, false, false, false, false, false, false, false, false, false, false, false, false, false, false, false, false, false] rfl rfl (any_of HT_.out (by kernel_rfl)) (fun _ _ _ h => h) (Or.inr ⟨by rfl, rfl⟩) ?_ ?_
         rotate_left
         ·simp only [Act.put, List.setIfInBounds_toArray, List.set_cons_zero, List.set_cons_succ, i64_w, i32_w]
          rfl
         refine pure_ (i := 20) (N := some 65) (v := undef) (a' := ?_) #[true, true, true, true, true, true, true, true, true, true, true, true, true, true, true, true, true, true, true, true, true, false, false, false, false, false, false, false, false, false, false, false, false, false, false, false, false, false, false, false, false, false] rfl rfl (any_of HT_.out (by kernel_rfl)) (fun _ _ _ h => h) (Or.inr ⟨by rfl, rfl⟩) ?_ ?_
         rotate_left
         ·simp only [Act.put, List.setIfInBounds_toArray, List.set_cons_zero, List.set_cons_succ, i64_w, i32_w]
          rfl
         refine pure_ (i := 21) (N := some 66) #[true, true, true, true, true, true, true, true, true, true, true, true, true, true, true, true, true, true, true, true, true, true, false, false, false, false, false, false, false, false, false, false, false, false, false, false, false, false, false, false, false, false] rfl rfl (any_of HT_.out (by kernel_rfl)) (fun _ _ _ h => h) (Or.inl ⟨by rfl, fun w' => by go_simp; with_reducible rfl⟩) (by simp only [Act.put, List.setIfInBounds_toArray, List.set_cons_zero, List.set_cons_succ, i64_w, i32_w]; rfl) ?_
         refine pure_ (i := 22) (N := some 67) #[true, true, true, true, true, true, true, true, true, true, true, true, true, true, true, true, true, true, true, true, true, true, true, false, false, false, false, false, false, false, false, false, false, false, false, false, false, false, false, false, false, false] rfl rfl (any_of HT_.out (by kernel_rfl)) (fun _ _ _ h => h) (Or.inl ⟨by rfl, fun w' => by go_simp; with_reducible rfl⟩) (by simp only [Act.put, List.setIfInBounds_toArray, List.set_cons_zero, List.set_cons_succ, i64_w, i32_w]; rfl) ?_
         refine pure_ (i := 23) (N := some 68) #[true, true, true, true, true, true, true, true, true, true, true, true, true, true, true, true, true, true, true, true, true, true, true, true, false, false, false, false, false, false, false, false, false, false, false, false, false, false, false, false, false, false] rfl rfl (any_of HT_.out (by kernel_rfl)) (fun _ _ _ h => h) (Or.inl ⟨by rfl, fun w' => by go_simp; with_reducible rfl⟩) (by simp only [Act.put, List.setIfInBounds_toArray, List.set_cons_zero, List.set_cons_succ, i64_w, i32_w]; rfl) ?_
         refine pure_ (i := 24) (N := some 69) #[true, true, true, true, true, true, true, true, true, true, true, true, true, true, true, true, true, true, true, true, true, true, true, true, true, false, false, false, false, false, false, false, false, false, false, false, false, false, false, false, false, false] rfl rfl (any_of HT_.out (by kernel_rfl)) (fun _ _ _ h => h) (Or.inl ⟨by rfl, fun w' => by go_simp; with_reducible rfl⟩) (by simp only [Act.put, List.setIfInBounds_toArray, List.set_cons_zero, List.set_cons_succ, i64_w, i32_w]; rfl) ?_
         refine pure_ (i := 25) (N := some 70) #[true, true, true, true, true, true, true, true, true, true, true, true, true, true, true, true, true, true, true, true, true, true, true, true, true, true, false, false, false, false, false, false, false, false, false, false, false, false, false, false, false, false] rfl rfl (any_of HT_.out (by kernel_rfl)) (fun _ _ _ h => h) (Or.inl ⟨by rfl, fun w' => by go_simp; with_reducible rfl⟩) (by simp only [Act.put, List.setIfInBounds_toArray, List.set_cons_zero, List.set_cons_succ, i64_w, i32_w]; rfl) ?_
         refine pure_ (i := 26) (N := some 71) #[true, true, true, true, true, true, true, true, true, true, true, true, true, true, true, true, true, true, true, true, true, true, true, true, true, true, true, false, false, false, false, false, false, false, false, false, false, false, false, false, false, false] rfl rfl (any_of HT_.out (by kernel_rfl)) (fun _ _ _ h => h) (Or.inl ⟨by rfl, fun w' => by go_simp; with_reducible rfl⟩) (by simp only [Act.put, List.setIfInBounds_toArray, List.set_cons_zero, List.set_cons_succ, i64_w, i32_w]; rfl) ?_
         refine pure_ (i := 27) (N := some 72) #[true, true, true, true, true, true, true, true, true, true, true, true, true, true, true, true, true, true, true, true, true, true, true, true, true, true, true, true, false, false, false, false, false, false, false, false, false, false, false, false, false, false] rfl rfl (any_of HT_.out (by kernel_rfl)) (fun _ _ _ h => h) (Or.inl ⟨by rfl, fun w' => by go_simp; with_reducible rfl⟩) (by simp only [Act.put, List.setIfInBounds_toArray, List.set_cons_zero, List.set_cons_succ, i64_w, i32_w]; rfl) ?_
         refine pure_ (i := 28) (N := some 73) #[true, true, true, true, true, true, true, true, true, true, true, true, true, true, true, true, true, true, true, true, true, true, true, true, true, true, true, true, true, false, false, false, false, false, false, false, false, false, false, false, false, false] rfl rfl (any_of HT_.out (by kernel_rfl)) (fun _ _ _ h => h) (Or.inl ⟨by rfl, fun w' => by go_simp; with_reducible rfl⟩) (by simp only [Act.put, List.setIfInBounds_toArray, List.set_cons_zero, List.set_cons_succ, i64_w, i32_w]; rfl) ?_
         refine pure_ (i := 29) (N := some 74) #[true, true, true, true, true, true, true, true, true, true, true, true, true, true, true, true, true, true, true, true, true, true, true, true, true, true, true, true, true, true, false, false, false, false, false, false, false, false, false, false, false, false] rfl rfl (any_of HT_.out (by kernel_rfl)) (fun _ _ _ h => h) (Or.inl ⟨by rfl, fun w' => by go_simp; with_reducible rfl⟩) (by simp only [Act.put, List.setIfInBounds_toArray, List.set_cons_zero, List.set_cons_succ, i64_w, i32_w]; rfl) ?_
         refine pure_ (i := 30) (N := some 75) #[true, true, true, true, true, true, true, true, true, true, true, true, true, true, true, true, true, true, true, true, true, true, true, true, true, true, true, true, true, true, true, false, false, false, false, false, false, false, false, false, false, false] rfl rfl (any_of HT_.out (by kernel_rfl)) (fun _ _ _ h => h) (Or.inl ⟨by rfl, fun w' => by go_simp; with_reducible rfl⟩) (by simp only [Act.put, List.setIfInBounds_toArray, List.set_cons_zero, List.set_cons_succ, i64_w, i32_w]; rfl) ?_
         refine pure_ (i := 31) (N := some 76) #[true, true, true, true, true, true, true, true, true, true, true, true, true, true, true, true, true, true, true, true, true, true, true, true, true, true, true, true, true, true, true, true, false, false, false, false, false, false, false, false, false, false] rfl rfl (any_of HT_.out (by kernel_rfl)) (fun _ _ _ h => h) (Or.inl ⟨by rfl, fun w' => by go_simp; with_reducible rfl⟩) (by simp only [Act.put, List.setIfInBounds_toArray, List.set_cons_zero, List.set_cons_succ, i64_w, i32_w]; rfl) ?_
         refine pure_ (i := 32) (N := some 77) #[true, true, true, true, true, true, true, true, true, true, true, true, true, true, true, true, true, true, true, true, true, true, true, true, true, true, true, true, true, true, true, true, true, false, false, false, false, false, false, false, false, false] rfl rfl (any_of HT_.out (by kernel_rfl)) (fun _ _ _ h => h) (Or.inl ⟨by rfl, fun w' => by go_simp; with_reducible rfl⟩) (by simp only [Act.put, List.setIfInBounds_toArray, List.set_cons_zero, List.set_cons_succ, i64_w, i32_w]; rfl) ?_
         refine pure_ (i := 33) (N := some 78) #[true, true, true, true, true, true, true, true, true, true, true, true, true, true, true, true, true, true, true, true, true, true, true, true, true, true, true, true, true, true, true, true, true, true, false, false, false, false, false, false, false, false] rfl rfl (any_of HT_.out (by kernel_rfl)) (fun _ _ _ h => h) (Or.inl ⟨by rfl, fun w' => by go_simp; with_reducible rfl⟩) (by simp only [Act.put, List.setIfInBounds_toArray, List.set_cons_zero, List.set_cons_succ, i64_w, i32_w]; rfl) ?_
         refine pure_ (i := 34) (N := some 79) #[true, true, true, true, true, true, true, true, true, true, true, true, true, true, true, true, true, true, true, true, true, true, true, true, true, true, true, true, true, true, true, true, true, true, true, false, false, false, false, false, false, false] rfl rfl (any_of HT_.out (by kernel_rfl)) (fun _ _ _ h => h) (Or.inl ⟨by rfl, fun w' => by go_simp; with_reducible rfl⟩) (by simp only [Act.put, List.setIfInBounds_toArray, List.set_cons_zero, List.set_cons_succ, i64_w, i32_w]; rfl) ?_
         refine pure_ (i := 35) (N := some 80) #[true, true, true, true, true, true, true, true, true, true, true, true, true, true, true, true, true, true, true, true, true, true, true, true, true, true, true, true, true, true, true, true, true, true, true, true, false, false, false, false, false, false] rfl rfl (any_of HT_.out (by kernel_rfl)) (fun _ _ _ h => h) (Or.inl ⟨by rfl, fun w' => by go_simp; with_reducible rfl⟩) (by simp only [Act.put, List.setIfInBounds_toArray, List.set_cons_zero, List.set_cons_succ, i64_w, i32_w]; rfl) ?_
         refine pure_ (i := 36) (N := some 81) (v := undef) (a' := ?_) #[true, true, true, true, true, true, true, true, true, true, true, true, true, true, true, true, true, true, true, true, true, true, true, true, true, true, true, true, true, true, true, true, true, true, true, true, true, false, false, false, false, false] rfl rfl (any_of HT_.out (by kernel_rfl)) (fun _ _ _ h => h) (Or.inr ⟨by rfl, rfl⟩) ?_ ?_
         rotate_left
         ·simp only [Act.put, List.setIfInBounds_toArray, List.set_cons_zero, List.set_cons_succ, i64_w, i32_w]
          rfl
         refine pure_ (i := 37) (N := some 82) (v := undef) (a' := ?_) #[true, true, true, true, true, true, true, true, true, true, true, true, true, true, true, true, true, true, true, true, true, true, true, true, true, true, true, true, true, true, true, true, true, true, true, true, true, true, false, false, false, false] rfl rfl (any_of HT_.out (by kernel_rfl)) (fun _ _ _ h => h) (Or.inr ⟨by rfl, rfl⟩) ?_ ?_
         rotate_left
         ·simp only [Act.put, List.setIfInBounds_toArray, List.set_cons_zero, List.set_cons_succ, i64_w, i32_w]
          rfl
         refine pure_ (i := 38) (N := some 83) (v := undef) (a' := ?_) #[true, true, true, true, true, true, true, true, true, true, true, true, true, true, true, true, true, true, true, true, true, true, true, true, true, true, true, true, true, true, true, true, true, true, true, true, true, true, true, false, false, false] rfl rfl (any_of HT_.out (by kernel_rfl)) (fun _ _ _ h => h) (Or.inr ⟨by rfl, rfl⟩) ?_ ?_
         rotate_left
         ·simp only [Act.put, List.setIfInBounds_toArray, List.set_cons_zero, List.set_cons_succ, i64_w, i32_w]
          rfl
         refine pure_ (i := 39) (N := some 84) (v := undef) (a' := ?_) #[true, true, true, true, true, true, true, true, true, true, true, true, true, true, true, true, true, true, true, true, true, true, true, true, true, true, true, true, true, true, true, true, true, true, true, true, true, true, true, true, false, false] rfl rfl (any_of HT_.out (by kernel_rfl)) (fun _ _ _ h => h) (Or.inr ⟨by rfl, rfl⟩) ?_ ?_
         rotate_left
         ·simp only [Act.put, List.setIfInBounds_toArray, List.set_cons_zero, List.set_cons_succ, i64_w, i32_w]
          rfl
         refine pure_ (i := 40) (N := some 85) #[true, true, true, true, true, true, true, true, true, true, true, true, true, true, true, true, true, true, true, true, true, true, true, true, true, true, true, true, true, true, true, true, true, true, true, true, true, true, true, true, true, false] rfl rfl (any_of HT_.out (by kernel_rfl)) (fun _ _ _ h => h) (Or.inl ⟨by rfl, fun w' => by go_simp; with_reducible rfl⟩) (by simp only [Act.put, List.setIfInBounds_toArray, List.set_cons_zero, List.set_cons_succ, i64_w, i32_w]; rfl) ?_
         refine pure_ (i := 41) (N := some 86) #[true, true, true, true, true, true, true, true, true, true, true, true, true, true, true, true, true, true, true, true, true, true, true, true, true, true, true, true, true, true, true, true, true, true, true, true, true, true, true, true, true, true] rfl rfl (any_of HT_.out (by kernel_rfl)) (fun _ _ _ h => h) (Or.inl ⟨by rfl, fun w' => by go_simp; with_reducible rfl⟩) (by simp only [Act.put, List.setIfInBounds_toArray, List.set_cons_zero, List.set_cons_succ, i64_w, i32_w]; rfl) ?_
         refine done_ (done_of HT_.out (by kernel_rfl)) ?_
         try go_wp2
         go_meet
         case rel => exact ⟨_, (false), (by first | rfl | (simp; done) | (simp [*]; done)), H', ⟨by have := HJ2.out; first | omega | exact Nat.le_refl _⟩, ⟨by (with_reducible repeat (first | apply Kd.R_alloc | apply Kd.R_drewN | apply Kd.R_drew)); exact Kd.R_mono HO264.out (fun _ hk => trivial)⟩, ⟨kv_ BK268.out⟩, ⟨bS1_ HB.out GE268.out⟩⟩
    case rest =>
     clear HC14
     try clear c1
     try clear p2
     try clear c7
     try clear c14
     try clear c74
     try clear c74b0
     try clear c74b1
     try clear c74b2
     obtain ⟨kq, x86_13, rfl, HA, HJ13, HO_11, BK268, HB⟩ := hcut
     cases kq with
     | zero => exact absurd HA.out (by simp [variorumlaw11_BreakerForced.j1])
     | succ kj13 =>
      have H := HA.out
      clear HA
      simp only [variorumlaw11_BreakerForced.j1] at H
      by_cases c81 : x86_13 = true
      ·subst c81
       have H1 : (none) = some r := by rw [if_pos rfl] at H; exact H
       clear H
       have H := H1
       clear H1
       exact absurd H (by simp)
      ·replace c81 := Bool.eq_false_iff.mpr c81
       subst c81
       have H1 : (variorumlaw11_BreakerForced.l0 kj13 l0 t262 0 0 t266 t267) = some r := by rw [if_neg (show ¬ (false = true) by decide)] at H; exact H
       clear H
       have H := H1
       clear H1
       have H' := a_ H
       clear H
       go_wp2
       go_loopg [14, 15] kj13 (fun kq v14 v15 w' => ∃ (x14_3 : Int) (x15_3 : Int), v14 = .int .i64 x14_3 ∧ v15 = .int .i64 x15_3 ∧ Aside0 (variorumlaw11_BreakerForced.l0 kq l0 t262 x14_3 x15_3 t266 t267 = some r) ∧ Aside0 (kq ≤ kj13) ∧ Aside0 (Kd.R (Kd.int .i64) 3 w' w.heap.size (fun _ => True) v263 t262) ∧ Aside0 (w'.heap[gb268]? = some (.cells #[.int .i64 t266, .int .i64 t267] 29 (0, 0))) ∧ Aside0 (Below w.heap.size w w'))
       case atStart => exact ⟨(0), (0), (by first | rfl | (simp; done) | (simp [*]; done)), (by first | rfl | (simp; done) | (simp [*]; done)), H', ⟨Nat.le_refl _⟩, ⟨by (with_reducible repeat (first | apply Kd.R_alloc | apply Kd.R_drewN | apply Kd.R_drew)); exact HO_11.out⟩, ⟨kv_ BK268.out⟩, ⟨bS1_ HB.out GE268.out⟩⟩
       case round =>
        clear H'
        try clear c1
        try clear p2
        try clear c7
        try clear c8
        try clear c14
        try clear c74
        try clear c74b0
        try clear c74b1
        try clear c74b2
        try clear c81
        try clear p2
        obtain ⟨x14_3, x15_3, rfl, rfl, HA, HK3, HO_11, BK268, HB⟩ := hrel
        cases gk with
        | zero => exact absurd HA.out (by simp [variorumlaw11_BreakerForced.l0])
        | succ k3 =>
         have H := HA.out
         clear HA
         simp only [variorumlaw11_BreakerForced.l0] at H
         have HC82 := a_ H
         clear H
         go_upto_region 10 with (fail)
         go_cut [95] (fun v95 wc => ∃ (kq : Nat) (x95_81 : Bool), v95 = .bool x95_81 ∧ Aside0 (variorumlaw11_BreakerForced.j3 kq l0 t262 x14_3 x15_3 x95_81 t266 t267 = some r) ∧ Aside0 (kq ≤ k3) ∧ Aside0 (Kd.R (Kd.int .i64) 3 wc w.heap.size (fun _ => True) v263 t262) ∧ Aside0 (wc.heap[gb268]? = some (.cells #[.int .i64 t266, .int .i64 t267] 29 (0, 0))) ∧ Aside0 (Below w.heap.size w wc))
         case first =>
          have H := HC82.out
          clear HC82
          by_cases c83 : x15_3 < (l0.length : Int)
          ·rw [if_pos c83] at H
           have c83b0 : decide (x15_3 < (l0.length : Int)) = true := decide_eq_true c83
           clear c83
           (first | rw [c83b0] | (simp only [i64_w, i32_w]; rw [c83b0]) | skip)
           have H' := a_ H
           clear H
           obtain ⟨⟨Z84_0, Y84_0⟩, Z84_1, Y84_1⟩ := cs2_ BK268.out
           go_wp2
           go_meet
           case rel => exact ⟨_, ((t266 == 0)), (by first | rfl | (simp; done) | (simp [*]; done)), H', ⟨by have := HJ2.out; have := HJ13.out; have := HK3.out; first | omega | exact Nat.le_refl _⟩, ⟨by (with_reducible repeat (first | apply Kd.R_alloc | apply Kd.R_drewN | apply Kd.R_drew)); exact HO_11.out⟩, ⟨kv_ BK268.out⟩, ⟨bS1_ HB.out GE268.out⟩⟩
          ·rw [if_neg c83] at H
           have c83b0 : decide (x15_3 < (l0.length : Int)) = false := decide_eq_false c83
           clear c83
           (first | rw [c83b0] | (simp only [i64_w, i32_w]; rw [c83b0]) | skip)
           have H' := a_ H
           clear H
           go_wp2
           go_meet
           case rel => exact ⟨_, (false), (by first | rfl | (simp; done) | (simp [*]; done)), H', ⟨by have := HJ2.out; have := HJ13.out; have := HK3.out; first | omega | exact Nat.le_refl _⟩, ⟨by (with_reducible repeat (first | apply Kd.R_alloc | apply Kd.R_drewN | apply Kd.R_drew)); exact HO_11.out⟩, ⟨kv_ BK268.out⟩, ⟨bS1_ HB.out GE268.out⟩⟩
         case rest =>
          clear HC82
          try clear c1
          try clear p2
          try clear c7
          try clear c8
          try clear c14
          try clear c74
          try clear c74b0
          try clear c74b1
          try clear c74b2
          try clear c81
          try clear c83
          try clear c83b0
          try clear Z84_0
          try clear Z84_1
          try clear Y84_0
          try clear Y84_1
          try clear p2
          obtain ⟨kq, x95_81, rfl, HA, HJ81, HO_11, BK268, HB⟩ := hcut
          cases kq with
          | zero => exact absurd HA.out (by simp [variorumlaw11_BreakerForced.j3])
          | succ kj81 =>
           have H := HA.out
           clear HA
           simp only [variorumlaw11_BreakerForced.j3] at H
           by_cases c85 : x95_81 = true
           ·subst c85
            have H1 : (variorumlaw11_BreakerForced.l1 kj81 l0 t262 x14_3 x15_3 t266 t267) = some r := by rw [if_pos rfl] at H; exact H
            clear H
            have H := H1
            clear H1
            have H' := a_ H
            clear H
            go_wp2
            go_loopg [14] kj81 (fun kq v14 w' => ∃ (x14_5 : Int), v14 = .int .i64 x14_5 ∧ Aside0 (variorumlaw11_BreakerForced.l1 kq l0 t262 x14_5 x15_3 t266 t267 = some r) ∧ Aside0 (kq ≤ kj81) ∧ Aside0 (Kd.R (Kd.int .i64) 3 w' w.heap.size (fun _ => True) v263 t262) ∧ Aside0 (w'.heap[gb268]? = some (.cells #[.int .i64 t266, .int .i64 t267] 29 (0, 0))) ∧ Aside0 (Below w.heap.size w w'))
            case atStart => exact ⟨(x14_3), (by first | rfl | (simp; done) | (simp [*]; done)), H', ⟨Nat.le_refl _⟩, ⟨by (with_reducible repeat (first | apply Kd.R_alloc | apply Kd.R_drewN | apply Kd.R_drew)); exact HO_11.out⟩, ⟨kv_ BK268.out⟩, ⟨bS1_ HB.out GE268.out⟩⟩
            case round =>
             clear H'
             try clear c1
             try clear p2
             try clear c7
             try clear c8
             try clear c14
             try clear c74
             try clear c74b0
             try clear c74b1
             try clear c74b2
             try clear c81
             try clear c83
             try clear c83b0
             try clear c85
             try clear Z84_0
             try clear Z84_1
             try clear Y84_0
             try clear Y84_1
             try clear p2
             obtain ⟨x14_5, rfl, HA, HK5, HO_11, BK268, HB⟩ := hrel
             cases gk with
             | zero => exact absurd HA.out (by simp [variorumlaw11_BreakerForced.l1])
             | succ k5 =>
              have H := HA.out
              clear HA
              simp only [variorumlaw11_BreakerForced.l1] at H
              by_cases c86 : x14_5 < (t262.length : Int)
              ·rw [if_pos c86] at H
               have c86b0 : decide (x14_5 < (t262.length : Int)) = true := decide_eq_true c86
               clear c86
               by_cases c87 : 0 ≤ x14_5
               ·rw [if_pos c87] at H
                have c87b0 : decide (0 ≤ x14_5) = true := decide_eq_true c87
                clear c87
                by_cases c88 : (rd t262 x14_5) < x15_3
                ·rw [if_pos c88] at H
                 have c88b0 : decide ((rd t262 x14_5) < x15_3) = true := decide_eq_true c88
                 clear c88
                 have H' := a_ H
                 clear H
                 obtain ⟨Ao89, co89, eo89⟩ := Kd.R_slice HO_11.out
                 subst eo89
                 have p273 : 0 ≤ (x14_5 : Int) := od_
                 have q273 : x14_5 < (t262.length : Int) := od_
                 obtain ⟨ad273, e273, hx273_0⟩ := Kd.at_int (Kd.R_reads' HO_11.out).2.2 x14_5 p273 q273
                 cases e273
                 replace p273 := eq_true p273
                 replace q273 := eq_true q273
                 go_wp2
                 go_roundg k5
                 case measure => have := HJ2.out; have := HJ13.out; have := HK3.out; have := HJ81.out; have := HK5.out; omega
                 case rel => exact ⟨(wrap64 (x14_5 + 1)), (by first | rfl | (simp; done) | (simp [*]; done)), H', ⟨by have := HJ2.out; have := HJ13.out; have := HK3.out; have := HJ81.out; have := HK5.out; omega⟩, ⟨by (with_reducible repeat (first | apply Kd.R_alloc | apply Kd.R_drewN | apply Kd.R_drew)); exact HO_11.out⟩, ⟨kv_ BK268.out⟩, ⟨bS1_ HB.out GE268.out⟩⟩
                ·rw [if_neg c88] at H
                 have c88b0 : decide ((rd t262 x14_5) < x15_3) = false := decide_eq_false c88
                 clear c88
                 by_cases c90 : 0 ≤ x15_3
                 ·rw [if_pos c90] at H
                  have c90b0 : decide (0 ≤ x15_3) = true := decide_eq_true c90
                  clear c90
                  by_cases c91 : x15_3 < (l0.length : Int)
                  ·rw [if_pos c91] at H
                   have c91b0 : decide (x15_3 < (l0.length : Int)) = true := decide_eq_true c91
                   clear c91
                   replace H := Option.bind_eq_some_iff.mp H
                   obtain ⟨t275, A920, H⟩ := H
                   replace H : (if t275 = true then (if x14_5 ≥ (t262.length : Int) then (none) else (if (rd t262 x14_5) = x15_3 then (variorumlaw11_BreakerForced.l0 k5 l0 t262 x14_5 (wrap64 (x15_3 + 1)) t266 t267) else (none))) else (variorumlaw11_BreakerForced.l0 k5 l0 t262 x14_5 (wrap64 (x15_3 + 1)) t266 t267)) = some r := H
                   have A92 := a_ A920
                   clear A920
                   by_cases c93 : t275 = true
                   ·subst c93
                    have H1 : (if x14_5 ≥ (t262.length : Int) then (none) else (if (rd t262 x14_5) = x15_3 then (variorumlaw11_BreakerForced.l0 k5 l0 t262 x14_5 (wrap64 (x15_3 + 1)) t266 t267) else (none))) = some r := by rw [if_pos rfl] at H; exact H
                    clear H
                    have H := H1
                    clear H1
                    by_cases c94 : x14_5 ≥ (t262.length : Int)
                    ·rw [if_pos c94] at H
                     exact absurd H (by simp)
                    ·rw [if_neg c94] at H
                     have c94b0 : decide ((t262.length : Int) ≤ x14_5) = false := decide_eq_false c94
                     clear c94
                     by_cases c95 : (rd t262 x14_5) = x15_3
                     ·rw [if_pos c95] at H
                      have c95b0 : ((rd t262 x14_5) == x15_3) = true := beq_iff_eq.mpr c95
                      have c95b1 : ((rd t262 x14_5) != x15_3) = false := bne_eq_false_iff_eq.mpr c95
                      clear c95
                      have H' := a_ H
                      clear H
                      obtain ⟨Ao96, co96, eo96⟩ := Kd.R_slice HO_11.out
                      subst eo96
                      have p273 : 0 ≤ (x14_5 : Int) := od_
                      have q273 : x14_5 < (t262.length : Int) := od_
                      obtain ⟨ad273, e273, hx273_0⟩ := Kd.at_int (Kd.R_reads' HO_11.out).2.2 x14_5 p273 q273
                      cases e273
                      replace p273 := eq_true p273
                      replace q273 := eq_true q273
                      have p274 : 0 ≤ (x15_3 : Int) := od_
                      have q274 : x15_3 < (l0.length : Int) := od_
                      obtain ⟨ad274, e274, hx274_0, hx274_1, hx274_2, hx274_3, hx274_4, hx274_5, hx274_6, hx274_7, hx274_8⟩ := at_T47 (Kd.C_below HR0.out HB.out) x15_3 p274 q274
                      cases e274
                      replace p274 := eq_true p274
                      replace q274 := eq_true q274
                      go_wp2_with (first | ((with_reducible refine gate_callee (f := 19) rfl ?_); refine gl_ (some 116) Try.func19 (by kernel_rfl) #[.agg #[.int .i64 ((rd_T47 l0 x15_3).f0), .int .i64 ((rd_T47 l0 x15_3).f1.f0), .int .i64 ((rd_T47 l0 x15_3).f1.f1), .int .i64 ((rd_T47 l0 x15_3).f1.f2), .int .i64 ((rd_T47 l0 x15_3).f1.f3), .int .i64 ((rd_T47 l0 x15_3).f2), .bool ((rd_T47 l0 x15_3).f3), .int .i64 ((rd_T47 l0 x15_3).f4), .int .i64 ((rd_T47 l0 x15_3).f5)]] ?_; (with_reducible refine (variorumref10_Forced.calls ((rd_T47 l0 x15_3).f0) ((rd_T47 l0 x15_3).f1.f0) ((rd_T47 l0 x15_3).f1.f1) ((rd_T47 l0 x15_3).f1.f2) ((rd_T47 l0 x15_3).f1.f3) ((rd_T47 l0 x15_3).f2) ((rd_T47 l0 x15_3).f3) ((rd_T47 l0 x15_3).f4) ((rd_T47 l0 x15_3).f5) true _ A92.out).mono ?_); rintro e w97 ⟨rfl, hb⟩; refine ⟨_, rfl, ?_⟩; have n0_ := a_ (Kd.R_below (rv_ HO_11.out) hb); have n1_ := a_ (kb_ BK268.out hb); have n2_ := a_ (below_step (bS1_ HB.out GE268.out) hb); clear HO_11; clear BK268; clear HB; have HO_11 := n0_; have BK268 := n1_; have HB := n2_; clear n0_ n1_ n2_; (try clear hb); (try clear hb2); (try clear hk); (try clear hi); have p276 : 0 ≤ (x14_5 : Int) := od_; have q276 : x14_5 < (t262.length : Int) := od_; obtain ⟨ad276, e276, hx276_0⟩ := Kd.at_int (Kd.R_reads' HO_11.out).2.2 x14_5 p276 q276; obtain rfl : ad273 = ad276 := (by injection e276); replace p276 := eq_true p276; replace q276 := eq_true q276))
                      go_roundg k5
                      case measure => have := HJ2.out; have := HJ13.out; have := HK3.out; have := HJ81.out; have := HK5.out; omega
                      case rel => exact ⟨(x14_5), (wrap64 (x15_3 + 1)), (by first | rfl | (simp; done) | (simp [*]; done)), (by first | rfl | (simp; done) | (simp [*]; done)), H', ⟨by have := HJ2.out; have := HJ13.out; have := HK3.out; have := HJ81.out; have := HK5.out; omega⟩, ⟨by (with_reducible repeat (first | apply Kd.R_alloc | apply Kd.R_drewN | apply Kd.R_drew)); exact HO_11.out⟩, ⟨kv_ BK268.out⟩, ⟨bS1_ HB.out GE268.out⟩⟩
                     ·rw [if_neg c95] at H
                      exact absurd H (by simp)
                   ·replace c93 := Bool.eq_false_iff.mpr c93
                    subst c93
                    have H1 : (variorumlaw11_BreakerForced.l0 k5 l0 t262 x14_5 (wrap64 (x15_3 + 1)) t266 t267) = some r := by rw [if_neg (show ¬ (false = true) by decide)] at H; exact H
                    clear H
                    have H := H1
                    clear H1
                    have H' := a_ H
                    clear H
                    obtain ⟨Ao98, co98, eo98⟩ := Kd.R_slice HO_11.out
                    subst eo98
                    have p273 : 0 ≤ (x14_5 : Int) := od_
                    have q273 : x14_5 < (t262.length : Int) := od_
                    obtain ⟨ad273, e273, hx273_0⟩ := Kd.at_int (Kd.R_reads' HO_11.out).2.2 x14_5 p273 q273
                    cases e273
                    replace p273 := eq_true p273
                    replace q273 := eq_true q273
                    have p274 : 0 ≤ (x15_3 : Int) := od_
                    have q274 : x15_3 < (l0.length : Int) := od_
                    obtain ⟨ad274, e274, hx274_0, hx274_1, hx274_2, hx274_3, hx274_4, hx274_5, hx274_6, hx274_7, hx274_8⟩ := at_T47 (Kd.C_below HR0.out HB.out) x15_3 p274 q274
                    cases e274
                    replace p274 := eq_true p274
                    replace q274 := eq_true q274
                    go_wp2_with (first | ((with_reducible refine gate_callee (f := 19) rfl ?_); refine gl_ (some 116) Try.func19 (by kernel_rfl) #[.agg #[.int .i64 ((rd_T47 l0 x15_3).f0), .int .i64 ((rd_T47 l0 x15_3).f1.f0), .int .i64 ((rd_T47 l0 x15_3).f1.f1), .int .i64 ((rd_T47 l0 x15_3).f1.f2), .int .i64 ((rd_T47 l0 x15_3).f1.f3), .int .i64 ((rd_T47 l0 x15_3).f2), .bool ((rd_T47 l0 x15_3).f3), .int .i64 ((rd_T47 l0 x15_3).f4), .int .i64 ((rd_T47 l0 x15_3).f5)]] ?_; (with_reducible refine (variorumref10_Forced.calls ((rd_T47 l0 x15_3).f0) ((rd_T47 l0 x15_3).f1.f0) ((rd_T47 l0 x15_3).f1.f1) ((rd_T47 l0 x15_3).f1.f2) ((rd_T47 l0 x15_3).f1.f3) ((rd_T47 l0 x15_3).f2) ((rd_T47 l0 x15_3).f3) ((rd_T47 l0 x15_3).f4) ((rd_T47 l0 x15_3).f5) false _ A92.out).mono ?_); rintro e w99 ⟨rfl, hb⟩; refine ⟨_, rfl, ?_⟩; have n0_ := a_ (Kd.R_below (rv_ HO_11.out) hb); have n1_ := a_ (kb_ BK268.out hb); have n2_ := a_ (below_step (bS1_ HB.out GE268.out) hb); clear HO_11; clear BK268; clear HB; have HO_11 := n0_; have BK268 := n1_; have HB := n2_; clear n0_ n1_ n2_; (try clear hb); (try clear hb2); (try clear hk); (try clear hi)))
                    go_roundg k5
                    case measure => have := HJ2.out; have := HJ13.out; have := HK3.out; have := HJ81.out; have := HK5.out; omega
                    case rel => exact ⟨(x14_5), (wrap64 (x15_3 + 1)), (by first | rfl | (simp; done) | (simp [*]; done)), (by first | rfl | (simp; done) | (simp [*]; done)), H', ⟨by have := HJ2.out; have := HJ13.out; have := HK3.out; have := HJ81.out; have := HK5.out; omega⟩, ⟨by (with_reducible repeat (first | apply Kd.R_alloc | apply Kd.R_drewN | apply Kd.R_drew)); exact HO_11.out⟩, ⟨kv_ BK268.out⟩, ⟨bS1_ HB.out GE268.out⟩⟩
                  ·rw [if_neg c91] at H
                   exact absurd H (by simp)
                 ·rw [if_neg c90] at H
                  exact absurd H (by simp)
               ·rw [if_neg c87] at H
                exact absurd H (by simp)
              ·rw [if_neg c86] at H
               have c86b0 : decide (x14_5 < (t262.length : Int)) = false := decide_eq_false c86
               clear c86
               by_cases c100 : 0 ≤ x15_3
               ·rw [if_pos c100] at H
                have c100b0 : decide (0 ≤ x15_3) = true := decide_eq_true c100
                clear c100
                by_cases c101 : x15_3 < (l0.length : Int)
                ·rw [if_pos c101] at H
                 have c101b0 : decide (x15_3 < (l0.length : Int)) = true := decide_eq_true c101
                 clear c101
                 replace H := Option.bind_eq_some_iff.mp H
                 obtain ⟨t278, A1020, H⟩ := H
                 replace H : (if t278 = true then (if x14_5 ≥ (t262.length : Int) then (none) else (if 0 ≤ x14_5 then (none) else (none))) else (variorumlaw11_BreakerForced.l0 k5 l0 t262 x14_5 (wrap64 (x15_3 + 1)) t266 t267)) = some r := H
                 have A102 := a_ A1020
                 clear A1020
                 by_cases c103 : t278 = true
                 ·subst c103
                  have H1 : (if x14_5 ≥ (t262.length : Int) then (none) else (if 0 ≤ x14_5 then (none) else (none))) = some r := by rw [if_pos rfl] at H; exact H
                  clear H
                  have H := H1
                  clear H1
                  by_cases c104 : x14_5 ≥ (t262.length : Int)
                  ·rw [if_pos c104] at H
                   exact absurd H (by simp)
                  ·rw [if_neg c104] at H
                   have c104b0 : decide ((t262.length : Int) ≤ x14_5) = false := decide_eq_false c104
                   clear c104
                   by_cases c105 : 0 ≤ x14_5
                   ·rw [if_pos c105] at H
                    exact absurd H (by simp)
                   ·rw [if_neg c105] at H
                    exact absurd H (by simp)
                 ·replace c103 := Bool.eq_false_iff.mpr c103
                  subst c103
                  have H1 : (variorumlaw11_BreakerForced.l0 k5 l0 t262 x14_5 (wrap64 (x15_3 + 1)) t266 t267) = some r := by rw [if_neg (show ¬ (false = true) by decide)] at H; exact H
                  clear H
                  have H := H1
                  clear H1
                  have H' := a_ H
                  clear H
                  obtain ⟨Ao106, co106, eo106⟩ := Kd.R_slice HO_11.out
                  subst eo106
                  have p277 : 0 ≤ (x15_3 : Int) := od_
                  have q277 : x15_3 < (l0.length : Int) := od_
                  obtain ⟨ad277, e277, hx277_0, hx277_1, hx277_2, hx277_3, hx277_4, hx277_5, hx277_6, hx277_7, hx277_8⟩ := at_T47 (Kd.C_below HR0.out HB.out) x15_3 p277 q277
                  cases e277
                  replace p277 := eq_true p277
                  replace q277 := eq_true q277
                  go_wp2_with (first | ((with_reducible refine gate_callee (f := 19) rfl ?_); refine gl_ (some 116) Try.func19 (by kernel_rfl) #[.agg #[.int .i64 ((rd_T47 l0 x15_3).f0), .int .i64 ((rd_T47 l0 x15_3).f1.f0), .int .i64 ((rd_T47 l0 x15_3).f1.f1), .int .i64 ((rd_T47 l0 x15_3).f1.f2), .int .i64 ((rd_T47 l0 x15_3).f1.f3), .int .i64 ((rd_T47 l0 x15_3).f2), .bool ((rd_T47 l0 x15_3).f3), .int .i64 ((rd_T47 l0 x15_3).f4), .int .i64 ((rd_T47 l0 x15_3).f5)]] ?_; (with_reducible refine (variorumref10_Forced.calls ((rd_T47 l0 x15_3).f0) ((rd_T47 l0 x15_3).f1.f0) ((rd_T47 l0 x15_3).f1.f1) ((rd_T47 l0 x15_3).f1.f2) ((rd_T47 l0 x15_3).f1.f3) ((rd_T47 l0 x15_3).f2) ((rd_T47 l0 x15_3).f3) ((rd_T47 l0 x15_3).f4) ((rd_T47 l0 x15_3).f5) false _ A102.out).mono ?_); rintro e w107 ⟨rfl, hb⟩; refine ⟨_, rfl, ?_⟩; have n0_ := a_ (Kd.R_below (rv_ HO_11.out) hb); have n1_ := a_ (kb_ BK268.out hb); have n2_ := a_ (below_step (bS1_ HB.out GE268.out) hb); clear HO_11; clear BK268; clear HB; have HO_11 := n0_; have BK268 := n1_; have HB := n2_; clear n0_ n1_ n2_; (try clear hb); (try clear hb2); (try clear hk); (try clear hi)))
                  go_roundg k5
                  case measure => have := HJ2.out; have := HJ13.out; have := HK3.out; have := HJ81.out; have := HK5.out; omega
                  case rel => exact ⟨(x14_5), (wrap64 (x15_3 + 1)), (by first | rfl | (simp; done) | (simp [*]; done)), (by first | rfl | (simp; done) | (simp [*]; done)), H', ⟨by have := HJ2.out; have := HJ13.out; have := HK3.out; have := HJ81.out; have := HK5.out; omega⟩, ⟨by (with_reducible repeat (first | apply Kd.R_alloc | apply Kd.R_drewN | apply Kd.R_drew)); exact HO_11.out⟩, ⟨kv_ BK268.out⟩, ⟨bS1_ HB.out GE268.out⟩⟩
                ·rw [if_neg c101] at H
                 exact absurd H (by simp)
               ·rw [if_neg c100] at H
                exact absurd H (by simp)
           ·replace c85 := Bool.eq_false_iff.mpr c85
            subst c85
            have H1 : (some true) = some r := by rw [if_neg (show ¬ (false = true) by decide)] at H; exact H
            clear H
            have H := H1
            clear H1
            obtain rfl := Option.some.inj H
            go_wp2
            go_ret
            exact ⟨by first | rfl | (simp [errW_none, errW_some] <;> rfl) | (simp [*, errW_none, errW_some] <;> rfl), bS1_ HB.out GE268.out⟩

/-- The one statement about numbers and lists that is left of the law. -/
def variorumlaw11_BreakerForced.Pure : Prop := ∀ (x0 : List (S47)) (x1 : Int), (x0.length * 72 ≤ 140737488351232 ∧ ∀ y0 ∈ x0, ((Lit.int .i64 y0.f0).wf = true ∧ (((Lit.int .i64 y0.f1.f0).wf = true ∧ ((Lit.int .i64 y0.f1.f1).wf = true ∧ ((Lit.int .i64 y0.f1.f2).wf = true ∧ ((Lit.int .i64 y0.f1.f3).wf = true)))) ∧ ((Lit.int .i64 y0.f2).wf = true ∧ (True ∧ ((Lit.int .i64 y0.f4).wf = true ∧ ((Lit.int .i64 y0.f5).wf = true))))))) → (Lit.int .i64 x1).wf = true → ∃ k, variorumlaw11_BreakerForced.f k x0 x1 = some true

end Go.Proofs.Ytnkdopihaohimaa.PBr

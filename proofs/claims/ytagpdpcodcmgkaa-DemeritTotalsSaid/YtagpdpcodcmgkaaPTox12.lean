/- Written by a program of this session: functions of the given program as plain Lean functions, the walks that show it, and the row of each law, for every input that its statement speaks of. -/
import Derived.Test.YtagpdpcodcmgkaaPTox0
import Derived.Test.YtagpdpcodcmgkaaPTox11
namespace Go.Proofs.Ytagpdpcodcmgkaa.PTo
open Go.RowKit Go.Proofs.YtagpdpcodcmgkaaW.PrintWords Go.Proofs.YtagpdpcodcmgkaaW.PrintLast
set_option linter.unusedVariables false
set_option linter.unusedSimpArgs false

/-! ### variorumref10_Cost: function 15 -/
mutual
def variorumref10_Cost.j0 : Nat → List (S47) → Int → Int → Bool → Int → Int → Int → Int → Option (Int × Int × Bool)
 | 0, _, _, _, _, _, _, _, _ => none
 | k + 1, x0, x1, x2, x39, x336000, x336001, x336002, x336003 => if x39 = true then (some (0, 0, false)) else (if 0 ≤ x2 then (if x2 < (x0.length : Int) then (if ((rd_T47 x0 x2).f0) = 2 then (variorumref10_Cost.j1 k x0 x1 x2 x336003 (wrap64 ((wrap64 (x336003 + 10)) * (wrap64 (x336003 + 10)))) ((rd_T47 x0 x2).f2) (decide (((rd_T47 x0 x2).f2) > 0)) x336000 x336001 x336002 x336003) else (variorumref10_Cost.j1 k x0 x1 x2 x336003 (wrap64 ((wrap64 (x336003 + 10)) * (wrap64 (x336003 + 10)))) ((rd_T47 x0 x2).f2) false x336000 x336001 x336002 x336003)) else (none)) else (none))
def variorumref10_Cost.j1 : Nat → List (S47) → Int → Int → Int → Int → Int → Bool → Int → Int → Int → Int → Option (Int × Int × Bool)
 | 0, _, _, _, _, _, _, _, _, _, _, _ => none
 | k + 1, x0, x1, x2, x15, x16, x17, x61, x336000, x336001, x336002, x336003 => if x61 = true then (variorumref10_Cost.j2 k x0 x1 x2 x15 (wrap64 (x16 + (wrap64 (x17 * x17)))) x17 x336000 x336001 x336002 x336003) else (variorumref10_Cost.j2 k x0 x1 x2 x15 x16 x17 x336000 x336001 x336002 x336003)
def variorumref10_Cost.j2 : Nat → List (S47) → Int → Int → Int → Int → Int → Int → Int → Int → Int → Option (Int × Int × Bool)
 | 0, _, _, _, _, _, _, _, _, _, _ => none
 | k + 1, x0, x1, x2, x15, x16, x17, x336000, x336001, x336002, x336003 => if 0 ≤ x2 then (if x2 < (x0.length : Int) then (if ((rd_T47 x0 x2).f0) = 2 then (if x17 < 0 then (variorumref10_Cost.j3 k x0 x1 x2 x15 x16 x17 (x17 != (-10000)) x336000 x336001 x336002 x336003) else (variorumref10_Cost.j3 k x0 x1 x2 x15 x16 x17 false x336000 x336001 x336002 x336003)) else (variorumref10_Cost.j3 k x0 x1 x2 x15 x16 x17 false x336000 x336001 x336002 x336003)) else (none)) else (none)
def variorumref10_Cost.j3 : Nat → List (S47) → Int → Int → Int → Int → Int → Bool → Int → Int → Int → Int → Option (Int × Int × Bool)
 | 0, _, _, _, _, _, _, _, _, _, _, _ => none
 | k + 1, x0, x1, x2, x15, x16, x17, x80, x336000, x336001, x336002, x336003 => if x80 = true then (variorumref10_Cost.j4 k x0 x1 x2 x15 (wrap64 (x16 - (wrap64 (x17 * x17)))) x336000 x336001 x336002 x336003) else (variorumref10_Cost.j4 k x0 x1 x2 x15 x16 x336000 x336001 x336002 x336003)
def variorumref10_Cost.j4 : Nat → List (S47) → Int → Int → Int → Int → Int → Int → Int → Int → Option (Int × Int × Bool)
 | 0, _, _, _, _, _, _, _, _, _ => none
 | k + 1, x0, x1, x2, x15, x16, x336000, x336001, x336002, x336003 => if x1 ≥ 0 then (if 0 ≤ x1 then (if x1 < (x0.length : Int) then (if (rd_T47 x0 x1).f3 = true then (if 0 ≤ x2 then (if x2 < (x0.length : Int) then (variorumref10_Cost.j5 k x15 x16 ((rd_T47 x0 x2).f3) x336000 x336001 x336002 x336003) else (none)) else (none)) else (variorumref10_Cost.j5 k x15 x16 false x336000 x336001 x336002 x336003)) else (none)) else (none)) else (variorumref10_Cost.j5 k x15 x16 false x336000 x336001 x336002 x336003)
def variorumref10_Cost.j5 : Nat → Int → Int → Bool → Int → Int → Int → Int → Option (Int × Int × Bool)
 | 0, _, _, _, _, _, _, _ => none
 | k + 1, x15, x16, x101, x336000, x336001, x336002, x336003 => if x101 = true then (variorumref10_Cost.j6 k x15 (wrap64 (x16 + 10000)) x336000 x336001 x336002 x336003) else (variorumref10_Cost.j6 k x15 x16 x336000 x336001 x336002 x336003)
def variorumref10_Cost.j6 : Nat → Int → Int → Int → Int → Int → Int → Option (Int × Int × Bool)
 | 0, _, _, _, _, _, _ => none
 | k + 1, x15, x16, x336000, x336001, x336002, x336003 => if x15 < 100 then (variorumref10_Cost.j7 k x15 x16 1 x336000 x336001 x336002 x336003) else (variorumref10_Cost.j7 k x15 x16 0 x336000 x336001 x336002 x336003)
def variorumref10_Cost.j7 : Nat → Int → Int → Int → Int → Int → Int → Int → Option (Int × Int × Bool)
 | 0, _, _, _, _, _, _, _ => none
 | k + 1, x15, x16, x18, x336000, x336001, x336002, x336003 => if x336000 = (-1) then (if x15 ≤ 12 then (some (x16, 2, true)) else (some (x16, 3, true))) else (if x15 ≤ 12 then (some (x16, 2, true)) else (some (x16, x18, true)))
end
def variorumref10_Cost.f (k : Nat) (l0 : List (S47)) (a1 : Int) (a2 : Int) (a3 : Int) (a4 : Int) : Option (Int × Int × Bool) := (variorumref10_Line.f k l0 a1 a2 a3).bind fun bt330 => (if bt330.2.2.2.2 = true then (if bt330.2.2.2.1 > a4 then (variorumref10_Cost.j0 k l0 a1 a2 true bt330.1 bt330.2.1 bt330.2.2.1 bt330.2.2.2.1) else (variorumref10_Cost.j0 k l0 a1 a2 (decide (bt330.2.2.2.1 > 10000)) bt330.1 bt330.2.1 bt330.2.2.1 bt330.2.2.2.1)) else (variorumref10_Cost.j0 k l0 a1 a2 true bt330.1 bt330.2.1 bt330.2.2.1 bt330.2.2.2.1))
theorem variorumref10_Cost.mono_l : ∀ k, (∀ y0 y1 y2 y3 y4 y5 y6 y7, LeO (variorumref10_Cost.j0 k y0 y1 y2 y3 y4 y5 y6 y7) (variorumref10_Cost.j0 (k + 1) y0 y1 y2 y3 y4 y5 y6 y7)) ∧ (∀ y0 y1 y2 y3 y4 y5 y6 y7 y8 y9 y10, LeO (variorumref10_Cost.j1 k y0 y1 y2 y3 y4 y5 y6 y7 y8 y9 y10) (variorumref10_Cost.j1 (k + 1) y0 y1 y2 y3 y4 y5 y6 y7 y8 y9 y10)) ∧ (∀ y0 y1 y2 y3 y4 y5 y6 y7 y8 y9, LeO (variorumref10_Cost.j2 k y0 y1 y2 y3 y4 y5 y6 y7 y8 y9) (variorumref10_Cost.j2 (k + 1) y0 y1 y2 y3 y4 y5 y6 y7 y8 y9)) ∧ (∀ y0 y1 y2 y3 y4 y5 y6 y7 y8 y9 y10, LeO (variorumref10_Cost.j3 k y0 y1 y2 y3 y4 y5 y6 y7 y8 y9 y10) (variorumref10_Cost.j3 (k + 1) y0 y1 y2 y3 y4 y5 y6 y7 y8 y9 y10)) ∧ (∀ y0 y1 y2 y3 y4 y5 y6 y7 y8, LeO (variorumref10_Cost.j4 k y0 y1 y2 y3 y4 y5 y6 y7 y8) (variorumref10_Cost.j4 (k + 1) y0 y1 y2 y3 y4 y5 y6 y7 y8)) ∧ (∀ y0 y1 y2 y3 y4 y5 y6, LeO (variorumref10_Cost.j5 k y0 y1 y2 y3 y4 y5 y6) (variorumref10_Cost.j5 (k + 1) y0 y1 y2 y3 y4 y5 y6)) ∧ (∀ y0 y1 y2 y3 y4 y5, LeO (variorumref10_Cost.j6 k y0 y1 y2 y3 y4 y5) (variorumref10_Cost.j6 (k + 1) y0 y1 y2 y3 y4 y5)) ∧ (∀ y0 y1 y2 y3 y4 y5 y6, LeO (variorumref10_Cost.j7 k y0 y1 y2 y3 y4 y5 y6) (variorumref10_Cost.j7 (k + 1) y0 y1 y2 y3 y4 y5 y6))
 | 0 => ⟨fun _ _ _ _ _ _ _ _ r h => by simp [variorumref10_Cost.j0] at h, fun _ _ _ _ _ _ _ _ _ _ _ r h => by simp [variorumref10_Cost.j1] at h, fun _ _ _ _ _ _ _ _ _ _ r h => by simp [variorumref10_Cost.j2] at h, fun _ _ _ _ _ _ _ _ _ _ _ r h => by simp [variorumref10_Cost.j3] at h, fun _ _ _ _ _ _ _ _ _ r h => by simp [variorumref10_Cost.j4] at h, fun _ _ _ _ _ _ _ r h => by simp [variorumref10_Cost.j5] at h, fun _ _ _ _ _ _ r h => by simp [variorumref10_Cost.j6] at h, fun _ _ _ _ _ _ _ r h => by simp [variorumref10_Cost.j7] at h⟩
 | k + 1 => by
  obtain ⟨ih0, ih1, ih2, ih3, ih4, ih5, ih6, ih7⟩ := variorumref10_Cost.mono_l k
  refine ⟨?_, ?_, ?_, ?_, ?_, ?_, ?_, ?_⟩
  ·intro y0 y1 y2 y3 y4 y5 y6 y7
   unfold variorumref10_Cost.j0
   repeat' first
   | (with_reducible exact ih0 _ _ _ _ _ _ _ _)
   | (with_reducible exact ih1 _ _ _ _ _ _ _ _ _ _ _)
   | (with_reducible exact ih2 _ _ _ _ _ _ _ _ _ _)
   | (with_reducible exact ih3 _ _ _ _ _ _ _ _ _ _ _)
   | (with_reducible exact ih4 _ _ _ _ _ _ _ _ _)
   | (with_reducible exact ih5 _ _ _ _ _ _ _)
   | (with_reducible exact ih6 _ _ _ _ _ _)
   | (with_reducible exact ih7 _ _ _ _ _ _ _)
   | (with_reducible exact variorumref10_Line.mono _ _ _ _ _)
   | (with_reducible exact LeO.refl _)
   | (with_reducible exact LeO.none _)
   | (with_reducible refine LeO.ite ?_ ?_)
   | (with_reducible refine LeO.bind ?_ (fun _ => ?_))
   | exact ih0 _ _ _ _ _ _ _ _
   | exact ih1 _ _ _ _ _ _ _ _ _ _ _
   | exact ih2 _ _ _ _ _ _ _ _ _ _
   | exact ih3 _ _ _ _ _ _ _ _ _ _ _
   | exact ih4 _ _ _ _ _ _ _ _ _
   | exact ih5 _ _ _ _ _ _ _
   | exact ih6 _ _ _ _ _ _
   | exact ih7 _ _ _ _ _ _ _
   | exact variorumref10_Line.mono _ _ _ _ _
   | exact LeO.none _
   | refine LeO.ite ?_ ?_
   | refine LeO.bind ?_ (fun _ => ?_)
  ·intro y0 y1 y2 y3 y4 y5 y6 y7 y8 y9 y10
   unfold variorumref10_Cost.j1
   repeat' first
   | (with_reducible exact ih0 _ _ _ _ _ _ _ _)
   | (with_reducible exact ih1 _ _ _ _ _ _ _ _ _ _ _)
   | (with_reducible exact ih2 _ _ _ _ _ _ _ _ _ _)
   | (with_reducible exact ih3 _ _ _ _ _ _ _ _ _ _ _)
   | (with_reducible exact ih4 _ _ _ _ _ _ _ _ _)
   | (with_reducible exact ih5 _ _ _ _ _ _ _)
   | (with_reducible exact ih6 _ _ _ _ _ _)
   | (with_reducible exact ih7 _ _ _ _ _ _ _)
   | (with_reducible exact variorumref10_Line.mono _ _ _ _ _)
   | (with_reducible exact LeO.refl _)
   | (with_reducible exact LeO.none _)
   | (with_reducible refine LeO.ite ?_ ?_)
   | (with_reducible refine LeO.bind ?_ (fun _ => ?_))
   | exact ih0 _ _ _ _ _ _ _ _
   | exact ih1 _ _ _ _ _ _ _ _ _ _ _
   | exact ih2 _ _ _ _ _ _ _ _ _ _
   | exact ih3 _ _ _ _ _ _ _ _ _ _ _
   | exact ih4 _ _ _ _ _ _ _ _ _
   | exact ih5 _ _ _ _ _ _ _
   | exact ih6 _ _ _ _ _ _
   | exact ih7 _ _ _ _ _ _ _
   | exact variorumref10_Line.mono _ _ _ _ _
   | exact LeO.none _
   | refine LeO.ite ?_ ?_
   | refine LeO.bind ?_ (fun _ => ?_)
  ·intro y0 y1 y2 y3 y4 y5 y6 y7 y8 y9
   unfold variorumref10_Cost.j2
   repeat' first
   | (with_reducible exact ih0 _ _ _ _ _ _ _ _)
   | (with_reducible exact ih1 _ _ _ _ _ _ _ _ _ _ _)
   | (with_reducible exact ih2 _ _ _ _ _ _ _ _ _ _)
   | (with_reducible exact ih3 _ _ _ _ _ _ _ _ _ _ _)
   | (with_reducible exact ih4 _ _ _ _ _ _ _ _ _)
   | (with_reducible exact ih5 _ _ _ _ _ _ _)
   | (with_reducible exact ih6 _ _ _ _ _ _)
   | (with_reducible exact ih7 _ _ _ _ _ _ _)
   | (with_reducible exact variorumref10_Line.mono _ _ _ _ _)
   | (with_reducible exact LeO.refl _)
   | (with_reducible exact LeO.none _)
   | (with_reducible refine LeO.ite ?_ ?_)
   | (with_reducible refine LeO.bind ?_ (fun _ => ?_))
   | exact ih0 _ _ _ _ _ _ _ _
   | exact ih1 _ _ _ _ _ _ _ _ _ _ _
   | exact ih2 _ _ _ _ _ _ _ _ _ _
   | exact ih3 _ _ _ _ _ _ _ _ _ _ _
   | exact ih4 _ _ _ _ _ _ _ _ _
   | exact ih5 _ _ _ _ _ _ _
   | exact ih6 _ _ _ _ _ _
   | exact ih7 _ _ _ _ _ _ _
   | exact variorumref10_Line.mono _ _ _ _ _
   | exact LeO.none _
   | refine LeO.ite ?_ ?_
   | refine LeO.bind ?_ (fun _ => ?_)
  ·intro y0 y1 y2 y3 y4 y5 y6 y7 y8 y9 y10
   unfold variorumref10_Cost.j3
   repeat' first
   | (with_reducible exact ih0 _ _ _ _ _ _ _ _)
   | (with_reducible exact ih1 _ _ _ _ _ _ _ _ _ _ _)
   | (with_reducible exact ih2 _ _ _ _ _ _ _ _ _ _)
   | (with_reducible exact ih3 _ _ _ _ _ _ _ _ _ _ _)
   | (with_reducible exact ih4 _ _ _ _ _ _ _ _ _)
   | (with_reducible exact ih5 _ _ _ _ _ _ _)
   | (with_reducible exact ih6 _ _ _ _ _ _)
   | (with_reducible exact ih7 _ _ _ _ _ _ _)
   | (with_reducible exact variorumref10_Line.mono _ _ _ _ _)
   | (with_reducible exact LeO.refl _)
   | (with_reducible exact LeO.none _)
   | (with_reducible refine LeO.ite ?_ ?_)
   | (with_reducible refine LeO.bind ?_ (fun _ => ?_))
   | exact ih0 _ _ _ _ _ _ _ _
   | exact ih1 _ _ _ _ _ _ _ _ _ _ _
   | exact ih2 _ _ _ _ _ _ _ _ _ _
   | exact ih3 _ _ _ _ _ _ _ _ _ _ _
   | exact ih4 _ _ _ _ _ _ _ _ _
   | exact ih5 _ _ _ _ _ _ _
   | exact ih6 _ _ _ _ _ _
   | exact ih7 _ _ _ _ _ _ _
   | exact variorumref10_Line.mono _ _ _ _ _
   | exact LeO.none _
   | refine LeO.ite ?_ ?_
   | refine LeO.bind ?_ (fun _ => ?_)
  ·intro y0 y1 y2 y3 y4 y5 y6 y7 y8
   unfold variorumref10_Cost.j4
   repeat' first
   | (with_reducible exact ih0 _ _ _ _ _ _ _ _)
   | (with_reducible exact ih1 _ _ _ _ _ _ _ _ _ _ _)
   | (with_reducible exact ih2 _ _ _ _ _ _ _ _ _ _)
   | (with_reducible exact ih3 _ _ _ _ _ _ _ _ _ _ _)
   | (with_reducible exact ih4 _ _ _ _ _ _ _ _ _)
   | (with_reducible exact ih5 _ _ _ _ _ _ _)
   | (with_reducible exact ih6 _ _ _ _ _ _)
   | (with_reducible exact ih7 _ _ _ _ _ _ _)
   | (with_reducible exact variorumref10_Line.mono _ _ _ _ _)
   | (with_reducible exact LeO.refl _)
   | (with_reducible exact LeO.none _)
   | (with_reducible refine LeO.ite ?_ ?_)
   | (with_reducible refine LeO.bind ?_ (fun _ => ?_))
   | exact ih0 _ _ _ _ _ _ _ _
   | exact ih1 _ _ _ _ _ _ _ _ _ _ _
   | exact ih2 _ _ _ _ _ _ _ _ _ _
   | exact ih3 _ _ _ _ _ _ _ _ _ _ _
   | exact ih4 _ _ _ _ _ _ _ _ _
   | exact ih5 _ _ _ _ _ _ _
   | exact ih6 _ _ _ _ _ _
   | exact ih7 _ _ _ _ _ _ _
   | exact variorumref10_Line.mono _ _ _ _ _
   | exact LeO.none _
   | refine LeO.ite ?_ ?_
   | refine LeO.bind ?_ (fun _ => ?_)
  ·intro y0 y1 y2 y3 y4 y5 y6
   unfold variorumref10_Cost.j5
   repeat' first
   | (with_reducible exact ih0 _ _ _ _ _ _ _ _)
   | (with_reducible exact ih1 _ _ _ _ _ _ _ _ _ _ _)
   | (with_reducible exact ih2 _ _ _ _ _ _ _ _ _ _)
   | (with_reducible exact ih3 _ _ _ _ _ _ _ _ _ _ _)
   | (with_reducible exact ih4 _ _ _ _ _ _ _ _ _)
   | (with_reducible exact ih5 _ _ _ _ _ _ _)
   | (with_reducible exact ih6 _ _ _ _ _ _)
   | (with_reducible exact ih7 _ _ _ _ _ _ _)
   | (with_reducible exact variorumref10_Line.mono _ _ _ _ _)
   | (with_reducible exact LeO.refl _)
   | (with_reducible exact LeO.none _)
   | (with_reducible refine LeO.ite ?_ ?_)
   | (with_reducible refine LeO.bind ?_ (fun _ => ?_))
   | exact ih0 _ _ _ _ _ _ _ _
   | exact ih1 _ _ _ _ _ _ _ _ _ _ _
   | exact ih2 _ _ _ _ _ _ _ _ _ _
   | exact ih3 _ _ _ _ _ _ _ _ _ _ _
   | exact ih4 _ _ _ _ _ _ _ _ _
   | exact ih5 _ _ _ _ _ _ _
   | exact ih6 _ _ _ _ _ _
   | exact ih7 _ _ _ _ _ _ _
   | exact variorumref10_Line.mono _ _ _ _ _
   | exact LeO.none _
   | refine LeO.ite ?_ ?_
   | refine LeO.bind ?_ (fun _ => ?_)
  ·intro y0 y1 y2 y3 y4 y5
   unfold variorumref10_Cost.j6
   repeat' first
   | (with_reducible exact ih0 _ _ _ _ _ _ _ _)
   | (with_reducible exact ih1 _ _ _ _ _ _ _ _ _ _ _)
   | (with_reducible exact ih2 _ _ _ _ _ _ _ _ _ _)
   | (with_reducible exact ih3 _ _ _ _ _ _ _ _ _ _ _)
   | (with_reducible exact ih4 _ _ _ _ _ _ _ _ _)
   | (with_reducible exact ih5 _ _ _ _ _ _ _)
   | (with_reducible exact ih6 _ _ _ _ _ _)
   | (with_reducible exact ih7 _ _ _ _ _ _ _)
   | (with_reducible exact variorumref10_Line.mono _ _ _ _ _)
   | (with_reducible exact LeO.refl _)
   | (with_reducible exact LeO.none _)
   | (with_reducible refine LeO.ite ?_ ?_)
   | (with_reducible refine LeO.bind ?_ (fun _ => ?_))
   | exact ih0 _ _ _ _ _ _ _ _
   | exact ih1 _ _ _ _ _ _ _ _ _ _ _
   | exact ih2 _ _ _ _ _ _ _ _ _ _
   | exact ih3 _ _ _ _ _ _ _ _ _ _ _
   | exact ih4 _ _ _ _ _ _ _ _ _
   | exact ih5 _ _ _ _ _ _ _
   | exact ih6 _ _ _ _ _ _
   | exact ih7 _ _ _ _ _ _ _
   | exact variorumref10_Line.mono _ _ _ _ _
   | exact LeO.none _
   | refine LeO.ite ?_ ?_
   | refine LeO.bind ?_ (fun _ => ?_)
  ·intro y0 y1 y2 y3 y4 y5 y6
   unfold variorumref10_Cost.j7
   repeat' first
   | (with_reducible exact ih0 _ _ _ _ _ _ _ _)
   | (with_reducible exact ih1 _ _ _ _ _ _ _ _ _ _ _)
   | (with_reducible exact ih2 _ _ _ _ _ _ _ _ _ _)
   | (with_reducible exact ih3 _ _ _ _ _ _ _ _ _ _ _)
   | (with_reducible exact ih4 _ _ _ _ _ _ _ _ _)
   | (with_reducible exact ih5 _ _ _ _ _ _ _)
   | (with_reducible exact ih6 _ _ _ _ _ _)
   | (with_reducible exact ih7 _ _ _ _ _ _ _)
   | (with_reducible exact variorumref10_Line.mono _ _ _ _ _)
   | (with_reducible exact LeO.refl _)
   | (with_reducible exact LeO.none _)
   | (with_reducible refine LeO.ite ?_ ?_)
   | (with_reducible refine LeO.bind ?_ (fun _ => ?_))
   | exact ih0 _ _ _ _ _ _ _ _
   | exact ih1 _ _ _ _ _ _ _ _ _ _ _
   | exact ih2 _ _ _ _ _ _ _ _ _ _
   | exact ih3 _ _ _ _ _ _ _ _ _ _ _
   | exact ih4 _ _ _ _ _ _ _ _ _
   | exact ih5 _ _ _ _ _ _ _
   | exact ih6 _ _ _ _ _ _
   | exact ih7 _ _ _ _ _ _ _
   | exact variorumref10_Line.mono _ _ _ _ _
   | exact LeO.none _
   | refine LeO.ite ?_ ?_
   | refine LeO.bind ?_ (fun _ => ?_)
theorem variorumref10_Cost.mono : ∀ a0 a1 a2 a3 a4 k, LeO (variorumref10_Cost.f k a0 a1 a2 a3 a4) (variorumref10_Cost.f (k + 1) a0 a1 a2 a3 a4) := by
 intro a0 a1 a2 a3 a4 k
 obtain ⟨ih0, ih1, ih2, ih3, ih4, ih5, ih6, ih7⟩ := variorumref10_Cost.mono_l k
 unfold variorumref10_Cost.f
 repeat' first
   | (with_reducible exact ih0 _ _ _ _ _ _ _ _)
   | (with_reducible exact ih1 _ _ _ _ _ _ _ _ _ _ _)
   | (with_reducible exact ih2 _ _ _ _ _ _ _ _ _ _)
   | (with_reducible exact ih3 _ _ _ _ _ _ _ _ _ _ _)
   | (with_reducible exact ih4 _ _ _ _ _ _ _ _ _)
   | (with_reducible exact ih5 _ _ _ _ _ _ _)
   | (with_reducible exact ih6 _ _ _ _ _ _)
   | (with_reducible exact ih7 _ _ _ _ _ _ _)
   | (with_reducible exact variorumref10_Line.mono _ _ _ _ _)
   | (with_reducible exact LeO.refl _)
   | (with_reducible exact LeO.none _)
   | (with_reducible refine LeO.ite ?_ ?_)
   | (with_reducible refine LeO.bind ?_ (fun _ => ?_))
   | exact ih0 _ _ _ _ _ _ _ _
   | exact ih1 _ _ _ _ _ _ _ _ _ _ _
   | exact ih2 _ _ _ _ _ _ _ _ _ _
   | exact ih3 _ _ _ _ _ _ _ _ _ _ _
   | exact ih4 _ _ _ _ _ _ _ _ _
   | exact ih5 _ _ _ _ _ _ _
   | exact ih6 _ _ _ _ _ _
   | exact ih7 _ _ _ _ _ _ _
   | exact variorumref10_Line.mono _ _ _ _ _
   | exact LeO.none _
   | refine LeO.ite ?_ ?_
   | refine LeO.bind ?_ (fun _ => ?_)
set_option maxHeartbeats 8000000 in
set_option maxRecDepth 100000 in
theorem variorumref10_Cost.calls (k : Nat) (A0 : Option Addr) (c0 : Nat) (l0 : List (S47)) (a1 : Int) (a2 : Int) (a3 : Int) (a4 : Int) (r1 : Int) (r2 : Int) (r3 : Bool) (w : World) (hr0 : Kd.C k47 w A0 l0.length l0) (hc0 : l0.length ≤ c0) (h : variorumref10_Cost.f k l0 a1 a2 a3 a4 = some (r1, r2, r3)) :
  Calls Try.prog 15 #[.slice A0 l0.length c0, .int .i64 a1, .int .i64 a2, .int .i64 a3, .int .i64 a4] w fun e w' => e = .returned (.tuple #[.int .i64 r1, .int .i64 r2, .bool r3]) ∧ Below w.heap.size w w' := by
 have hu40 := Try.underlying40
 have HR0 := Aside0.mk hr0
 have HC0 := Aside0.mk hc0
 clear hr0 hc0
 have HB := Aside0.mk (Below.refl w.heap.size w)
 have H : ((variorumref10_Line.f k l0 a1 a2 a3).bind fun bt330 => (if bt330.2.2.2.2 = true then (if bt330.2.2.2.1 > a4 then (variorumref10_Cost.j0 k l0 a1 a2 true bt330.1 bt330.2.1 bt330.2.2.1 bt330.2.2.2.1) else (variorumref10_Cost.j0 k l0 a1 a2 (decide (bt330.2.2.2.1 > 10000)) bt330.1 bt330.2.1 bt330.2.2.1 bt330.2.2.2.1)) else (variorumref10_Cost.j0 k l0 a1 a2 true bt330.1 bt330.2.1 bt330.2.2.1 bt330.2.2.2.1))) = some (r1, r2, r3) := h
 clear h
 replace H := Option.bind_eq_some_iff.mp H
 obtain ⟨⟨t330, t331, t332, t333, t334⟩, A60, H⟩ := H
 replace H : (if t334 = true then (if t333 > a4 then (variorumref10_Cost.j0 k l0 a1 a2 true t330 t331 t332 t333) else (variorumref10_Cost.j0 k l0 a1 a2 (decide (t333 > 10000)) t330 t331 t332 t333)) else (variorumref10_Cost.j0 k l0 a1 a2 true t330 t331 t332 t333)) = some (r1, r2, r3) := H
 have A6 := Aside0.mk A60
 clear A60
 have HC7 := Aside0.mk H
 clear H
 go_enter Try.func15, Try.ntmps15
 go_upto_region 2 with (first | ((with_reducible refine gate_callee (f := 22) rfl ?_); refine goesL_ (some 24) rfl rfl Try.func22 (by kernel_rfl) rfl #[.slice A0 l0.length c0, .int .i64 a1, .int .i64 a2, .int .i64 a3] rfl (by (try simp only [List.map_toArray, List.map_cons, List.map_nil]); first | done | rfl | (simp only [List.length_drop, List.length_take]; rfl) | (simp only [*]; first | done | rfl)) ?_; (with_reducible refine (variorumref10_Line.calls k _ _ l0 a1 a2 a3 t330 t331 t332 t333 t334 _ ?side1 ?side2 A6.out).mono ?_); (case side1 => repeat (first | exact HR0.out | (with_reducible refine Kd.C_alloc ?_ _) | (with_reducible refine Kd.C_drewN ?_ _) | (with_reducible refine Kd.C_drew ?_))); (case side2 => exact HC0.out); rintro e w8 ⟨rfl, hb⟩; refine ⟨_, rfl, ?_⟩; have n0_ := Aside0.mk (below_step (by repeat (first | (with_reducible first | exact HB.out | apply below_alloc | apply pw_below_drewN | apply below_drew1) | exact HB.out)) hb); clear HB; have HB := n0_; clear n0_; (try clear hb); (try clear hb2); (try clear hk); (try clear hi)) | ((with_reducible refine gate_dst (N := 13) rfl ?_); refine box_event ?hg (N := 13) ?hd (cs := #[.int .i64 0, .int .i64 0, .int .i64 0, .int .i64 0]) (t := 40) ?hr ?_; (case hd => rfl); (case hg => rfl); (case hr => first | (go_simp; done) | (go_simp; rfl)); intro gb335 hg w9 hbox hb; have n0_ := Aside0.mk (below_step (by repeat (first | (with_reducible first | exact HB.out | apply below_alloc | apply pw_below_drewN | apply below_drew1) | exact HB.out)) hb); have n1_ := Aside0.mk (hbox); have n2_ := Aside0.mk ((by rw [hg]; exact (below_size (by repeat (first | (with_reducible first | exact HB.out | apply below_alloc | apply pw_below_drewN | apply below_drew1) | exact HB.out))) : w.heap.size ≤ gb335)); have n3_ := Aside0.mk ((by rw [hg]; exact (below_size (by repeat (first | (with_reducible first | exact HB.out | apply below_alloc | apply pw_below_drewN | apply below_drew1) | exact HB.out))) : w.heap.size ≤ gb335)); clear HB; have HB := n0_; have BK335 := n1_; have GW335 := n2_; have GE335 := n3_; clear n0_ n1_ n2_ n3_; clear hb hbox hg; have hcz10_0 : w9.cell? ⟨gb335, 0, none⟩ = some (.int .i64 0) := (blk_cell BK335.out 0).trans rfl; have hcz10_1 : w9.cell? ⟨gb335, 1, none⟩ = some (.int .i64 0) := (blk_cell BK335.out 1).trans rfl; have hcz10_2 : w9.cell? ⟨gb335, 2, none⟩ = some (.int .i64 0) := (blk_cell BK335.out 2).trans rfl; have hcz10_3 : w9.cell? ⟨gb335, 3, none⟩ = some (.int .i64 0) := (blk_cell BK335.out 3).trans rfl; have hfz10_0 := blk_frozen BK335.out 0; have hfz10_1 := blk_frozen BK335.out 1; have hfz10_2 := blk_frozen BK335.out 2; have hfz10_3 := blk_frozen BK335.out 3))
 (try simp only [Act.put, List.setIfInBounds_toArray, List.set_cons_zero, List.set_cons_succ])
 go_cut [39] (fun v39 wc => ∃ (kq : Nat) (x39_6 : Bool), v39 = .bool x39_6 ∧ Aside0 (variorumref10_Cost.j0 kq l0 a1 a2 x39_6 t330 t331 t332 t333 = some (r1, r2, r3)) ∧ Aside0 (kq ≤ k) ∧ Aside0 (wc.heap[gb335]? = some (.cells #[.int .i64 t330, .int .i64 t331, .int .i64 t332, .int .i64 t333] 40 (0, 0))) ∧ Aside0 (Below w.heap.size w wc))
 case first =>
  have H := HC7.out
  clear HC7
  by_cases c11 : t334 = true
  ·subst c11
   have H1 : (if t333 > a4 then (variorumref10_Cost.j0 k l0 a1 a2 true t330 t331 t332 t333) else (variorumref10_Cost.j0 k l0 a1 a2 (decide (t333 > 10000)) t330 t331 t332 t333)) = some (r1, r2, r3) := by rw [if_pos rfl] at H; exact H
   clear H
   have H := H1
   clear H1
   by_cases c12 : t333 > a4
   ·rw [if_pos c12] at H
    have c12b0 : decide (a4 < t333) = true := decide_eq_true c12
    clear c12
    (first | rw [c12b0] | (simp only [i64_w, i32_w]; rw [c12b0]) | skip)
    have H' := Aside0.mk H
    clear H
    have hcz13_0 : w9.cell? ⟨gb335, 0, none⟩ = some (.int .i64 0) := (blk_cell BK335.out 0).trans rfl
    have hcz13_1 : w9.cell? ⟨gb335, 1, none⟩ = some (.int .i64 0) := (blk_cell BK335.out 1).trans rfl
    have hcz13_2 : w9.cell? ⟨gb335, 2, none⟩ = some (.int .i64 0) := (blk_cell BK335.out 2).trans rfl
    have hcz13_3 : w9.cell? ⟨gb335, 3, none⟩ = some (.int .i64 0) := (blk_cell BK335.out 3).trans rfl
    have hfz13_0 := blk_frozen BK335.out 0
    have hfz13_1 := blk_frozen BK335.out 1
    have hfz13_2 := blk_frozen BK335.out 2
    have hfz13_3 := blk_frozen BK335.out 3
    go_wp2
    go_meet
    case rel => exact ⟨_, (true), (by first | rfl | (simp; done) | (simp [*]; done)), H', ⟨by first | omega | exact Nat.le_refl _⟩, ⟨by (with_reducible repeat (first | refine blk_drewN ?_ _ | refine blk_drew ?_ | refine blk_alloc ?_ _)); refine blk_put (cs := #[.int .i64 t330, .int .i64 t331, .int .i64 t332, .int .i64 0]) ?_ 3 _ rfl; (with_reducible repeat (first | refine blk_drewN ?_ _ | refine blk_drew ?_ | refine blk_alloc ?_ _)); refine blk_put (cs := #[.int .i64 t330, .int .i64 t331, .int .i64 0, .int .i64 0]) ?_ 2 _ rfl; (with_reducible repeat (first | refine blk_drewN ?_ _ | refine blk_drew ?_ | refine blk_alloc ?_ _)); refine blk_put (cs := #[.int .i64 t330, .int .i64 0, .int .i64 0, .int .i64 0]) ?_ 1 _ rfl; (with_reducible repeat (first | refine blk_drewN ?_ _ | refine blk_drew ?_ | refine blk_alloc ?_ _)); refine blk_put (cs := #[.int .i64 0, .int .i64 0, .int .i64 0, .int .i64 0]) ?_ 0 _ rfl; (with_reducible repeat (first | refine blk_drewN ?_ _ | refine blk_drew ?_ | refine blk_alloc ?_ _)); exact BK335.out⟩, ⟨by repeat (first | (with_reducible first | exact HB.out | apply below_alloc | apply pw_below_drewN | apply below_drew1 | refine below_set ?_ GE335.out) | exact HB.out)⟩⟩
   ·rw [if_neg c12] at H
    have c12b0 : decide (a4 < t333) = false := decide_eq_false c12
    clear c12
    (first | rw [c12b0] | (simp only [i64_w, i32_w]; rw [c12b0]) | skip)
    have H' := Aside0.mk H
    clear H
    have hcz14_0 : w9.cell? ⟨gb335, 0, none⟩ = some (.int .i64 0) := (blk_cell BK335.out 0).trans rfl
    have hcz14_1 : w9.cell? ⟨gb335, 1, none⟩ = some (.int .i64 0) := (blk_cell BK335.out 1).trans rfl
    have hcz14_2 : w9.cell? ⟨gb335, 2, none⟩ = some (.int .i64 0) := (blk_cell BK335.out 2).trans rfl
    have hcz14_3 : w9.cell? ⟨gb335, 3, none⟩ = some (.int .i64 0) := (blk_cell BK335.out 3).trans rfl
    have hfz14_0 := blk_frozen BK335.out 0
    have hfz14_1 := blk_frozen BK335.out 1
    have hfz14_2 := blk_frozen BK335.out 2
    have hfz14_3 := blk_frozen BK335.out 3
    go_wp2
    go_meet
    case rel => exact ⟨_, (decide (t333 > 10000)), (by first | rfl | (simp; done) | (simp [*]; done)), H', ⟨by first | omega | exact Nat.le_refl _⟩, ⟨by (with_reducible repeat (first | refine blk_drewN ?_ _ | refine blk_drew ?_ | refine blk_alloc ?_ _)); refine blk_put (cs := #[.int .i64 t330, .int .i64 t331, .int .i64 t332, .int .i64 0]) ?_ 3 _ rfl; (with_reducible repeat (first | refine blk_drewN ?_ _ | refine blk_drew ?_ | refine blk_alloc ?_ _)); refine blk_put (cs := #[.int .i64 t330, .int .i64 t331, .int .i64 0, .int .i64 0]) ?_ 2 _ rfl; (with_reducible repeat (first | refine blk_drewN ?_ _ | refine blk_drew ?_ | refine blk_alloc ?_ _)); refine blk_put (cs := #[.int .i64 t330, .int .i64 0, .int .i64 0, .int .i64 0]) ?_ 1 _ rfl; (with_reducible repeat (first | refine blk_drewN ?_ _ | refine blk_drew ?_ | refine blk_alloc ?_ _)); refine blk_put (cs := #[.int .i64 0, .int .i64 0, .int .i64 0, .int .i64 0]) ?_ 0 _ rfl; (with_reducible repeat (first | refine blk_drewN ?_ _ | refine blk_drew ?_ | refine blk_alloc ?_ _)); exact BK335.out⟩, ⟨by repeat (first | (with_reducible first | exact HB.out | apply below_alloc | apply pw_below_drewN | apply below_drew1 | refine below_set ?_ GE335.out) | exact HB.out)⟩⟩
  ·replace c11 := Bool.eq_false_iff.mpr c11
   subst c11
   have H1 : (variorumref10_Cost.j0 k l0 a1 a2 true t330 t331 t332 t333) = some (r1, r2, r3) := by rw [if_neg (show ¬ (false = true) by decide)] at H; exact H
   clear H
   have H := H1
   clear H1
   have H' := Aside0.mk H
   clear H
   go_wp2
   go_meet
   case rel => exact ⟨_, (true), (by first | rfl | (simp; done) | (simp [*]; done)), H', ⟨by first | omega | exact Nat.le_refl _⟩, ⟨by (with_reducible repeat (first | refine blk_drewN ?_ _ | refine blk_drew ?_ | refine blk_alloc ?_ _)); refine blk_put (cs := #[.int .i64 t330, .int .i64 t331, .int .i64 t332, .int .i64 0]) ?_ 3 _ rfl; (with_reducible repeat (first | refine blk_drewN ?_ _ | refine blk_drew ?_ | refine blk_alloc ?_ _)); refine blk_put (cs := #[.int .i64 t330, .int .i64 t331, .int .i64 0, .int .i64 0]) ?_ 2 _ rfl; (with_reducible repeat (first | refine blk_drewN ?_ _ | refine blk_drew ?_ | refine blk_alloc ?_ _)); refine blk_put (cs := #[.int .i64 t330, .int .i64 0, .int .i64 0, .int .i64 0]) ?_ 1 _ rfl; (with_reducible repeat (first | refine blk_drewN ?_ _ | refine blk_drew ?_ | refine blk_alloc ?_ _)); refine blk_put (cs := #[.int .i64 0, .int .i64 0, .int .i64 0, .int .i64 0]) ?_ 0 _ rfl; (with_reducible repeat (first | refine blk_drewN ?_ _ | refine blk_drew ?_ | refine blk_alloc ?_ _)); exact BK335.out⟩, ⟨by repeat (first | (with_reducible first | exact HB.out | apply below_alloc | apply pw_below_drewN | apply below_drew1 | refine below_set ?_ GE335.out) | exact HB.out)⟩⟩
 case rest =>
  clear HC7
  try clear c1
  try clear c2
  try clear p2
  try clear c11
  try clear c12
  try clear c12b0
  try clear hcz10_0
  try clear hcz10_1
  try clear hcz10_2
  try clear hcz10_3
  try clear hcz13_0
  try clear hcz13_1
  try clear hcz13_2
  try clear hcz13_3
  try clear hcz14_0
  try clear hcz14_1
  try clear hcz14_2
  try clear hcz14_3
  try clear hfz10_0
  try clear hfz10_1
  try clear hfz10_2
  try clear hfz10_3
  try clear hfz13_0
  try clear hfz13_1
  try clear hfz13_2
  try clear hfz13_3
  try clear hfz14_0
  try clear hfz14_1
  try clear hfz14_2
  try clear hfz14_3
  obtain ⟨kq, x39_6, rfl, HA, HJ6, BK335, HB⟩ := hcut
  cases kq with
  | zero => exact absurd HA.out (by simp [variorumref10_Cost.j0])
  | succ kj6 =>
   have H := HA.out
   clear HA
   simp only [variorumref10_Cost.j0] at H
   by_cases c15 : x39_6 = true
   ·subst c15
    have H1 : (some (0, 0, false)) = some (r1, r2, r3) := by rw [if_pos rfl] at H; exact H
    clear H
    have H := H1
    clear H1
    simp only [Option.some.injEq, Prod.mk.injEq] at H
    obtain ⟨rfl, rfl, rfl⟩ := H
    go_wp2
    go_ret3
    exact ⟨by first | rfl | (simp [errW_none, errW_some] <;> rfl) | (simp [*, errW_none, errW_some] <;> rfl), by repeat (first | (with_reducible first | exact HB.out | apply below_alloc | apply pw_below_drewN | apply below_drew1 | refine below_set ?_ GE335.out) | exact HB.out)⟩
   ·replace c15 := Bool.eq_false_iff.mpr c15
    subst c15
    have H1 : (if 0 ≤ a2 then (if a2 < (l0.length : Int) then (if ((rd_T47 l0 a2).f0) = 2 then (variorumref10_Cost.j1 kj6 l0 a1 a2 t333 (wrap64 ((wrap64 (t333 + 10)) * (wrap64 (t333 + 10)))) ((rd_T47 l0 a2).f2) (decide (((rd_T47 l0 a2).f2) > 0)) t330 t331 t332 t333) else (variorumref10_Cost.j1 kj6 l0 a1 a2 t333 (wrap64 ((wrap64 (t333 + 10)) * (wrap64 (t333 + 10)))) ((rd_T47 l0 a2).f2) false t330 t331 t332 t333)) else (none)) else (none)) = some (r1, r2, r3) := by rw [if_neg (show ¬ (false = true) by decide)] at H; exact H
    clear H
    have H := H1
    clear H1
    by_cases c16 : 0 ≤ a2
    ·rw [if_pos c16] at H
     have c16b0 : decide (0 ≤ a2) = true := decide_eq_true c16
     clear c16
     by_cases c17 : a2 < (l0.length : Int)
     ·rw [if_pos c17] at H
      have c17b0 : decide (a2 < (l0.length : Int)) = true := decide_eq_true c17
      clear c17
      have HC18 := Aside0.mk H
      clear H
      have hcz19_0 : wc.cell? ⟨gb335, 0, none⟩ = some (.int .i64 t330) := (blk_cell BK335.out 0).trans rfl
      have hcz19_1 : wc.cell? ⟨gb335, 1, none⟩ = some (.int .i64 t331) := (blk_cell BK335.out 1).trans rfl
      have hcz19_2 : wc.cell? ⟨gb335, 2, none⟩ = some (.int .i64 t332) := (blk_cell BK335.out 2).trans rfl
      have hcz19_3 : wc.cell? ⟨gb335, 3, none⟩ = some (.int .i64 t333) := (blk_cell BK335.out 3).trans rfl
      have hfz19_0 := blk_frozen BK335.out 0
      have hfz19_1 := blk_frozen BK335.out 1
      have hfz19_2 := blk_frozen BK335.out 2
      have hfz19_3 := blk_frozen BK335.out 3
      have p336 : 0 ≤ (a2 : Int) := of_decide_eq_true (by first | (with_reducible assumption) | assumption)
      have q336 : a2 < (l0.length : Int) := of_decide_eq_true (by first | (with_reducible assumption) | assumption)
      obtain ⟨ad336, e336, hx336_0, hx336_1, hx336_2, hx336_3, hx336_4, hx336_5, hx336_6, hx336_7, hx336_8⟩ := at_T47 HR0.out a2 p336 q336
      cases e336
      replace hx336_0 := (HB.out.cell (World.block_lt_of_cell? w _ hx336_0)).trans hx336_0
      replace hx336_1 := (HB.out.cell (World.block_lt_of_cell? w _ hx336_1)).trans hx336_1
      replace hx336_2 := (HB.out.cell (World.block_lt_of_cell? w _ hx336_2)).trans hx336_2
      replace hx336_3 := (HB.out.cell (World.block_lt_of_cell? w _ hx336_3)).trans hx336_3
      replace hx336_4 := (HB.out.cell (World.block_lt_of_cell? w _ hx336_4)).trans hx336_4
      replace hx336_5 := (HB.out.cell (World.block_lt_of_cell? w _ hx336_5)).trans hx336_5
      replace hx336_6 := (HB.out.cell (World.block_lt_of_cell? w _ hx336_6)).trans hx336_6
      replace hx336_7 := (HB.out.cell (World.block_lt_of_cell? w _ hx336_7)).trans hx336_7
      replace hx336_8 := (HB.out.cell (World.block_lt_of_cell? w _ hx336_8)).trans hx336_8
      replace p336 := eq_true p336
      replace q336 := eq_true q336
      go_upto_region 7 with (fail)
      go_cut [61] (fun v61 wc => ∃ (kq : Nat) (x61_17 : Bool), v61 = .bool x61_17 ∧ Aside0 (variorumref10_Cost.j1 kq l0 a1 a2 t333 (wrap64 ((wrap64 (t333 + 10)) * (wrap64 (t333 + 10)))) ((rd_T47 l0 a2).f2) x61_17 t330 t331 t332 t333 = some (r1, r2, r3)) ∧ Aside0 (kq ≤ kj6) ∧ Aside0 (wc.heap[gb335]? = some (.cells #[.int .i64 t330, .int .i64 t331, .int .i64 t332, .int .i64 t333] 40 (0, 0))) ∧ Aside0 (Below w.heap.size w wc))
      case first =>
       have H := HC18.out
       clear HC18
       by_cases c20 : ((rd_T47 l0 a2).f0) = 2
       ·rw [if_pos c20] at H
        have c20b0 : (((rd_T47 l0 a2).f0) == 2) = true := beq_iff_eq.mpr c20
        have c20b1 : (((rd_T47 l0 a2).f0) != 2) = false := bne_eq_false_iff_eq.mpr c20
        clear c20
        (first | rw [c20b0] | (simp only [i64_w, i32_w]; rw [c20b0]) | skip)
        have H' := Aside0.mk H
        clear H
        have p337 : 0 ≤ (a2 : Int) := of_decide_eq_true (by first | (with_reducible assumption) | assumption)
        have q337 : a2 < (l0.length : Int) := of_decide_eq_true (by first | (with_reducible assumption) | assumption)
        obtain ⟨ad337, e337, hx337_0, hx337_1, hx337_2, hx337_3, hx337_4, hx337_5, hx337_6, hx337_7, hx337_8⟩ := at_T47 HR0.out a2 p337 q337
        obtain rfl : ad336 = ad337 := (by injection e337)
        replace hx337_0 := (HB.out.cell (World.block_lt_of_cell? w _ hx337_0)).trans hx337_0
        replace hx337_1 := (HB.out.cell (World.block_lt_of_cell? w _ hx337_1)).trans hx337_1
        replace hx337_2 := (HB.out.cell (World.block_lt_of_cell? w _ hx337_2)).trans hx337_2
        replace hx337_3 := (HB.out.cell (World.block_lt_of_cell? w _ hx337_3)).trans hx337_3
        replace hx337_4 := (HB.out.cell (World.block_lt_of_cell? w _ hx337_4)).trans hx337_4
        replace hx337_5 := (HB.out.cell (World.block_lt_of_cell? w _ hx337_5)).trans hx337_5
        replace hx337_6 := (HB.out.cell (World.block_lt_of_cell? w _ hx337_6)).trans hx337_6
        replace hx337_7 := (HB.out.cell (World.block_lt_of_cell? w _ hx337_7)).trans hx337_7
        replace hx337_8 := (HB.out.cell (World.block_lt_of_cell? w _ hx337_8)).trans hx337_8
        replace p337 := eq_true p337
        replace q337 := eq_true q337
        go_wp2
        go_meet
        case rel => exact ⟨_, (decide (((rd_T47 l0 a2).f2) > 0)), (by first | rfl | (simp; done) | (simp [*]; done)), H', ⟨by have := HJ6.out; first | omega | exact Nat.le_refl _⟩, ⟨by (with_reducible repeat (first | refine blk_drewN ?_ _ | refine blk_drew ?_ | refine blk_alloc ?_ _)); exact BK335.out⟩, ⟨by repeat (first | (with_reducible first | exact HB.out | apply below_alloc | apply pw_below_drewN | apply below_drew1 | refine below_set ?_ GE335.out) | exact HB.out)⟩⟩
       ·rw [if_neg c20] at H
        have c20b0 : (((rd_T47 l0 a2).f0) == 2) = false := beq_eq_false_iff_ne.mpr c20
        have c20b1 : (((rd_T47 l0 a2).f0) != 2) = true := bne_iff_ne.mpr c20
        (first | rw [c20b0] | (simp only [i64_w, i32_w]; rw [c20b0]) | skip)
        have H' := Aside0.mk H
        clear H
        have p337 : 0 ≤ (a2 : Int) := of_decide_eq_true (by first | (with_reducible assumption) | assumption)
        have q337 : a2 < (l0.length : Int) := of_decide_eq_true (by first | (with_reducible assumption) | assumption)
        obtain ⟨ad337, e337, hx337_0, hx337_1, hx337_2, hx337_3, hx337_4, hx337_5, hx337_6, hx337_7, hx337_8⟩ := at_T47 HR0.out a2 p337 q337
        obtain rfl : ad336 = ad337 := (by injection e337)
        replace hx337_0 := (HB.out.cell (World.block_lt_of_cell? w _ hx337_0)).trans hx337_0
        replace hx337_1 := (HB.out.cell (World.block_lt_of_cell? w _ hx337_1)).trans hx337_1
        replace hx337_2 := (HB.out.cell (World.block_lt_of_cell? w _ hx337_2)).trans hx337_2
        replace hx337_3 := (HB.out.cell (World.block_lt_of_cell? w _ hx337_3)).trans hx337_3
        replace hx337_4 := (HB.out.cell (World.block_lt_of_cell? w _ hx337_4)).trans hx337_4
        replace hx337_5 := (HB.out.cell (World.block_lt_of_cell? w _ hx337_5)).trans hx337_5
        replace hx337_6 := (HB.out.cell (World.block_lt_of_cell? w _ hx337_6)).trans hx337_6
        replace hx337_7 := (HB.out.cell (World.block_lt_of_cell? w _ hx337_7)).trans hx337_7
        replace hx337_8 := (HB.out.cell (World.block_lt_of_cell? w _ hx337_8)).trans hx337_8
        replace p337 := eq_true p337
        replace q337 := eq_true q337
        go_wp2
        go_meet
        case rel => exact ⟨_, (false), (by first | rfl | (simp; done) | (simp [*]; done)), H', ⟨by have := HJ6.out; first | omega | exact Nat.le_refl _⟩, ⟨by (with_reducible repeat (first | refine blk_drewN ?_ _ | refine blk_drew ?_ | refine blk_alloc ?_ _)); exact BK335.out⟩, ⟨by repeat (first | (with_reducible first | exact HB.out | apply below_alloc | apply pw_below_drewN | apply below_drew1 | refine below_set ?_ GE335.out) | exact HB.out)⟩⟩
      case rest =>
       clear HC18
       try clear c1
       try clear c2
       try clear p2
       try clear p3
       try clear q3
       try clear hx3
       try clear p6
       try clear c11
       try clear c12
       try clear c12b0
       try clear c15
       try clear c16
       try clear c16b0
       try clear c17
       try clear c17b0
       try clear c20
       try clear c20b0
       try clear c20b1
       try clear hcz10_0
       try clear hcz10_1
       try clear hcz10_2
       try clear hcz10_3
       try clear hcz13_0
       try clear hcz13_1
       try clear hcz13_2
       try clear hcz13_3
       try clear hcz14_0
       try clear hcz14_1
       try clear hcz14_2
       try clear hcz14_3
       try clear hcz19_0
       try clear hcz19_1
       try clear hcz19_2
       try clear hcz19_3
       try clear hfz10_0
       try clear hfz10_1
       try clear hfz10_2
       try clear hfz10_3
       try clear hfz13_0
       try clear hfz13_1
       try clear hfz13_2
       try clear hfz13_3
       try clear hfz14_0
       try clear hfz14_1
       try clear hfz14_2
       try clear hfz14_3
       try clear hfz19_0
       try clear hfz19_1
       try clear hfz19_2
       try clear hfz19_3
       try clear hx336_0
       try clear hx336_1
       try clear hx336_2
       try clear hx336_3
       try clear hx336_4
       try clear hx336_5
       try clear hx336_6
       try clear hx336_7
       try clear hx336_8
       try clear hx337_0
       try clear hx337_1
       try clear hx337_2
       try clear hx337_3
       try clear hx337_4
       try clear hx337_5
       try clear hx337_6
       try clear hx337_7
       try clear hx337_8
       try clear p2
       try clear p336
       try clear p337
       try clear q336
       try clear q337
       obtain ⟨kq, x61_17, rfl, HA, HJ17, BK335, HB⟩ := hcut
       cases kq with
       | zero => exact absurd HA.out (by simp [variorumref10_Cost.j1])
       | succ kj17 =>
        have H := HA.out
        clear HA
        simp only [variorumref10_Cost.j1] at H
        have HC21 := Aside0.mk H
        clear H
        go_upto_if 61 with (fail)
        go_cut [16] (fun v16 wc => ∃ (kq : Nat) (x16_20 : Int), v16 = .int .i64 x16_20 ∧ Aside0 (variorumref10_Cost.j2 kq l0 a1 a2 t333 x16_20 ((rd_T47 l0 a2).f2) t330 t331 t332 t333 = some (r1, r2, r3)) ∧ Aside0 (kq ≤ kj17) ∧ Aside0 (wc.heap[gb335]? = some (.cells #[.int .i64 t330, .int .i64 t331, .int .i64 t332, .int .i64 t333] 40 (0, 0))) ∧ Aside0 (Below w.heap.size w wc))
        case first =>
         have H := HC21.out
         clear HC21
         by_cases c22 : x61_17 = true
         ·subst c22
          have H1 : (variorumref10_Cost.j2 kj17 l0 a1 a2 t333 (wrap64 ((wrap64 ((wrap64 (t333 + 10)) * (wrap64 (t333 + 10)))) + (wrap64 (((rd_T47 l0 a2).f2) * ((rd_T47 l0 a2).f2))))) ((rd_T47 l0 a2).f2) t330 t331 t332 t333) = some (r1, r2, r3) := by rw [if_pos rfl] at H; exact H
          clear H
          have H := H1
          clear H1
          have H' := Aside0.mk H
          clear H
          go_wp2
          go_meet
          case rel => exact ⟨_, (wrap64 ((wrap64 ((wrap64 (t333 + 10)) * (wrap64 (t333 + 10)))) + (wrap64 (((rd_T47 l0 a2).f2) * ((rd_T47 l0 a2).f2))))), (by first | rfl | (simp; done) | (simp [*]; done)), H', ⟨by have := HJ6.out; have := HJ17.out; first | omega | exact Nat.le_refl _⟩, ⟨by (with_reducible repeat (first | refine blk_drewN ?_ _ | refine blk_drew ?_ | refine blk_alloc ?_ _)); exact BK335.out⟩, ⟨by repeat (first | (with_reducible first | exact HB.out | apply below_alloc | apply pw_below_drewN | apply below_drew1 | refine below_set ?_ GE335.out) | exact HB.out)⟩⟩
         ·replace c22 := Bool.eq_false_iff.mpr c22
          subst c22
          have H1 : (variorumref10_Cost.j2 kj17 l0 a1 a2 t333 (wrap64 ((wrap64 (t333 + 10)) * (wrap64 (t333 + 10)))) ((rd_T47 l0 a2).f2) t330 t331 t332 t333) = some (r1, r2, r3) := by rw [if_neg (show ¬ (false = true) by decide)] at H; exact H
          clear H
          have H := H1
          clear H1
          have H' := Aside0.mk H
          clear H
          go_wp2
          go_meet
          case rel => exact ⟨_, ((wrap64 ((wrap64 (t333 + 10)) * (wrap64 (t333 + 10))))), (by first | rfl | (simp; done) | (simp [*]; done)), H', ⟨by have := HJ6.out; have := HJ17.out; first | omega | exact Nat.le_refl _⟩, ⟨by (with_reducible repeat (first | refine blk_drewN ?_ _ | refine blk_drew ?_ | refine blk_alloc ?_ _)); exact BK335.out⟩, ⟨by repeat (first | (with_reducible first | exact HB.out | apply below_alloc | apply pw_below_drewN | apply below_drew1 | refine below_set ?_ GE335.out) | exact HB.out)⟩⟩
        case rest =>
         clear HC21
         try clear c1
         try clear c2
         try clear p2
         try clear p3
         try clear q3
         try clear hx3
         try clear p6
         try clear c11
         try clear c12
         try clear c12b0
         try clear c15
         try clear c16
         try clear c16b0
         try clear c17
         try clear c17b0
         try clear c20
         try clear c20b0
         try clear c20b1
         try clear c22
         try clear hcz10_0
         try clear hcz10_1
         try clear hcz10_2
         try clear hcz10_3
         try clear hcz13_0
         try clear hcz13_1
         try clear hcz13_2
         try clear hcz13_3
         try clear hcz14_0
         try clear hcz14_1
         try clear hcz14_2
         try clear hcz14_3
         try clear hcz19_0
         try clear hcz19_1
         try clear hcz19_2
         try clear hcz19_3
         try clear hfz10_0
         try clear hfz10_1
         try clear hfz10_2
         try clear hfz10_3
         try clear hfz13_0
         try clear hfz13_1
         try clear hfz13_2
         try clear hfz13_3
         try clear hfz14_0
         try clear hfz14_1
         try clear hfz14_2
         try clear hfz14_3
         try clear hfz19_0
         try clear hfz19_1
         try clear hfz19_2
         try clear hfz19_3
         try clear hx336_0
         try clear hx336_1
         try clear hx336_2
         try clear hx336_3
         try clear hx336_4
         try clear hx336_5
         try clear hx336_6
         try clear hx336_7
         try clear hx336_8
         try clear hx337_0
         try clear hx337_1
         try clear hx337_2
         try clear hx337_3
         try clear hx337_4
         try clear hx337_5
         try clear hx337_6
         try clear hx337_7
         try clear hx337_8
         try clear p2
         try clear p3
         try clear p336
         try clear p337
         try clear p6
         try clear q3
         try clear q336
         try clear q337
         obtain ⟨kq, x16_20, rfl, HA, HJ20, BK335, HB⟩ := hcut
         cases kq with
         | zero => exact absurd HA.out (by simp [variorumref10_Cost.j2])
         | succ kj20 =>
          have H := HA.out
          clear HA
          simp only [variorumref10_Cost.j2] at H
          have HC23 := Aside0.mk H
          clear H
          go_upto_region 9 with (fail)
          go_cut [80] (fun v80 wc => ∃ (kq : Nat) (x80_22 : Bool), v80 = .bool x80_22 ∧ Aside0 (variorumref10_Cost.j3 kq l0 a1 a2 t333 x16_20 ((rd_T47 l0 a2).f2) x80_22 t330 t331 t332 t333 = some (r1, r2, r3)) ∧ Aside0 (kq ≤ kj20) ∧ Aside0 (wc.heap[gb335]? = some (.cells #[.int .i64 t330, .int .i64 t331, .int .i64 t332, .int .i64 t333] 40 (0, 0))) ∧ Aside0 (Below w.heap.size w wc))
          case first =>
           have H := HC23.out
           clear HC23
           by_cases c24 : 0 ≤ a2
           ·rw [if_pos c24] at H
            have c24b0 : decide (0 ≤ a2) = true := decide_eq_true c24
            clear c24
            (first | rw [c24b0] | (simp only [i64_w, i32_w]; rw [c24b0]) | skip)
            by_cases c25 : a2 < (l0.length : Int)
            ·rw [if_pos c25] at H
             have c25b0 : decide (a2 < (l0.length : Int)) = true := decide_eq_true c25
             clear c25
             by_cases c26 : ((rd_T47 l0 a2).f0) = 2
             ·rw [if_pos c26] at H
              have c26b0 : (((rd_T47 l0 a2).f0) == 2) = true := beq_iff_eq.mpr c26
              have c26b1 : (((rd_T47 l0 a2).f0) != 2) = false := bne_eq_false_iff_eq.mpr c26
              clear c26
              by_cases c27 : ((rd_T47 l0 a2).f2) < 0
              ·rw [if_pos c27] at H
               have c27b0 : decide (((rd_T47 l0 a2).f2) < 0) = true := decide_eq_true c27
               clear c27
               have H' := Aside0.mk H
               clear H
               have p338 : 0 ≤ (a2 : Int) := of_decide_eq_true (by first | (with_reducible assumption) | assumption)
               have q338 : a2 < (l0.length : Int) := of_decide_eq_true (by first | (with_reducible assumption) | assumption)
               obtain ⟨ad338, e338, hx338_0, hx338_1, hx338_2, hx338_3, hx338_4, hx338_5, hx338_6, hx338_7, hx338_8⟩ := at_T47 HR0.out a2 p338 q338
               obtain rfl : ad336 = ad338 := (by injection e338)
               replace hx338_0 := (HB.out.cell (World.block_lt_of_cell? w _ hx338_0)).trans hx338_0
               replace hx338_1 := (HB.out.cell (World.block_lt_of_cell? w _ hx338_1)).trans hx338_1
               replace hx338_2 := (HB.out.cell (World.block_lt_of_cell? w _ hx338_2)).trans hx338_2
               replace hx338_3 := (HB.out.cell (World.block_lt_of_cell? w _ hx338_3)).trans hx338_3
               replace hx338_4 := (HB.out.cell (World.block_lt_of_cell? w _ hx338_4)).trans hx338_4
               replace hx338_5 := (HB.out.cell (World.block_lt_of_cell? w _ hx338_5)).trans hx338_5
               replace hx338_6 := (HB.out.cell (World.block_lt_of_cell? w _ hx338_6)).trans hx338_6
               replace hx338_7 := (HB.out.cell (World.block_lt_of_cell? w _ hx338_7)).trans hx338_7
               replace hx338_8 := (HB.out.cell (World.block_lt_of_cell? w _ hx338_8)).trans hx338_8
               replace p338 := eq_true p338
               replace q338 := eq_true q338
               go_wp2
               go_meet
               case rel => exact ⟨_, ((((rd_T47 l0 a2).f2) != (-10000))), (by first | rfl | (simp; done) | (simp [*]; done)), H', ⟨by have := HJ6.out; have := HJ17.out; have := HJ20.out; first | omega | exact Nat.le_refl _⟩, ⟨by (with_reducible repeat (first | refine blk_drewN ?_ _ | refine blk_drew ?_ | refine blk_alloc ?_ _)); exact BK335.out⟩, ⟨by repeat (first | (with_reducible first | exact HB.out | apply below_alloc | apply pw_below_drewN | apply below_drew1 | refine below_set ?_ GE335.out) | exact HB.out)⟩⟩
              ·rw [if_neg c27] at H
               have c27b0 : decide (((rd_T47 l0 a2).f2) < 0) = false := decide_eq_false c27
               clear c27
               have H' := Aside0.mk H
               clear H
               have p338 : 0 ≤ (a2 : Int) := of_decide_eq_true (by first | (with_reducible assumption) | assumption)
               have q338 : a2 < (l0.length : Int) := of_decide_eq_true (by first | (with_reducible assumption) | assumption)
               obtain ⟨ad338, e338, hx338_0, hx338_1, hx338_2, hx338_3, hx338_4, hx338_5, hx338_6, hx338_7, hx338_8⟩ := at_T47 HR0.out a2 p338 q338
               obtain rfl : ad336 = ad338 := (by injection e338)
               replace hx338_0 := (HB.out.cell (World.block_lt_of_cell? w _ hx338_0)).trans hx338_0
               replace hx338_1 := (HB.out.cell (World.block_lt_of_cell? w _ hx338_1)).trans hx338_1
               replace hx338_2 := (HB.out.cell (World.block_lt_of_cell? w _ hx338_2)).trans hx338_2
               replace hx338_3 := (HB.out.cell (World.block_lt_of_cell? w _ hx338_3)).trans hx338_3
               replace hx338_4 := (HB.out.cell (World.block_lt_of_cell? w _ hx338_4)).trans hx338_4
               replace hx338_5 := (HB.out.cell (World.block_lt_of_cell? w _ hx338_5)).trans hx338_5
               replace hx338_6 := (HB.out.cell (World.block_lt_of_cell? w _ hx338_6)).trans hx338_6
               replace hx338_7 := (HB.out.cell (World.block_lt_of_cell? w _ hx338_7)).trans hx338_7
               replace hx338_8 := (HB.out.cell (World.block_lt_of_cell? w _ hx338_8)).trans hx338_8
               replace p338 := eq_true p338
               replace q338 := eq_true q338
               go_wp2
               go_meet
               case rel => exact ⟨_, (false), (by first | rfl | (simp; done) | (simp [*]; done)), H', ⟨by have := HJ6.out; have := HJ17.out; have := HJ20.out; first | omega | exact Nat.le_refl _⟩, ⟨by (with_reducible repeat (first | refine blk_drewN ?_ _ | refine blk_drew ?_ | refine blk_alloc ?_ _)); exact BK335.out⟩, ⟨by repeat (first | (with_reducible first | exact HB.out | apply below_alloc | apply pw_below_drewN | apply below_drew1 | refine below_set ?_ GE335.out) | exact HB.out)⟩⟩
             ·rw [if_neg c26] at H
              have c26b0 : (((rd_T47 l0 a2).f0) == 2) = false := beq_eq_false_iff_ne.mpr c26
              have c26b1 : (((rd_T47 l0 a2).f0) != 2) = true := bne_iff_ne.mpr c26
              have H' := Aside0.mk H
              clear H
              have p338 : 0 ≤ (a2 : Int) := of_decide_eq_true (by first | (with_reducible assumption) | assumption)
              have q338 : a2 < (l0.length : Int) := of_decide_eq_true (by first | (with_reducible assumption) | assumption)
              obtain ⟨ad338, e338, hx338_0, hx338_1, hx338_2, hx338_3, hx338_4, hx338_5, hx338_6, hx338_7, hx338_8⟩ := at_T47 HR0.out a2 p338 q338
              obtain rfl : ad336 = ad338 := (by injection e338)
              replace hx338_0 := (HB.out.cell (World.block_lt_of_cell? w _ hx338_0)).trans hx338_0
              replace hx338_1 := (HB.out.cell (World.block_lt_of_cell? w _ hx338_1)).trans hx338_1
              replace hx338_2 := (HB.out.cell (World.block_lt_of_cell? w _ hx338_2)).trans hx338_2
              replace hx338_3 := (HB.out.cell (World.block_lt_of_cell? w _ hx338_3)).trans hx338_3
              replace hx338_4 := (HB.out.cell (World.block_lt_of_cell? w _ hx338_4)).trans hx338_4
              replace hx338_5 := (HB.out.cell (World.block_lt_of_cell? w _ hx338_5)).trans hx338_5
              replace hx338_6 := (HB.out.cell (World.block_lt_of_cell? w _ hx338_6)).trans hx338_6
              replace hx338_7 := (HB.out.cell (World.block_lt_of_cell? w _ hx338_7)).trans hx338_7
              replace hx338_8 := (HB.out.cell (World.block_lt_of_cell? w _ hx338_8)).trans hx338_8
              replace p338 := eq_true p338
              replace q338 := eq_true q338
              go_wp2
              go_meet
              case rel => exact ⟨_, (false), (by first | rfl | (simp; done) | (simp [*]; done)), H', ⟨by have := HJ6.out; have := HJ17.out; have := HJ20.out; first | omega | exact Nat.le_refl _⟩, ⟨by (with_reducible repeat (first | refine blk_drewN ?_ _ | refine blk_drew ?_ | refine blk_alloc ?_ _)); exact BK335.out⟩, ⟨by repeat (first | (with_reducible first | exact HB.out | apply below_alloc | apply pw_below_drewN | apply below_drew1 | refine below_set ?_ GE335.out) | exact HB.out)⟩⟩
            ·rw [if_neg c25] at H
             exact absurd H (by simp)
           ·rw [if_neg c24] at H
            exact absurd H (by simp)
          case rest =>
           clear HC23
           try clear c1
           try clear c2
           try clear p2
           try clear p3
           try clear q3
           try clear hx3
           try clear p6
           try clear c11
           try clear c12
           try clear c12b0
           try clear c15
           try clear c16
           try clear c16b0
           try clear c17
           try clear c17b0
           try clear c20
           try clear c20b0
           try clear c20b1
           try clear c22
           try clear c24
           try clear c24b0
           try clear c25
           try clear c25b0
           try clear c26
           try clear c26b0
           try clear c26b1
           try clear c27
           try clear c27b0
           try clear hcz10_0
           try clear hcz10_1
           try clear hcz10_2
           try clear hcz10_3
           try clear hcz13_0
           try clear hcz13_1
           try clear hcz13_2
           try clear hcz13_3
           try clear hcz14_0
           try clear hcz14_1
           try clear hcz14_2
           try clear hcz14_3
           try clear hcz19_0
           try clear hcz19_1
           try clear hcz19_2
           try clear hcz19_3
           try clear hfz10_0
           try clear hfz10_1
           try clear hfz10_2
           try clear hfz10_3
           try clear hfz13_0
           try clear hfz13_1
           try clear hfz13_2
           try clear hfz13_3
           try clear hfz14_0
           try clear hfz14_1
           try clear hfz14_2
           try clear hfz14_3
           try clear hfz19_0
           try clear hfz19_1
           try clear hfz19_2
           try clear hfz19_3
           try clear hx336_0
           try clear hx336_1
           try clear hx336_2
           try clear hx336_3
           try clear hx336_4
           try clear hx336_5
           try clear hx336_6
           try clear hx336_7
           try clear hx336_8
           try clear hx337_0
           try clear hx337_1
           try clear hx337_2
           try clear hx337_3
           try clear hx337_4
           try clear hx337_5
           try clear hx337_6
           try clear hx337_7
           try clear hx337_8
           try clear hx338_0
           try clear hx338_1
           try clear hx338_2
           try clear hx338_3
           try clear hx338_4
           try clear hx338_5
           try clear hx338_6
           try clear hx338_7
           try clear hx338_8
           try clear p2
           try clear p3
           try clear p336
           try clear p337
           try clear p338
           try clear p6
           try clear q3
           try clear q336
           try clear q337
           try clear q338
           obtain ⟨kq, x80_22, rfl, HA, HJ22, BK335, HB⟩ := hcut
           cases kq with
           | zero => exact absurd HA.out (by simp [variorumref10_Cost.j3])
           | succ kj22 =>
            have H := HA.out
            clear HA
            simp only [variorumref10_Cost.j3] at H
            have HC28 := Aside0.mk H
            clear H
            go_upto_if 80 with (fail)
            go_cut [16] (fun v16 wc => ∃ (kq : Nat) (x16_27 : Int), v16 = .int .i64 x16_27 ∧ Aside0 (variorumref10_Cost.j4 kq l0 a1 a2 t333 x16_27 t330 t331 t332 t333 = some (r1, r2, r3)) ∧ Aside0 (kq ≤ kj22) ∧ Aside0 (wc.heap[gb335]? = some (.cells #[.int .i64 t330, .int .i64 t331, .int .i64 t332, .int .i64 t333] 40 (0, 0))) ∧ Aside0 (Below w.heap.size w wc))
            case first =>
             have H := HC28.out
             clear HC28
             by_cases c29 : x80_22 = true
             ·subst c29
              have H1 : (variorumref10_Cost.j4 kj22 l0 a1 a2 t333 (wrap64 (x16_20 - (wrap64 (((rd_T47 l0 a2).f2) * ((rd_T47 l0 a2).f2))))) t330 t331 t332 t333) = some (r1, r2, r3) := by rw [if_pos rfl] at H; exact H
              clear H
              have H := H1
              clear H1
              have H' := Aside0.mk H
              clear H
              go_wp2
              go_meet
              case rel => exact ⟨_, (wrap64 (x16_20 - (wrap64 (((rd_T47 l0 a2).f2) * ((rd_T47 l0 a2).f2))))), (by first | rfl | (simp; done) | (simp [*]; done)), H', ⟨by have := HJ6.out; have := HJ17.out; have := HJ20.out; have := HJ22.out; first | omega | exact Nat.le_refl _⟩, ⟨by (with_reducible repeat (first | refine blk_drewN ?_ _ | refine blk_drew ?_ | refine blk_alloc ?_ _)); exact BK335.out⟩, ⟨by repeat (first | (with_reducible first | exact HB.out | apply below_alloc | apply pw_below_drewN | apply below_drew1 | refine below_set ?_ GE335.out) | exact HB.out)⟩⟩
             ·replace c29 := Bool.eq_false_iff.mpr c29
              subst c29
              have H1 : (variorumref10_Cost.j4 kj22 l0 a1 a2 t333 x16_20 t330 t331 t332 t333) = some (r1, r2, r3) := by rw [if_neg (show ¬ (false = true) by decide)] at H; exact H
              clear H
              have H := H1
              clear H1
              have H' := Aside0.mk H
              clear H
              go_wp2
              go_meet
              case rel => exact ⟨_, (x16_20), (by first | rfl | (simp; done) | (simp [*]; done)), H', ⟨by have := HJ6.out; have := HJ17.out; have := HJ20.out; have := HJ22.out; first | omega | exact Nat.le_refl _⟩, ⟨by (with_reducible repeat (first | refine blk_drewN ?_ _ | refine blk_drew ?_ | refine blk_alloc ?_ _)); exact BK335.out⟩, ⟨by repeat (first | (with_reducible first | exact HB.out | apply below_alloc | apply pw_below_drewN | apply below_drew1 | refine below_set ?_ GE335.out) | exact HB.out)⟩⟩
            case rest =>
             clear HC28
             try clear c1
             try clear c2
             try clear p2
             try clear p3
             try clear q3
             try clear hx3
             try clear p6
             try clear c11
             try clear c12
             try clear c12b0
             try clear c15
             try clear c16
             try clear c16b0
             try clear c17
             try clear c17b0
             try clear c20
             try clear c20b0
             try clear c20b1
             try clear c22
             try clear c24
             try clear c24b0
             try clear c25
             try clear c25b0
             try clear c26
             try clear c26b0
             try clear c26b1
             try clear c27
             try clear c27b0
             try clear c29
             try clear hcz10_0
             try clear hcz10_1
             try clear hcz10_2
             try clear hcz10_3
             try clear hcz13_0
             try clear hcz13_1
             try clear hcz13_2
             try clear hcz13_3
             try clear hcz14_0
             try clear hcz14_1
             try clear hcz14_2
             try clear hcz14_3
             try clear hcz19_0
             try clear hcz19_1
             try clear hcz19_2
             try clear hcz19_3
             try clear hfz10_0
             try clear hfz10_1
             try clear hfz10_2
             try clear hfz10_3
             try clear hfz13_0
             try clear hfz13_1
             try clear hfz13_2
             try clear hfz13_3
             try clear hfz14_0
             try clear hfz14_1
             try clear hfz14_2
             try clear hfz14_3
             try clear hfz19_0
             try clear hfz19_1
             try clear hfz19_2
             try clear hfz19_3
             try clear hx336_0
             try clear hx336_1
             try clear hx336_2
             try clear hx336_3
             try clear hx336_4
             try clear hx336_5
             try clear hx336_6
             try clear hx336_7
             try clear hx336_8
             try clear hx337_0
             try clear hx337_1
             try clear hx337_2
             try clear hx337_3
             try clear hx337_4
             try clear hx337_5
             try clear hx337_6
             try clear hx337_7
             try clear hx337_8
             try clear hx338_0
             try clear hx338_1
             try clear hx338_2
             try clear hx338_3
             try clear hx338_4
             try clear hx338_5
             try clear hx338_6
             try clear hx338_7
             try clear hx338_8
             try clear p2
             try clear p3
             try clear p336
             try clear p337
             try clear p338
             try clear p6
             try clear q3
             try clear q336
             try clear q337
             try clear q338
             obtain ⟨kq, x16_27, rfl, HA, HJ27, BK335, HB⟩ := hcut
             cases kq with
             | zero => exact absurd HA.out (by simp [variorumref10_Cost.j4])
             | succ kj27 =>
              have H := HA.out
              clear HA
              simp only [variorumref10_Cost.j4] at H
              have HC30 := Aside0.mk H
              clear H
              go_upto_region 11 with (fail)
              go_cut [101] (fun v101 wc => ∃ (kq : Nat) (x101_29 : Bool), v101 = .bool x101_29 ∧ Aside0 (variorumref10_Cost.j5 kq t333 x16_27 x101_29 t330 t331 t332 t333 = some (r1, r2, r3)) ∧ Aside0 (kq ≤ kj27) ∧ Aside0 (wc.heap[gb335]? = some (.cells #[.int .i64 t330, .int .i64 t331, .int .i64 t332, .int .i64 t333] 40 (0, 0))) ∧ Aside0 (Below w.heap.size w wc))
              case first =>
               have H := HC30.out
               clear HC30
               by_cases c31 : a1 ≥ 0
               ·rw [if_pos c31] at H
                have c31b0 : decide (0 ≤ a1) = true := decide_eq_true c31
                clear c31
                (first | rw [c31b0] | (simp only [i64_w, i32_w]; rw [c31b0]) | skip)
                by_cases c32 : 0 ≤ a1
                ·rw [if_pos c32] at H
                 have c32b0 : decide (0 ≤ a1) = true := decide_eq_true c32
                 clear c32
                 by_cases c33 : a1 < (l0.length : Int)
                 ·rw [if_pos c33] at H
                  have c33b0 : decide (a1 < (l0.length : Int)) = true := decide_eq_true c33
                  clear c33
                  obtain ⟨bq34, hbq34⟩ : ∃ b_ : Bool, b_ = ((rd_T47 l0 a1).f3) := ⟨_, rfl⟩
                  replace H : (if bq34 = true then (if 0 ≤ a2 then (if a2 < (l0.length : Int) then (variorumref10_Cost.j5 kj27 t333 x16_27 ((rd_T47 l0 a2).f3) t330 t331 t332 t333) else (none)) else (none)) else (variorumref10_Cost.j5 kj27 t333 x16_27 false t330 t331 t332 t333)) = some (r1, r2, r3) := by rw [← hbq34] at H; exact H
                  have Nbq34 := Aside0.mk hbq34
                  clear hbq34
                  by_cases c35 : bq34 = true
                  ·subst c35
                   have H1 : (if 0 ≤ a2 then (if a2 < (l0.length : Int) then (variorumref10_Cost.j5 kj27 t333 x16_27 ((rd_T47 l0 a2).f3) t330 t331 t332 t333) else (none)) else (none)) = some (r1, r2, r3) := by rw [if_pos rfl] at H; exact H
                   clear H
                   have H := H1
                   clear H1
                   by_cases c36 : 0 ≤ a2
                   ·rw [if_pos c36] at H
                    have c36b0 : decide (0 ≤ a2) = true := decide_eq_true c36
                    clear c36
                    by_cases c37 : a2 < (l0.length : Int)
                    ·rw [if_pos c37] at H
                     have c37b0 : decide (a2 < (l0.length : Int)) = true := decide_eq_true c37
                     clear c37
                     have H' := Aside0.mk H
                     clear H
                     have p339 : 0 ≤ (a1 : Int) := of_decide_eq_true (by first | (with_reducible assumption) | assumption)
                     have q339 : a1 < (l0.length : Int) := of_decide_eq_true (by first | (with_reducible assumption) | assumption)
                     obtain ⟨ad339, e339, hx339_0, hx339_1, hx339_2, hx339_3, hx339_4, hx339_5, hx339_6, hx339_7, hx339_8⟩ := at_T47 HR0.out a1 p339 q339
                     (try rw [← Nbq34.out] at hx339_6)
                     obtain rfl : ad336 = ad339 := (by injection e339)
                     replace hx339_0 := (HB.out.cell (World.block_lt_of_cell? w _ hx339_0)).trans hx339_0
                     replace hx339_1 := (HB.out.cell (World.block_lt_of_cell? w _ hx339_1)).trans hx339_1
                     replace hx339_2 := (HB.out.cell (World.block_lt_of_cell? w _ hx339_2)).trans hx339_2
                     replace hx339_3 := (HB.out.cell (World.block_lt_of_cell? w _ hx339_3)).trans hx339_3
                     replace hx339_4 := (HB.out.cell (World.block_lt_of_cell? w _ hx339_4)).trans hx339_4
                     replace hx339_5 := (HB.out.cell (World.block_lt_of_cell? w _ hx339_5)).trans hx339_5
                     replace hx339_6 := (HB.out.cell (World.block_lt_of_cell? w _ hx339_6)).trans hx339_6
                     replace hx339_7 := (HB.out.cell (World.block_lt_of_cell? w _ hx339_7)).trans hx339_7
                     replace hx339_8 := (HB.out.cell (World.block_lt_of_cell? w _ hx339_8)).trans hx339_8
                     replace p339 := eq_true p339
                     replace q339 := eq_true q339
                     have p340 : 0 ≤ (a2 : Int) := of_decide_eq_true (by first | (with_reducible assumption) | assumption)
                     have q340 : a2 < (l0.length : Int) := of_decide_eq_true (by first | (with_reducible assumption) | assumption)
                     obtain ⟨ad340, e340, hx340_0, hx340_1, hx340_2, hx340_3, hx340_4, hx340_5, hx340_6, hx340_7, hx340_8⟩ := at_T47 HR0.out a2 p340 q340
                     (try rw [← Nbq34.out] at hx340_6)
                     obtain rfl : ad336 = ad340 := (by injection e340)
                     replace hx340_0 := (HB.out.cell (World.block_lt_of_cell? w _ hx340_0)).trans hx340_0
                     replace hx340_1 := (HB.out.cell (World.block_lt_of_cell? w _ hx340_1)).trans hx340_1
                     replace hx340_2 := (HB.out.cell (World.block_lt_of_cell? w _ hx340_2)).trans hx340_2
                     replace hx340_3 := (HB.out.cell (World.block_lt_of_cell? w _ hx340_3)).trans hx340_3
                     replace hx340_4 := (HB.out.cell (World.block_lt_of_cell? w _ hx340_4)).trans hx340_4
                     replace hx340_5 := (HB.out.cell (World.block_lt_of_cell? w _ hx340_5)).trans hx340_5
                     replace hx340_6 := (HB.out.cell (World.block_lt_of_cell? w _ hx340_6)).trans hx340_6
                     replace hx340_7 := (HB.out.cell (World.block_lt_of_cell? w _ hx340_7)).trans hx340_7
                     replace hx340_8 := (HB.out.cell (World.block_lt_of_cell? w _ hx340_8)).trans hx340_8
                     replace p340 := eq_true p340
                     replace q340 := eq_true q340
                     go_wp2
                     go_meet
                     case rel => exact ⟨_, ((rd_T47 l0 a2).f3), (by first | rfl | (simp; done) | (simp [*]; done)), H', ⟨by have := HJ6.out; have := HJ17.out; have := HJ20.out; have := HJ22.out; have := HJ27.out; first | omega | exact Nat.le_refl _⟩, ⟨by (with_reducible repeat (first | refine blk_drewN ?_ _ | refine blk_drew ?_ | refine blk_alloc ?_ _)); exact BK335.out⟩, ⟨by repeat (first | (with_reducible first | exact HB.out | apply below_alloc | apply pw_below_drewN | apply below_drew1 | refine below_set ?_ GE335.out) | exact HB.out)⟩⟩
                    ·rw [if_neg c37] at H
                     exact absurd H (by simp)
                   ·rw [if_neg c36] at H
                    exact absurd H (by simp)
                  ·replace c35 := Bool.eq_false_iff.mpr c35
                   subst c35
                   have H1 : (variorumref10_Cost.j5 kj27 t333 x16_27 false t330 t331 t332 t333) = some (r1, r2, r3) := by rw [if_neg (show ¬ (false = true) by decide)] at H; exact H
                   clear H
                   have H := H1
                   clear H1
                   have H' := Aside0.mk H
                   clear H
                   have p339 : 0 ≤ (a1 : Int) := of_decide_eq_true (by first | (with_reducible assumption) | assumption)
                   have q339 : a1 < (l0.length : Int) := of_decide_eq_true (by first | (with_reducible assumption) | assumption)
                   obtain ⟨ad339, e339, hx339_0, hx339_1, hx339_2, hx339_3, hx339_4, hx339_5, hx339_6, hx339_7, hx339_8⟩ := at_T47 HR0.out a1 p339 q339
                   (try rw [← Nbq34.out] at hx339_6)
                   obtain rfl : ad336 = ad339 := (by injection e339)
                   replace hx339_0 := (HB.out.cell (World.block_lt_of_cell? w _ hx339_0)).trans hx339_0
                   replace hx339_1 := (HB.out.cell (World.block_lt_of_cell? w _ hx339_1)).trans hx339_1
                   replace hx339_2 := (HB.out.cell (World.block_lt_of_cell? w _ hx339_2)).trans hx339_2
                   replace hx339_3 := (HB.out.cell (World.block_lt_of_cell? w _ hx339_3)).trans hx339_3
                   replace hx339_4 := (HB.out.cell (World.block_lt_of_cell? w _ hx339_4)).trans hx339_4
                   replace hx339_5 := (HB.out.cell (World.block_lt_of_cell? w _ hx339_5)).trans hx339_5
                   replace hx339_6 := (HB.out.cell (World.block_lt_of_cell? w _ hx339_6)).trans hx339_6
                   replace hx339_7 := (HB.out.cell (World.block_lt_of_cell? w _ hx339_7)).trans hx339_7
                   replace hx339_8 := (HB.out.cell (World.block_lt_of_cell? w _ hx339_8)).trans hx339_8
                   replace p339 := eq_true p339
                   replace q339 := eq_true q339
                   go_wp2
                   go_meet
                   case rel => exact ⟨_, (false), (by first | rfl | (simp; done) | (simp [*]; done)), H', ⟨by have := HJ6.out; have := HJ17.out; have := HJ20.out; have := HJ22.out; have := HJ27.out; first | omega | exact Nat.le_refl _⟩, ⟨by (with_reducible repeat (first | refine blk_drewN ?_ _ | refine blk_drew ?_ | refine blk_alloc ?_ _)); exact BK335.out⟩, ⟨by repeat (first | (with_reducible first | exact HB.out | apply below_alloc | apply pw_below_drewN | apply below_drew1 | refine below_set ?_ GE335.out) | exact HB.out)⟩⟩
                 ·rw [if_neg c33] at H
                  exact absurd H (by simp)
                ·rw [if_neg c32] at H
                 exact absurd H (by simp)
               ·rw [if_neg c31] at H
                have c31b0 : decide (0 ≤ a1) = false := decide_eq_false c31
                clear c31
                (first | rw [c31b0] | (simp only [i64_w, i32_w]; rw [c31b0]) | skip)
                have H' := Aside0.mk H
                clear H
                go_wp2
                go_meet
                case rel => exact ⟨_, (false), (by first | rfl | (simp; done) | (simp [*]; done)), H', ⟨by have := HJ6.out; have := HJ17.out; have := HJ20.out; have := HJ22.out; have := HJ27.out; first | omega | exact Nat.le_refl _⟩, ⟨by (with_reducible repeat (first | refine blk_drewN ?_ _ | refine blk_drew ?_ | refine blk_alloc ?_ _)); exact BK335.out⟩, ⟨by repeat (first | (with_reducible first | exact HB.out | apply below_alloc | apply pw_below_drewN | apply below_drew1 | refine below_set ?_ GE335.out) | exact HB.out)⟩⟩
              case rest =>
               clear HC30
               try clear c1
               try clear c2
               try clear p2
               try clear c3
               try clear p3
               try clear q3
               try clear hx3
               try clear p6
               try clear c11
               try clear c12
               try clear c12b0
               try clear c15
               try clear c16
               try clear c16b0
               try clear c17
               try clear c17b0
               try clear c20
               try clear c20b0
               try clear c20b1
               try clear c22
               try clear c24
               try clear c24b0
               try clear c25
               try clear c25b0
               try clear c26
               try clear c26b0
               try clear c26b1
               try clear c27
               try clear c27b0
               try clear c29
               try clear c31
               try clear c31b0
               try clear c32
               try clear c32b0
               try clear c33
               try clear c33b0
               try clear p33
               try clear q33
               try clear hx33
               try clear p34
               try clear q34
               try clear hx34
               try clear c35
               try clear c36
               try clear c36b0
               try clear c37
               try clear c37b0
               try clear hcz10_0
               try clear hcz10_1
               try clear hcz10_2
               try clear hcz10_3
               try clear hcz13_0
               try clear hcz13_1
               try clear hcz13_2
               try clear hcz13_3
               try clear hcz14_0
               try clear hcz14_1
               try clear hcz14_2
               try clear hcz14_3
               try clear hcz19_0
               try clear hcz19_1
               try clear hcz19_2
               try clear hcz19_3
               try clear hfz10_0
               try clear hfz10_1
               try clear hfz10_2
               try clear hfz10_3
               try clear hfz13_0
               try clear hfz13_1
               try clear hfz13_2
               try clear hfz13_3
               try clear hfz14_0
               try clear hfz14_1
               try clear hfz14_2
               try clear hfz14_3
               try clear hfz19_0
               try clear hfz19_1
               try clear hfz19_2
               try clear hfz19_3
               try clear hx336_0
               try clear hx336_1
               try clear hx336_2
               try clear hx336_3
               try clear hx336_4
               try clear hx336_5
               try clear hx336_6
               try clear hx336_7
               try clear hx336_8
               try clear hx337_0
               try clear hx337_1
               try clear hx337_2
               try clear hx337_3
               try clear hx337_4
               try clear hx337_5
               try clear hx337_6
               try clear hx337_7
               try clear hx337_8
               try clear hx338_0
               try clear hx338_1
               try clear hx338_2
               try clear hx338_3
               try clear hx338_4
               try clear hx338_5
               try clear hx338_6
               try clear hx338_7
               try clear hx338_8
               try clear hx339_0
               try clear hx339_1
               try clear hx339_2
               try clear hx339_3
               try clear hx339_4
               try clear hx339_5
               try clear hx339_6
               try clear hx339_7
               try clear hx339_8
               try clear hx340_0
               try clear hx340_1
               try clear hx340_2
               try clear hx340_3
               try clear hx340_4
               try clear hx340_5
               try clear hx340_6
               try clear hx340_7
               try clear hx340_8
               try clear p2
               try clear p3
               try clear p336
               try clear p337
               try clear p338
               try clear p339
               try clear p340
               try clear p6
               try clear q3
               try clear q336
               try clear q337
               try clear q338
               try clear q339
               try clear q340
               obtain ⟨kq, x101_29, rfl, HA, HJ29, BK335, HB⟩ := hcut
               cases kq with
               | zero => exact absurd HA.out (by simp [variorumref10_Cost.j5])
               | succ kj29 =>
                have H := HA.out
                clear HA
                simp only [variorumref10_Cost.j5] at H
                have HC38 := Aside0.mk H
                clear H
                go_upto_if 101 with (fail)
                go_cut [16] (fun v16 wc => ∃ (kq : Nat) (x16_37 : Int), v16 = .int .i64 x16_37 ∧ Aside0 (variorumref10_Cost.j6 kq t333 x16_37 t330 t331 t332 t333 = some (r1, r2, r3)) ∧ Aside0 (kq ≤ kj29) ∧ Aside0 (wc.heap[gb335]? = some (.cells #[.int .i64 t330, .int .i64 t331, .int .i64 t332, .int .i64 t333] 40 (0, 0))) ∧ Aside0 (Below w.heap.size w wc))
                case first =>
                 have H := HC38.out
                 clear HC38
                 by_cases c39 : x101_29 = true
                 ·subst c39
                  have H1 : (variorumref10_Cost.j6 kj29 t333 (wrap64 (x16_27 + 10000)) t330 t331 t332 t333) = some (r1, r2, r3) := by rw [if_pos rfl] at H; exact H
                  clear H
                  have H := H1
                  clear H1
                  have H' := Aside0.mk H
                  clear H
                  go_wp2
                  go_meet
                  case rel => exact ⟨_, (wrap64 (x16_27 + 10000)), (by first | rfl | (simp; done) | (simp [*]; done)), H', ⟨by have := HJ6.out; have := HJ17.out; have := HJ20.out; have := HJ22.out; have := HJ27.out; have := HJ29.out; first | omega | exact Nat.le_refl _⟩, ⟨by (with_reducible repeat (first | refine blk_drewN ?_ _ | refine blk_drew ?_ | refine blk_alloc ?_ _)); exact BK335.out⟩, ⟨by repeat (first | (with_reducible first | exact HB.out | apply below_alloc | apply pw_below_drewN | apply below_drew1 | refine below_set ?_ GE335.out) | exact HB.out)⟩⟩
                 ·replace c39 := Bool.eq_false_iff.mpr c39
                  subst c39
                  have H1 : (variorumref10_Cost.j6 kj29 t333 x16_27 t330 t331 t332 t333) = some (r1, r2, r3) := by rw [if_neg (show ¬ (false = true) by decide)] at H; exact H
                  clear H
                  have H := H1
                  clear H1
                  have H' := Aside0.mk H
                  clear H
                  go_wp2
                  go_meet
                  case rel => exact ⟨_, (x16_27), (by first | rfl | (simp; done) | (simp [*]; done)), H', ⟨by have := HJ6.out; have := HJ17.out; have := HJ20.out; have := HJ22.out; have := HJ27.out; have := HJ29.out; first | omega | exact Nat.le_refl _⟩, ⟨by (with_reducible repeat (first | refine blk_drewN ?_ _ | refine blk_drew ?_ | refine blk_alloc ?_ _)); exact BK335.out⟩, ⟨by repeat (first | (with_reducible first | exact HB.out | apply below_alloc | apply pw_below_drewN | apply below_drew1 | refine below_set ?_ GE335.out) | exact HB.out)⟩⟩
                case rest =>
                 clear HC38
                 try clear c1
                 try clear c2
                 try clear p2
                 try clear c3
                 try clear p3
                 try clear q3
                 try clear hx3
                 try clear p6
                 try clear c11
                 try clear c12
                 try clear c12b0
                 try clear c15
                 try clear c16
                 try clear c16b0
                 try clear c17
                 try clear c17b0
                 try clear c20
                 try clear c20b0
                 try clear c20b1
                 try clear c22
                 try clear c24
                 try clear c24b0
                 try clear c25
                 try clear c25b0
                 try clear c26
                 try clear c26b0
                 try clear c26b1
                 try clear c27
                 try clear c27b0
                 try clear c29
                 try clear c31
                 try clear c31b0
                 try clear c32
                 try clear c32b0
                 try clear c33
                 try clear c33b0
                 try clear p33
                 try clear q33
                 try clear hx33
                 try clear p34
                 try clear q34
                 try clear hx34
                 try clear c35
                 try clear c36
                 try clear c36b0
                 try clear c37
                 try clear c37b0
                 try clear c39
                 try clear hcz10_0
                 try clear hcz10_1
                 try clear hcz10_2
                 try clear hcz10_3
                 try clear hcz13_0
                 try clear hcz13_1
                 try clear hcz13_2
                 try clear hcz13_3
                 try clear hcz14_0
                 try clear hcz14_1
                 try clear hcz14_2
                 try clear hcz14_3
                 try clear hcz19_0
                 try clear hcz19_1
                 try clear hcz19_2
                 try clear hcz19_3
                 try clear hfz10_0
                 try clear hfz10_1
                 try clear hfz10_2
                 try clear hfz10_3
                 try clear hfz13_0
                 try clear hfz13_1
                 try clear hfz13_2
                 try clear hfz13_3
                 try clear hfz14_0
                 try clear hfz14_1
                 try clear hfz14_2
                 try clear hfz14_3
                 try clear hfz19_0
                 try clear hfz19_1
                 try clear hfz19_2
                 try clear hfz19_3
                 try clear hx336_0
                 try clear hx336_1
                 try clear hx336_2
                 try clear hx336_3
                 try clear hx336_4
                 try clear hx336_5
                 try clear hx336_6
                 try clear hx336_7
                 try clear hx336_8
                 try clear hx337_0
                 try clear hx337_1
                 try clear hx337_2
                 try clear hx337_3
                 try clear hx337_4
                 try clear hx337_5
                 try clear hx337_6
                 try clear hx337_7
                 try clear hx337_8
                 try clear hx338_0
                 try clear hx338_1
                 try clear hx338_2
                 try clear hx338_3
                 try clear hx338_4
                 try clear hx338_5
                 try clear hx338_6
                 try clear hx338_7
                 try clear hx338_8
                 try clear hx339_0
                 try clear hx339_1
                 try clear hx339_2
                 try clear hx339_3
                 try clear hx339_4
                 try clear hx339_5
                 try clear hx339_6
                 try clear hx339_7
                 try clear hx339_8
                 try clear hx340_0
                 try clear hx340_1
                 try clear hx340_2
                 try clear hx340_3
                 try clear hx340_4
                 try clear hx340_5
                 try clear hx340_6
                 try clear hx340_7
                 try clear hx340_8
                 try clear p2
                 try clear p3
                 try clear p33
                 try clear p336
                 try clear p337
                 try clear p338
                 try clear p339
                 try clear p34
                 try clear p340
                 try clear p6
                 try clear q3
                 try clear q33
                 try clear q336
                 try clear q337
                 try clear q338
                 try clear q339
                 try clear q34
                 try clear q340
                 obtain ⟨kq, x16_37, rfl, HA, HJ37, BK335, HB⟩ := hcut
                 cases kq with
                 | zero => exact absurd HA.out (by simp [variorumref10_Cost.j6])
                 | succ kj37 =>
                  have H := HA.out
                  clear HA
                  simp only [variorumref10_Cost.j6] at H
                  have HC40 := Aside0.mk H
                  clear H
                  go_upto_if 105 with (fail)
                  go_cut [18] (fun v18 wc => ∃ (kq : Nat) (x18_39 : Int), v18 = .int .i64 x18_39 ∧ Aside0 (variorumref10_Cost.j7 kq t333 x16_37 x18_39 t330 t331 t332 t333 = some (r1, r2, r3)) ∧ Aside0 (kq ≤ kj37) ∧ Aside0 (wc.heap[gb335]? = some (.cells #[.int .i64 t330, .int .i64 t331, .int .i64 t332, .int .i64 t333] 40 (0, 0))) ∧ Aside0 (Below w.heap.size w wc))
                  case first =>
                   have H := HC40.out
                   clear HC40
                   by_cases c41 : t333 < 100
                   ·rw [if_pos c41] at H
                    have c41b0 : decide (t333 < 100) = true := decide_eq_true c41
                    clear c41
                    (first | rw [c41b0] | (simp only [i64_w, i32_w]; rw [c41b0]) | skip)
                    have H' := Aside0.mk H
                    clear H
                    go_wp2
                    go_meet
                    case rel => exact ⟨_, (1), (by first | rfl | (simp; done) | (simp [*]; done)), H', ⟨by have := HJ6.out; have := HJ17.out; have := HJ20.out; have := HJ22.out; have := HJ27.out; have := HJ29.out; have := HJ37.out; first | omega | exact Nat.le_refl _⟩, ⟨by (with_reducible repeat (first | refine blk_drewN ?_ _ | refine blk_drew ?_ | refine blk_alloc ?_ _)); exact BK335.out⟩, ⟨by repeat (first | (with_reducible first | exact HB.out | apply below_alloc | apply pw_below_drewN | apply below_drew1 | refine below_set ?_ GE335.out) | exact HB.out)⟩⟩
                   ·rw [if_neg c41] at H
                    have c41b0 : decide (t333 < 100) = false := decide_eq_false c41
                    clear c41
                    (first | rw [c41b0] | (simp only [i64_w, i32_w]; rw [c41b0]) | skip)
                    have H' := Aside0.mk H
                    clear H
                    go_wp2
                    go_meet
                    case rel => exact ⟨_, (0), (by first | rfl | (simp; done) | (simp [*]; done)), H', ⟨by have := HJ6.out; have := HJ17.out; have := HJ20.out; have := HJ22.out; have := HJ27.out; have := HJ29.out; have := HJ37.out; first | omega | exact Nat.le_refl _⟩, ⟨by (with_reducible repeat (first | refine blk_drewN ?_ _ | refine blk_drew ?_ | refine blk_alloc ?_ _)); exact BK335.out⟩, ⟨by repeat (first | (with_reducible first | exact HB.out | apply below_alloc | apply pw_below_drewN | apply below_drew1 | refine below_set ?_ GE335.out) | exact HB.out)⟩⟩
                  case rest =>
                   clear HC40
                   try clear c1
                   try clear c2
                   try clear p2
                   try clear c3
                   try clear p3
                   try clear q3
                   try clear hx3
                   try clear c4
                   try clear p6
                   try clear c11
                   try clear c12
                   try clear c12b0
                   try clear c15
                   try clear c16
                   try clear c16b0
                   try clear c17
                   try clear c17b0
                   try clear c20
                   try clear c20b0
                   try clear c20b1
                   try clear c22
                   try clear c24
                   try clear c24b0
                   try clear c25
                   try clear c25b0
                   try clear c26
                   try clear c26b0
                   try clear c26b1
                   try clear c27
                   try clear c27b0
                   try clear c29
                   try clear c31
                   try clear c31b0
                   try clear c32
                   try clear c32b0
                   try clear c33
                   try clear c33b0
                   try clear p33
                   try clear q33
                   try clear hx33
                   try clear p34
                   try clear q34
                   try clear hx34
                   try clear c35
                   try clear c36
                   try clear c36b0
                   try clear c37
                   try clear c37b0
                   try clear c39
                   try clear c41
                   try clear c41b0
                   try clear hcz10_0
                   try clear hcz10_1
                   try clear hcz10_2
                   try clear hcz10_3
                   try clear hcz13_0
                   try clear hcz13_1
                   try clear hcz13_2
                   try clear hcz13_3
                   try clear hcz14_0
                   try clear hcz14_1
                   try clear hcz14_2
                   try clear hcz14_3
                   try clear hcz19_0
                   try clear hcz19_1
                   try clear hcz19_2
                   try clear hcz19_3
                   try clear hfz10_0
                   try clear hfz10_1
                   try clear hfz10_2
                   try clear hfz10_3
                   try clear hfz13_0
                   try clear hfz13_1
                   try clear hfz13_2
                   try clear hfz13_3
                   try clear hfz14_0
                   try clear hfz14_1
                   try clear hfz14_2
                   try clear hfz14_3
                   try clear hfz19_0
                   try clear hfz19_1
                   try clear hfz19_2
                   try clear hfz19_3
                   try clear hx336_0
                   try clear hx336_1
                   try clear hx336_2
                   try clear hx336_3
                   try clear hx336_4
                   try clear hx336_5
                   try clear hx336_6
                   try clear hx336_7
                   try clear hx336_8
                   try clear hx337_0
                   try clear hx337_1
                   try clear hx337_2
                   try clear hx337_3
                   try clear hx337_4
                   try clear hx337_5
                   try clear hx337_6
                   try clear hx337_7
                   try clear hx337_8
                   try clear hx338_0
                   try clear hx338_1
                   try clear hx338_2
                   try clear hx338_3
                   try clear hx338_4
                   try clear hx338_5
                   try clear hx338_6
                   try clear hx338_7
                   try clear hx338_8
                   try clear hx339_0
                   try clear hx339_1
                   try clear hx339_2
                   try clear hx339_3
                   try clear hx339_4
                   try clear hx339_5
                   try clear hx339_6
                   try clear hx339_7
                   try clear hx339_8
                   try clear hx340_0
                   try clear hx340_1
                   try clear hx340_2
                   try clear hx340_3
                   try clear hx340_4
                   try clear hx340_5
                   try clear hx340_6
                   try clear hx340_7
                   try clear hx340_8
                   try clear p2
                   try clear p3
                   try clear p33
                   try clear p336
                   try clear p337
                   try clear p338
                   try clear p339
                   try clear p34
                   try clear p340
                   try clear p6
                   try clear q3
                   try clear q33
                   try clear q336
                   try clear q337
                   try clear q338
                   try clear q339
                   try clear q34
                   try clear q340
                   obtain ⟨kq, x18_39, rfl, HA, HJ39, BK335, HB⟩ := hcut
                   cases kq with
                   | zero => exact absurd HA.out (by simp [variorumref10_Cost.j7])
                   | succ kj39 =>
                    have H := HA.out
                    clear HA
                    simp only [variorumref10_Cost.j7] at H
                    by_cases c42 : t330 = (-1)
                    ·rw [if_pos c42] at H
                     have c42b0 : (t330 == (-1)) = true := beq_iff_eq.mpr c42
                     have c42b1 : (t330 != (-1)) = false := bne_eq_false_iff_eq.mpr c42
                     clear c42
                     by_cases c43 : t333 ≤ 12
                     ·rw [if_pos c43] at H
                      have c43b0 : decide (t333 ≤ 12) = true := decide_eq_true c43
                      clear c43
                      simp only [Option.some.injEq, Prod.mk.injEq] at H
                      obtain ⟨rfl, rfl, rfl⟩ := H
                      have hcz44_0 : wc.cell? ⟨gb335, 0, none⟩ = some (.int .i64 t330) := (blk_cell BK335.out 0).trans rfl
                      have hcz44_1 : wc.cell? ⟨gb335, 1, none⟩ = some (.int .i64 t331) := (blk_cell BK335.out 1).trans rfl
                      have hcz44_2 : wc.cell? ⟨gb335, 2, none⟩ = some (.int .i64 t332) := (blk_cell BK335.out 2).trans rfl
                      have hcz44_3 : wc.cell? ⟨gb335, 3, none⟩ = some (.int .i64 t333) := (blk_cell BK335.out 3).trans rfl
                      have hfz44_0 := blk_frozen BK335.out 0
                      have hfz44_1 := blk_frozen BK335.out 1
                      have hfz44_2 := blk_frozen BK335.out 2
                      have hfz44_3 := blk_frozen BK335.out 3
                      go_wp2
                      go_ret3
                      exact ⟨by first | rfl | (simp [errW_none, errW_some] <;> rfl) | (simp [*, errW_none, errW_some] <;> rfl), by repeat (first | (with_reducible first | exact HB.out | apply below_alloc | apply pw_below_drewN | apply below_drew1 | refine below_set ?_ GE335.out) | exact HB.out)⟩
                     ·rw [if_neg c43] at H
                      have c43b0 : decide (t333 ≤ 12) = false := decide_eq_false c43
                      clear c43
                      simp only [Option.some.injEq, Prod.mk.injEq] at H
                      obtain ⟨rfl, rfl, rfl⟩ := H
                      have hcz45_0 : wc.cell? ⟨gb335, 0, none⟩ = some (.int .i64 t330) := (blk_cell BK335.out 0).trans rfl
                      have hcz45_1 : wc.cell? ⟨gb335, 1, none⟩ = some (.int .i64 t331) := (blk_cell BK335.out 1).trans rfl
                      have hcz45_2 : wc.cell? ⟨gb335, 2, none⟩ = some (.int .i64 t332) := (blk_cell BK335.out 2).trans rfl
                      have hcz45_3 : wc.cell? ⟨gb335, 3, none⟩ = some (.int .i64 t333) := (blk_cell BK335.out 3).trans rfl
                      have hfz45_0 := blk_frozen BK335.out 0
                      have hfz45_1 := blk_frozen BK335.out 1
                      have hfz45_2 := blk_frozen BK335.out 2
                      have hfz45_3 := blk_frozen BK335.out 3
                      go_wp2
                      go_ret3
                      exact ⟨by first | rfl | (simp [errW_none, errW_some] <;> rfl) | (simp [*, errW_none, errW_some] <;> rfl), by repeat (first | (with_reducible first | exact HB.out | apply below_alloc | apply pw_below_drewN | apply below_drew1 | refine below_set ?_ GE335.out) | exact HB.out)⟩
                    ·rw [if_neg c42] at H
                     have c42b0 : (t330 == (-1)) = false := beq_eq_false_iff_ne.mpr c42
                     have c42b1 : (t330 != (-1)) = true := bne_iff_ne.mpr c42
                     by_cases c46 : t333 ≤ 12
                     ·rw [if_pos c46] at H
                      have c46b0 : decide (t333 ≤ 12) = true := decide_eq_true c46
                      clear c46
                      simp only [Option.some.injEq, Prod.mk.injEq] at H
                      obtain ⟨rfl, rfl, rfl⟩ := H
                      have hcz47_0 : wc.cell? ⟨gb335, 0, none⟩ = some (.int .i64 t330) := (blk_cell BK335.out 0).trans rfl
                      have hcz47_1 : wc.cell? ⟨gb335, 1, none⟩ = some (.int .i64 t331) := (blk_cell BK335.out 1).trans rfl
                      have hcz47_2 : wc.cell? ⟨gb335, 2, none⟩ = some (.int .i64 t332) := (blk_cell BK335.out 2).trans rfl
                      have hcz47_3 : wc.cell? ⟨gb335, 3, none⟩ = some (.int .i64 t333) := (blk_cell BK335.out 3).trans rfl
                      have hfz47_0 := blk_frozen BK335.out 0
                      have hfz47_1 := blk_frozen BK335.out 1
                      have hfz47_2 := blk_frozen BK335.out 2
                      have hfz47_3 := blk_frozen BK335.out 3
                      go_wp2
                      go_ret3
                      exact ⟨by first | rfl | (simp [errW_none, errW_some] <;> rfl) | (simp [*, errW_none, errW_some] <;> rfl), by repeat (first | (with_reducible first | exact HB.out | apply below_alloc | apply pw_below_drewN | apply below_drew1 | refine below_set ?_ GE335.out) | exact HB.out)⟩
                     ·rw [if_neg c46] at H
                      have c46b0 : decide (t333 ≤ 12) = false := decide_eq_false c46
                      clear c46
                      simp only [Option.some.injEq, Prod.mk.injEq] at H
                      obtain ⟨rfl, rfl, rfl⟩ := H
                      have hcz48_0 : wc.cell? ⟨gb335, 0, none⟩ = some (.int .i64 t330) := (blk_cell BK335.out 0).trans rfl
                      have hcz48_1 : wc.cell? ⟨gb335, 1, none⟩ = some (.int .i64 t331) := (blk_cell BK335.out 1).trans rfl
                      have hcz48_2 : wc.cell? ⟨gb335, 2, none⟩ = some (.int .i64 t332) := (blk_cell BK335.out 2).trans rfl
                      have hcz48_3 : wc.cell? ⟨gb335, 3, none⟩ = some (.int .i64 t333) := (blk_cell BK335.out 3).trans rfl
                      have hfz48_0 := blk_frozen BK335.out 0
                      have hfz48_1 := blk_frozen BK335.out 1
                      have hfz48_2 := blk_frozen BK335.out 2
                      have hfz48_3 := blk_frozen BK335.out 3
                      go_wp2
                      go_ret3
                      exact ⟨by first | rfl | (simp [errW_none, errW_some] <;> rfl) | (simp [*, errW_none, errW_some] <;> rfl), by repeat (first | (with_reducible first | exact HB.out | apply below_alloc | apply pw_below_drewN | apply below_drew1 | refine below_set ?_ GE335.out) | exact HB.out)⟩
     ·rw [if_neg c17] at H
      exact absurd H (by simp)
    ·rw [if_neg c16] at H
     exact absurd H (by simp)

end Go.Proofs.Ytagpdpcodcmgkaa.PTo

/- Written by a program of this session: functions of the given program as plain Lean functions, the walks that show it, and the row of each law, for every input that its statement speaks of. -/
import Derived.Test.YtbpomibholcpfaaPAllx0
import Derived.Test.YtbpomibholcpfaaPAllx1
import Derived.Test.YtbpomibholcpfaaPAllx3
import Derived.Test.YtbpomibholcpfaaPAllx4
import Derived.Test.YtbpomibholcpfaaPAllx5
import Derived.Test.YtbpomibholcpfaaPAllx7
namespace Go.Proofs.Ytbpomibholcpfaa.PAll
open Go.RowKit Go.Proofs.YtbpomibholcpfaaW.PrintWords Go.Proofs.YtbpomibholcpfaaW.PrintLast Go.Proofs.YtbpomibholcpfaaW.PrintMore
attribute [local go_sem] max2_int min2_int max_two min_two max_three min_three max_four min_four   -- for this text's walks alone
set_option linter.unusedVariables false
set_option linter.unusedSimpArgs false

attribute [local go_sem high] eqA26
/-! ### variorumlaw16_LinenoCounts: function 4 -/
mutual
def variorumlaw16_LinenoCounts.j0 : Nat → List (S29) → Int → List (S31) → Bool → Option (Bool)
 | 0, _, _, _, _ => none
 | k + 1, x0, x1, x5, x27 => if x27 = true then ((variorumlaw16_fixed.f k).bind fun t198 => (if t198 = true then (some ((x5.length : Int) == (x0.length : Int))) else (some false))) else (variorumlaw16_LinenoCounts.l0 k x0 x1 x5 0 (([] : List (S29))) (([] : List (S31))) 0)
def variorumlaw16_LinenoCounts.l0 : Nat → List (S29) → Int → List (S31) → Int → List (S29) → List (S31) → Int → Option (Bool)
 | 0, _, _, _, _, _, _, _ => none
 | k + 1, x0, x1, x5, x6, x7, x8, x9 => if x9 < (x0.length : Int) then (if 0 ≤ x9 then (if ((rd_T29 x0 x9).f3) > 9999 then (some true) else (if x9 > 0 then ((lineno_Unit.f ((rd_T29 x0 x9).f0) ((rd_T29 x0 x9).f1) ((rd_T29 x0 x9).f2) ((rd_T29 x0 x9).f3) ((rd_T29 x0 x9).f4) ((rd_T29 x0 x9).f5) ((rd_T29 x0 x9).f6) x1).bind fun bt207 => (if 0 ≤ (wrap64 (x9 - 1)) then (if (wrap64 (x9 - 1)) < (x0.length : Int) then ((lineno_Unit.f ((rd_T29 x0 (wrap64 (x9 - 1))).f0) ((rd_T29 x0 (wrap64 (x9 - 1))).f1) ((rd_T29 x0 (wrap64 (x9 - 1))).f2) ((rd_T29 x0 (wrap64 (x9 - 1))).f3) ((rd_T29 x0 (wrap64 (x9 - 1))).f4) ((rd_T29 x0 (wrap64 (x9 - 1))).f5) ((rd_T29 x0 (wrap64 (x9 - 1))).f6) x1).bind fun bt211 => (variorumlaw16_LinenoCounts.j2 k x0 x1 x5 x6 x7 x8 x9 (!(bt207.1 == bt211.1) || (!(bt207.2.1 == bt211.2.1) || (!(bt207.2.2 == bt211.2.2)))))) else (none)) else (none))) else (variorumlaw16_LinenoCounts.j2 k x0 x1 x5 x6 x7 x8 x9 false))) else (none)) else ((lineno_Number.f k x7 x1).bind fun t228 => ((variorumref16_Nums.f k t228 x8).bind fun t231 => (some t231)))
def variorumlaw16_LinenoCounts.j2 : Nat → List (S29) → Int → List (S31) → Int → List (S29) → List (S31) → Int → Bool → Option (Bool)
 | 0, _, _, _, _, _, _, _, _ => none
 | k + 1, x0, x1, x5, x6, x7, x8, x9, x67 => if x67 = true then (variorumlaw16_LinenoCounts.j3 k x0 x1 x5 0 x7 x8 x9) else (variorumlaw16_LinenoCounts.j3 k x0 x1 x5 x6 x7 x8 x9)
def variorumlaw16_LinenoCounts.j3 : Nat → List (S29) → Int → List (S31) → Int → List (S29) → List (S31) → Int → Option (Bool)
 | 0, _, _, _, _, _, _, _ => none
 | k + 1, x0, x1, x5, x6, x7, x8, x9 => if 0 ≤ x9 then (if x9 < (x0.length : Int) then (if x7.length < 3518437208883 then ((some (x7 ++ [(⟨(rd_T29 x0 x9).f0, (rd_T29 x0 x9).f1, (rd_T29 x0 x9).f2, 0, false, false, false⟩ : S29)] : List (S29))).bind fun y218 => (if x8.length < 8796093022208 then ((some (x8 ++ [(⟨wrap64 (x6 + 1), 0⟩ : S31)] : List (S31))).bind fun y221 => (if x9 < (x5.length : Int) then (if ((rd_T31 x5 x9).f0) < 0 then (variorumlaw16_LinenoCounts.j4 k x0 x1 x5 (wrap64 (x6 + 1)) y218 y221 x9 true) else (if ((rd_T31 x5 x9).f1) < 0 then (variorumlaw16_LinenoCounts.j4 k x0 x1 x5 (wrap64 (x6 + 1)) y218 y221 x9 true) else (variorumlaw16_LinenoCounts.j4 k x0 x1 x5 (wrap64 (x6 + 1)) y218 y221 x9 (((rd_T29 x0 x9).f5) != (((rd_T31 x5 x9).f0) == 0))))) else (none))) else (none))) else (none)) else (none)) else (none)
def variorumlaw16_LinenoCounts.j4 : Nat → List (S29) → Int → List (S31) → Int → List (S29) → List (S31) → Int → Bool → Option (Bool)
 | 0, _, _, _, _, _, _, _, _ => none
 | k + 1, x0, x1, x5, x6, x7, x8, x9, x122 => if x122 = true then (some false) else (variorumlaw16_LinenoCounts.l0 k x0 x1 x5 x6 x7 x8 (wrap64 (x9 + 1)))
end
def variorumlaw16_LinenoCounts.f (k : Nat) (l0 : List (S29)) (a1 : Int) : Option (Bool) := (lineno_Number.f k l0 a1).bind fun t194 => ((variorumlaw16_fixed.f k).bind fun t197 => (if t197 = true then (if (t194.length : Int) = (l0.length : Int) then (variorumlaw16_LinenoCounts.j0 k l0 a1 t194 (decide ((l0.length : Int) > 1000))) else (variorumlaw16_LinenoCounts.j0 k l0 a1 t194 true)) else (variorumlaw16_LinenoCounts.j0 k l0 a1 t194 true)))
theorem variorumlaw16_LinenoCounts.mono_l : ∀ k, (∀ y0 y1 y2 y3, LeO (variorumlaw16_LinenoCounts.j0 k y0 y1 y2 y3) (variorumlaw16_LinenoCounts.j0 (k + 1) y0 y1 y2 y3)) ∧ (∀ y0 y1 y2 y3 y4 y5 y6, LeO (variorumlaw16_LinenoCounts.l0 k y0 y1 y2 y3 y4 y5 y6) (variorumlaw16_LinenoCounts.l0 (k + 1) y0 y1 y2 y3 y4 y5 y6)) ∧ (∀ y0 y1 y2 y3 y4 y5 y6 y7, LeO (variorumlaw16_LinenoCounts.j2 k y0 y1 y2 y3 y4 y5 y6 y7) (variorumlaw16_LinenoCounts.j2 (k + 1) y0 y1 y2 y3 y4 y5 y6 y7)) ∧ (∀ y0 y1 y2 y3 y4 y5 y6, LeO (variorumlaw16_LinenoCounts.j3 k y0 y1 y2 y3 y4 y5 y6) (variorumlaw16_LinenoCounts.j3 (k + 1) y0 y1 y2 y3 y4 y5 y6)) ∧ (∀ y0 y1 y2 y3 y4 y5 y6 y7, LeO (variorumlaw16_LinenoCounts.j4 k y0 y1 y2 y3 y4 y5 y6 y7) (variorumlaw16_LinenoCounts.j4 (k + 1) y0 y1 y2 y3 y4 y5 y6 y7))
 | 0 => ⟨fun _ _ _ _ r h => by simp [variorumlaw16_LinenoCounts.j0] at h, fun _ _ _ _ _ _ _ r h => by simp [variorumlaw16_LinenoCounts.l0] at h, fun _ _ _ _ _ _ _ _ r h => by simp [variorumlaw16_LinenoCounts.j2] at h, fun _ _ _ _ _ _ _ r h => by simp [variorumlaw16_LinenoCounts.j3] at h, fun _ _ _ _ _ _ _ _ r h => by simp [variorumlaw16_LinenoCounts.j4] at h⟩
 | k + 1 => by
  obtain ⟨ih0, ih1, ih2, ih3, ih4⟩ := variorumlaw16_LinenoCounts.mono_l k
  refine ⟨?_, ?_, ?_, ?_, ?_⟩
  ·intro y0 y1 y2 y3
   unfold variorumlaw16_LinenoCounts.j0
   repeat' first
   | (with_reducible exact ih0 _ _ _ _)
   | (with_reducible exact ih1 _ _ _ _ _ _ _)
   | (with_reducible exact ih2 _ _ _ _ _ _ _ _)
   | (with_reducible exact ih3 _ _ _ _ _ _ _)
   | (with_reducible exact ih4 _ _ _ _ _ _ _ _)
   | (with_reducible exact lineno_Number.mono _ _ _)
   | (with_reducible exact variorumlaw16_fixed.mono _)
   | (with_reducible exact variorumref16_Nums.mono _ _ _)
   | (with_reducible exact LeO.refl _)
   | (with_reducible exact LeO.none _)
   | (with_reducible refine LeO.ite ?_ ?_)
   | (with_reducible refine LeO.bind ?_ (fun _ => ?_))
   | exact ih0 _ _ _ _
   | exact ih1 _ _ _ _ _ _ _
   | exact ih2 _ _ _ _ _ _ _ _
   | exact ih3 _ _ _ _ _ _ _
   | exact ih4 _ _ _ _ _ _ _ _
   | exact lineno_Number.mono _ _ _
   | exact variorumlaw16_fixed.mono _
   | exact variorumref16_Nums.mono _ _ _
   | exact LeO.none _
   | refine LeO.ite ?_ ?_
   | refine LeO.bind ?_ (fun _ => ?_)
  ·intro y0 y1 y2 y3 y4 y5 y6
   unfold variorumlaw16_LinenoCounts.l0
   repeat' first
   | (with_reducible exact ih0 _ _ _ _)
   | (with_reducible exact ih1 _ _ _ _ _ _ _)
   | (with_reducible exact ih2 _ _ _ _ _ _ _ _)
   | (with_reducible exact ih3 _ _ _ _ _ _ _)
   | (with_reducible exact ih4 _ _ _ _ _ _ _ _)
   | (with_reducible exact lineno_Number.mono _ _ _)
   | (with_reducible exact variorumlaw16_fixed.mono _)
   | (with_reducible exact variorumref16_Nums.mono _ _ _)
   | (with_reducible exact LeO.refl _)
   | (with_reducible exact LeO.none _)
   | (with_reducible refine LeO.ite ?_ ?_)
   | (with_reducible refine LeO.bind ?_ (fun _ => ?_))
   | exact ih0 _ _ _ _
   | exact ih1 _ _ _ _ _ _ _
   | exact ih2 _ _ _ _ _ _ _ _
   | exact ih3 _ _ _ _ _ _ _
   | exact ih4 _ _ _ _ _ _ _ _
   | exact lineno_Number.mono _ _ _
   | exact variorumlaw16_fixed.mono _
   | exact variorumref16_Nums.mono _ _ _
   | exact LeO.none _
   | refine LeO.ite ?_ ?_
   | refine LeO.bind ?_ (fun _ => ?_)
  ·intro y0 y1 y2 y3 y4 y5 y6 y7
   unfold variorumlaw16_LinenoCounts.j2
   repeat' first
   | (with_reducible exact ih0 _ _ _ _)
   | (with_reducible exact ih1 _ _ _ _ _ _ _)
   | (with_reducible exact ih2 _ _ _ _ _ _ _ _)
   | (with_reducible exact ih3 _ _ _ _ _ _ _)
   | (with_reducible exact ih4 _ _ _ _ _ _ _ _)
   | (with_reducible exact lineno_Number.mono _ _ _)
   | (with_reducible exact variorumlaw16_fixed.mono _)
   | (with_reducible exact variorumref16_Nums.mono _ _ _)
   | (with_reducible exact LeO.refl _)
   | (with_reducible exact LeO.none _)
   | (with_reducible refine LeO.ite ?_ ?_)
   | (with_reducible refine LeO.bind ?_ (fun _ => ?_))
   | exact ih0 _ _ _ _
   | exact ih1 _ _ _ _ _ _ _
   | exact ih2 _ _ _ _ _ _ _ _
   | exact ih3 _ _ _ _ _ _ _
   | exact ih4 _ _ _ _ _ _ _ _
   | exact lineno_Number.mono _ _ _
   | exact variorumlaw16_fixed.mono _
   | exact variorumref16_Nums.mono _ _ _
   | exact LeO.none _
   | refine LeO.ite ?_ ?_
   | refine LeO.bind ?_ (fun _ => ?_)
  ·intro y0 y1 y2 y3 y4 y5 y6
   unfold variorumlaw16_LinenoCounts.j3
   repeat' first
   | (with_reducible exact ih0 _ _ _ _)
   | (with_reducible exact ih1 _ _ _ _ _ _ _)
   | (with_reducible exact ih2 _ _ _ _ _ _ _ _)
   | (with_reducible exact ih3 _ _ _ _ _ _ _)
   | (with_reducible exact ih4 _ _ _ _ _ _ _ _)
   | (with_reducible exact lineno_Number.mono _ _ _)
   | (with_reducible exact variorumlaw16_fixed.mono _)
   | (with_reducible exact variorumref16_Nums.mono _ _ _)
   | (with_reducible exact LeO.refl _)
   | (with_reducible exact LeO.none _)
   | (with_reducible refine LeO.ite ?_ ?_)
   | (with_reducible refine LeO.bind ?_ (fun _ => ?_))
   | exact ih0 _ _ _ _
   | exact ih1 _ _ _ _ _ _ _
   | exact ih2 _ _ _ _ _ _ _ _
   | exact ih3 _ _ _ _ _ _ _
   | exact ih4 _ _ _ _ _ _ _ _
   | exact lineno_Number.mono _ _ _
   | exact variorumlaw16_fixed.mono _
   | exact variorumref16_Nums.mono _ _ _
   | exact LeO.none _
   | refine LeO.ite ?_ ?_
   | refine LeO.bind ?_ (fun _ => ?_)
  ·intro y0 y1 y2 y3 y4 y5 y6 y7
   unfold variorumlaw16_LinenoCounts.j4
   repeat' first
   | (with_reducible exact ih0 _ _ _ _)
   | (with_reducible exact ih1 _ _ _ _ _ _ _)
   | (with_reducible exact ih2 _ _ _ _ _ _ _ _)
   | (with_reducible exact ih3 _ _ _ _ _ _ _)
   | (with_reducible exact ih4 _ _ _ _ _ _ _ _)
   | (with_reducible exact lineno_Number.mono _ _ _)
   | (with_reducible exact variorumlaw16_fixed.mono _)
   | (with_reducible exact variorumref16_Nums.mono _ _ _)
   | (with_reducible exact LeO.refl _)
   | (with_reducible exact LeO.none _)
   | (with_reducible refine LeO.ite ?_ ?_)
   | (with_reducible refine LeO.bind ?_ (fun _ => ?_))
   | exact ih0 _ _ _ _
   | exact ih1 _ _ _ _ _ _ _
   | exact ih2 _ _ _ _ _ _ _ _
   | exact ih3 _ _ _ _ _ _ _
   | exact ih4 _ _ _ _ _ _ _ _
   | exact lineno_Number.mono _ _ _
   | exact variorumlaw16_fixed.mono _
   | exact variorumref16_Nums.mono _ _ _
   | exact LeO.none _
   | refine LeO.ite ?_ ?_
   | refine LeO.bind ?_ (fun _ => ?_)
theorem variorumlaw16_LinenoCounts.mono : ∀ a0 a1 k, LeO (variorumlaw16_LinenoCounts.f k a0 a1) (variorumlaw16_LinenoCounts.f (k + 1) a0 a1) := by
 intro a0 a1 k
 obtain ⟨ih0, ih1, ih2, ih3, ih4⟩ := variorumlaw16_LinenoCounts.mono_l k
 unfold variorumlaw16_LinenoCounts.f
 repeat' first
   | (with_reducible exact ih0 _ _ _ _)
   | (with_reducible exact ih1 _ _ _ _ _ _ _)
   | (with_reducible exact ih2 _ _ _ _ _ _ _ _)
   | (with_reducible exact ih3 _ _ _ _ _ _ _)
   | (with_reducible exact ih4 _ _ _ _ _ _ _ _)
   | (with_reducible exact lineno_Number.mono _ _ _)
   | (with_reducible exact variorumlaw16_fixed.mono _)
   | (with_reducible exact variorumref16_Nums.mono _ _ _)
   | (with_reducible exact LeO.refl _)
   | (with_reducible exact LeO.none _)
   | (with_reducible refine LeO.ite ?_ ?_)
   | (with_reducible refine LeO.bind ?_ (fun _ => ?_))
   | exact ih0 _ _ _ _
   | exact ih1 _ _ _ _ _ _ _
   | exact ih2 _ _ _ _ _ _ _ _
   | exact ih3 _ _ _ _ _ _ _
   | exact ih4 _ _ _ _ _ _ _ _
   | exact lineno_Number.mono _ _ _
   | exact variorumlaw16_fixed.mono _
   | exact variorumref16_Nums.mono _ _ _
   | exact LeO.none _
   | refine LeO.ite ?_ ?_
   | refine LeO.bind ?_ (fun _ => ?_)
def variorumlaw16_LinenoCounts.T12 : Bool × List (List Nat × List Nat) := (true, [([], []), ([0], [0]), ([1], [1]), ([2], [2]), ([2], [2]), ([3, 4, 2], [2, 3, 4]), ([5, 2], [2, 5]), ([2], [2]), ([6, 7, 2, 2], [2, 6, 7]), ([2], [2]), ([2], [2]), ([10, 2], [2, 10]), ([9, 11, 2], [2, 9, 11]), ([12, 2], [2, 12]), ([2], [2]), ([13, 14, 8, 2], [2, 13, 14]), ([8, 15, 2], [2, 8, 15]), ([2, 16], [2, 16])])
def variorumlaw16_LinenoCounts.B12 : List Nat := [0, 1, 3, 7, 7, 31, 63, 7, 255, 7, 7, 1031, 3591, 7687, 7, 32767, 65535, 131071]
theorem variorumlaw16_LinenoCounts.tab12 : rtab .any (opsOf Try.f4 12) = variorumlaw16_LinenoCounts.T12 := by kernel_rfl
theorem variorumlaw16_LinenoCounts.bits12 : waitsOk variorumlaw16_LinenoCounts.T12.2 variorumlaw16_LinenoCounts.B12 = true := by kernel_rfl
def variorumlaw16_LinenoCounts.T15 : Bool × List (List Nat × List Nat) := (true, [([], []), ([], []), ([0, 1], [0, 1]), ([2], [2]), ([3], [3]), ([], []), ([], []), ([5, 6], [5, 6]), ([7], [7]), ([8], [8]), ([], []), ([], []), ([10, 11], [10, 11]), ([12], [12]), ([13], [13]), ([4, 9, 14], [4, 9, 14]), ([], []), ([16, 15, 0, 1, 2, 3, 4, 5, 6, 7, 8, 9, 10, 11, 12, 13, 14, 15, 16], [15, 16])])
def variorumlaw16_LinenoCounts.B15 : List Nat := [0, 0, 3, 7, 15, 0, 0, 96, 224, 480, 0, 0, 3072, 7168, 15360, 32767, 0, 131071]
theorem variorumlaw16_LinenoCounts.tab15 : rtab .any (opsOf Try.f4 15) = variorumlaw16_LinenoCounts.T15 := by kernel_rfl
theorem variorumlaw16_LinenoCounts.bits15 : waitsOk variorumlaw16_LinenoCounts.T15.2 variorumlaw16_LinenoCounts.B15 = true := by kernel_rfl
def variorumlaw16_LinenoCounts.T18 : Bool × List (List Nat × List Nat) := (true, [([], []), ([], []), ([0, 1], [0, 1]), ([2], [2]), ([3], [3]), ([4], [4]), ([5], [5]), ([6], [6]), ([6], [6]), ([7, 8, 6], [6, 7, 8]), ([9, 6], [6, 9]), ([10, 6], [6, 10]), ([11, 6], [6, 11]), ([6, 12], [6, 12]), ([13, 6], [13]), ([14], [14]), ([14], [14]), ([15, 16, 14], [14, 15, 16]), ([17, 14], [14, 17]), ([18, 14], [14, 18]), ([14], [14]), ([14], [14]), ([20, 21, 14], [14, 20, 21]), ([22, 14], [14, 22]), ([23, 14], [14, 23]), ([24, 14], [14, 24]), ([19, 25, 14], [14, 19, 25]), ([14, 26], [14, 26])])
def variorumlaw16_LinenoCounts.B18 : List Nat := [0, 0, 3, 7, 15, 31, 63, 127, 127, 511, 1023, 2047, 4095, 8191, 16383, 32767, 32767, 131071, 262143, 524287, 32767, 32767, 3178495, 7372799, 15761407, 32538623, 67108863, 134217727]
theorem variorumlaw16_LinenoCounts.tab18 : rtab .any (opsOf Try.f4 18) = variorumlaw16_LinenoCounts.T18 := by kernel_rfl
theorem variorumlaw16_LinenoCounts.bits18 : waitsOk variorumlaw16_LinenoCounts.T18.2 variorumlaw16_LinenoCounts.B18 = true := by kernel_rfl
set_option maxHeartbeats 8000000 in
set_option maxRecDepth 100000 in
theorem variorumlaw16_LinenoCounts.calls (k : Nat) (A0 : Option Addr) (c0 : Nat) (l0 : List (S29)) (a1 : Int) (r : Bool) (w : World) (hr0 : Kd.C k29 w A0 l0.length l0) (hc0 : l0.length ≤ c0) (h : variorumlaw16_LinenoCounts.f k l0 a1 = some r) :
  Calls Try.prog 4 #[.slice A0 l0.length c0, .int .i64 a1] w fun e w' => e = .returned (.bool r) ∧ Below w.heap.size w w' := by
 have hu29 := Try.underlying29
 have hu31 := Try.underlying31
 have HR0 := Aside0.mk hr0
 have HC0 := Aside0.mk hc0
 clear hr0 hc0
 have HB := Aside0.mk (Below.refl w.heap.size w)
 have H : ((lineno_Number.f k l0 a1).bind fun t194 => ((variorumlaw16_fixed.f k).bind fun t197 => (if t197 = true then (if (t194.length : Int) = (l0.length : Int) then (variorumlaw16_LinenoCounts.j0 k l0 a1 t194 (decide ((l0.length : Int) > 1000))) else (variorumlaw16_LinenoCounts.j0 k l0 a1 t194 true)) else (variorumlaw16_LinenoCounts.j0 k l0 a1 t194 true)))) = some r := h
 clear h
 replace H := Option.bind_eq_some_iff.mp H
 obtain ⟨t194, A30, H⟩ := H
 replace H : ((variorumlaw16_fixed.f k).bind fun t197 => (if t197 = true then (if (t194.length : Int) = (l0.length : Int) then (variorumlaw16_LinenoCounts.j0 k l0 a1 t194 (decide ((l0.length : Int) > 1000))) else (variorumlaw16_LinenoCounts.j0 k l0 a1 t194 true)) else (variorumlaw16_LinenoCounts.j0 k l0 a1 t194 true))) = some r := H
 have A3 := Aside0.mk A30
 clear A30
 have HC4 := Aside0.mk H
 clear H
 go_enter Try.func4, Try.ntmps4
 go_upto_region 2 with (first | ((with_reducible refine gate_callee (f := 7) rfl ?_); refine goesL_ (some 13) rfl rfl Try.func7 (by kernel_rfl) rfl #[.slice A0 l0.length c0, .int .i64 a1] rfl (by (try simp only [List.map_toArray, List.map_cons, List.map_nil]); first | done | rfl | (simp only [List.length_drop, List.length_take]; rfl) | (simp only [*]; first | done | rfl)) ?_; (with_reducible refine (lineno_Number.calls k _ _ l0 a1 t194 _ ?side1 ?side2 A3.out).mono ?_); (case side1 => repeat (first | exact HR0.out | (with_reducible refine Kd.C_alloc ?_ _) | (with_reducible refine Kd.C_drewN ?_ _) | (with_reducible refine Kd.C_drew ?_))); (case side2 => exact HC0.out); rintro e w5 ⟨v195, rfl, ho0, hb⟩; refine ⟨_, rfl, ?_⟩; have n0_ := Aside0.mk (Kd.R_lower ho0 (below_size (by repeat (first | (with_reducible first | exact HB.out | apply below_alloc | apply pw_below_drewN | apply below_drew1) | exact HB.out)))); have n1_ := Aside0.mk (below_step (by repeat (first | (with_reducible first | exact HB.out | apply below_alloc | apply pw_below_drewN | apply below_drew1) | exact HB.out)) hb); clear HB; have HO196 := n0_; have HB := n1_; clear n0_ n1_; (try clear hb); (try clear hb2); (try clear hk); (try clear hi); (try clear ho0)))
 (try simp only [Act.put, List.setIfInBounds_toArray, List.set_cons_zero, List.set_cons_succ])
 go_cut [27] (fun v27 wc => ∃ (kq : Nat) (x27_3 : Bool), v27 = .bool x27_3 ∧ Aside0 (variorumlaw16_LinenoCounts.j0 kq l0 a1 t194 x27_3 = some r) ∧ Aside0 (kq ≤ k) ∧ Aside0 (Kd.R k31 31 wc w.heap.size (fun _ => True) v195 t194) ∧ Aside0 (Below w.heap.size w wc))
 case first =>
  have H := HC4.out
  clear HC4
  replace H := Option.bind_eq_some_iff.mp H
  obtain ⟨t197, A60, H⟩ := H
  replace H : (if t197 = true then (if (t194.length : Int) = (l0.length : Int) then (variorumlaw16_LinenoCounts.j0 k l0 a1 t194 (decide ((l0.length : Int) > 1000))) else (variorumlaw16_LinenoCounts.j0 k l0 a1 t194 true)) else (variorumlaw16_LinenoCounts.j0 k l0 a1 t194 true)) = some r := H
  have A6 := Aside0.mk A60
  clear A60
  by_cases c7 : t197 = true
  ·subst c7
   have H1 : (if (t194.length : Int) = (l0.length : Int) then (variorumlaw16_LinenoCounts.j0 k l0 a1 t194 (decide ((l0.length : Int) > 1000))) else (variorumlaw16_LinenoCounts.j0 k l0 a1 t194 true)) = some r := by rw [if_pos rfl] at H; exact H
   clear H
   have H := H1
   clear H1
   by_cases c8 : (t194.length : Int) = (l0.length : Int)
   ·rw [if_pos c8] at H
    have c8b0 : ((t194.length : Int) == (l0.length : Int)) = true := beq_iff_eq.mpr c8
    have c8b1 : ((t194.length : Int) != (l0.length : Int)) = false := bne_eq_false_iff_eq.mpr c8
    have c8b2 : (t194.length == l0.length) = true := by first | simpa using c8 | (simp at c8 ⊢; omega)
    clear c8
    (first | rw [c8b0] | (simp only [i64_w, i32_w]; rw [c8b0]) | skip)
    have H' := Aside0.mk H
    clear H
    go_wp2_with (first | ((with_reducible refine gate_callee (f := 8) rfl ?_); refine goesL_ (some 14) rfl rfl Try.func8 (by kernel_rfl) rfl #[] rfl (by (try simp only [List.map_toArray, List.map_cons, List.map_nil]); first | done | rfl | (simp only [List.length_drop, List.length_take]; rfl) | (simp only [*]; first | done | rfl)) ?_; (with_reducible refine (variorumlaw16_fixed.calls k  true _ A6.out).mono ?_); rintro e w9 ⟨rfl, hb⟩; refine ⟨_, rfl, ?_⟩; have n0_ := Aside0.mk (Kd.R_below (by (with_reducible repeat (first | apply Kd.R_alloc | apply Kd.R_drewN | apply Kd.R_drew)); exact HO196.out) hb); have n1_ := Aside0.mk (below_step (by repeat (first | (with_reducible first | exact HB.out | apply below_alloc | apply pw_below_drewN | apply below_drew1) | exact HB.out)) hb); clear HO196; clear HB; have HO196 := n0_; have HB := n1_; clear n0_ n1_; (try clear hb); (try clear hb2); (try clear hk); (try clear hi); obtain ⟨Ao10, co10, eo10⟩ := Kd.R_slice HO196.out; subst eo10))
    go_meet
    case rel => exact ⟨_, (decide ((l0.length : Int) > 1000)), (by first | rfl | (simp; done) | (simp [*]; done)), H', ⟨by first | omega | exact Nat.le_refl _⟩, ⟨by (with_reducible repeat (first | apply Kd.R_alloc | apply Kd.R_drewN | apply Kd.R_drew)); exact HO196.out⟩, ⟨by repeat (first | (with_reducible first | exact HB.out | apply below_alloc | apply pw_below_drewN | apply below_drew1) | exact HB.out)⟩⟩
   ·rw [if_neg c8] at H
    have c8b0 : ((t194.length : Int) == (l0.length : Int)) = false := beq_eq_false_iff_ne.mpr c8
    have c8b1 : ((t194.length : Int) != (l0.length : Int)) = true := bne_iff_ne.mpr c8
    have c8b2 : (t194.length == l0.length) = false := by first | simpa using c8 | (simp at c8 ⊢; omega)
    (first | rw [c8b0] | (simp only [i64_w, i32_w]; rw [c8b0]) | skip)
    have H' := Aside0.mk H
    clear H
    go_wp2_with (first | ((with_reducible refine gate_callee (f := 8) rfl ?_); refine goesL_ (some 14) rfl rfl Try.func8 (by kernel_rfl) rfl #[] rfl (by (try simp only [List.map_toArray, List.map_cons, List.map_nil]); first | done | rfl | (simp only [List.length_drop, List.length_take]; rfl) | (simp only [*]; first | done | rfl)) ?_; (with_reducible refine (variorumlaw16_fixed.calls k  true _ A6.out).mono ?_); rintro e w11 ⟨rfl, hb⟩; refine ⟨_, rfl, ?_⟩; have n0_ := Aside0.mk (Kd.R_below (by (with_reducible repeat (first | apply Kd.R_alloc | apply Kd.R_drewN | apply Kd.R_drew)); exact HO196.out) hb); have n1_ := Aside0.mk (below_step (by repeat (first | (with_reducible first | exact HB.out | apply below_alloc | apply pw_below_drewN | apply below_drew1) | exact HB.out)) hb); clear HO196; clear HB; have HO196 := n0_; have HB := n1_; clear n0_ n1_; (try clear hb); (try clear hb2); (try clear hk); (try clear hi); obtain ⟨Ao12, co12, eo12⟩ := Kd.R_slice HO196.out; subst eo12))
    go_meet
    case rel => exact ⟨_, (true), (by first | rfl | (simp; done) | (simp [*]; done)), H', ⟨by first | omega | exact Nat.le_refl _⟩, ⟨by (with_reducible repeat (first | apply Kd.R_alloc | apply Kd.R_drewN | apply Kd.R_drew)); exact HO196.out⟩, ⟨by repeat (first | (with_reducible first | exact HB.out | apply below_alloc | apply pw_below_drewN | apply below_drew1) | exact HB.out)⟩⟩
  ·replace c7 := Bool.eq_false_iff.mpr c7
   subst c7
   have H1 : (variorumlaw16_LinenoCounts.j0 k l0 a1 t194 true) = some r := by rw [if_neg (show ¬ (false = true) by decide)] at H; exact H
   clear H
   have H := H1
   clear H1
   have H' := Aside0.mk H
   clear H
   go_wp2_with (first | ((with_reducible refine gate_callee (f := 8) rfl ?_); refine goesL_ (some 14) rfl rfl Try.func8 (by kernel_rfl) rfl #[] rfl (by (try simp only [List.map_toArray, List.map_cons, List.map_nil]); first | done | rfl | (simp only [List.length_drop, List.length_take]; rfl) | (simp only [*]; first | done | rfl)) ?_; (with_reducible refine (variorumlaw16_fixed.calls k  false _ A6.out).mono ?_); rintro e w13 ⟨rfl, hb⟩; refine ⟨_, rfl, ?_⟩; have n0_ := Aside0.mk (Kd.R_below (by (with_reducible repeat (first | apply Kd.R_alloc | apply Kd.R_drewN | apply Kd.R_drew)); exact HO196.out) hb); have n1_ := Aside0.mk (below_step (by repeat (first | (with_reducible first | exact HB.out | apply below_alloc | apply pw_below_drewN | apply below_drew1) | exact HB.out)) hb); clear HO196; clear HB; have HO196 := n0_; have HB := n1_; clear n0_ n1_; (try clear hb); (try clear hb2); (try clear hk); (try clear hi)))
   go_meet
   case rel => exact ⟨_, (true), (by first | rfl | (simp; done) | (simp [*]; done)), H', ⟨by first | omega | exact Nat.le_refl _⟩, ⟨by (with_reducible repeat (first | apply Kd.R_alloc | apply Kd.R_drewN | apply Kd.R_drew)); exact HO196.out⟩, ⟨by repeat (first | (with_reducible first | exact HB.out | apply below_alloc | apply pw_below_drewN | apply below_drew1) | exact HB.out)⟩⟩
 case rest =>
  clear HC4
  try clear p2
  try clear c4
  try clear c7
  try clear c8
  try clear c8b0
  try clear c8b1
  try clear c8b2
  obtain ⟨kq, x27_3, rfl, HA, HJ3, HO_5, HB⟩ := hcut
  cases kq with
  | zero => exact absurd HA.out (by simp [variorumlaw16_LinenoCounts.j0])
  | succ kj3 =>
   have H := HA.out
   clear HA
   simp only [variorumlaw16_LinenoCounts.j0] at H
   by_cases c14 : x27_3 = true
   ·subst c14
    have H1 : ((variorumlaw16_fixed.f kj3).bind fun t198 => (if t198 = true then (some ((t194.length : Int) == (l0.length : Int))) else (some false))) = some r := by rw [if_pos rfl] at H; exact H
    clear H
    have H := H1
    clear H1
    replace H := Option.bind_eq_some_iff.mp H
    obtain ⟨t198, A150, H⟩ := H
    replace H : (if t198 = true then (some ((t194.length : Int) == (l0.length : Int))) else (some false)) = some r := H
    have A15 := Aside0.mk A150
    clear A150
    by_cases c16 : t198 = true
    ·subst c16
     have H1 : (some ((t194.length : Int) == (l0.length : Int))) = some r := by rw [if_pos rfl] at H; exact H
     clear H
     have H := H1
     clear H1
     obtain rfl := Option.some.inj H
     go_wp2_with (first | ((with_reducible refine gate_callee (f := 8) rfl ?_); refine goesL_ (some 28) rfl rfl Try.func8 (by kernel_rfl) rfl #[] rfl (by (try simp only [List.map_toArray, List.map_cons, List.map_nil]); first | done | rfl | (simp only [List.length_drop, List.length_take]; rfl) | (simp only [*]; first | done | rfl)) ?_; (with_reducible refine (variorumlaw16_fixed.calls kj3  true _ A15.out).mono ?_); rintro e w17 ⟨rfl, hb⟩; refine ⟨_, rfl, ?_⟩; have n0_ := Aside0.mk (Kd.R_below (by (with_reducible repeat (first | apply Kd.R_alloc | apply Kd.R_drewN | apply Kd.R_drew)); exact HO_5.out) hb); have n1_ := Aside0.mk (below_step (by repeat (first | (with_reducible first | exact HB.out | apply below_alloc | apply pw_below_drewN | apply below_drew1) | exact HB.out)) hb); clear HO_5; clear HB; have HO_5 := n0_; have HB := n1_; clear n0_ n1_; (try clear hb); (try clear hb2); (try clear hk); (try clear hi); obtain ⟨Ao18, co18, eo18⟩ := Kd.R_slice HO_5.out; subst eo18))
     go_ret
     exact ⟨by first | rfl | (simp [errW_none, errW_some] <;> rfl) | (simp [*, errW_none, errW_some] <;> rfl), by repeat (first | (with_reducible first | exact HB.out | apply below_alloc | apply pw_below_drewN | apply below_drew1) | exact HB.out)⟩
    ·replace c16 := Bool.eq_false_iff.mpr c16
     subst c16
     have H1 : (some false) = some r := by rw [if_neg (show ¬ (false = true) by decide)] at H; exact H
     clear H
     have H := H1
     clear H1
     obtain rfl := Option.some.inj H
     go_wp2_with (first | ((with_reducible refine gate_callee (f := 8) rfl ?_); refine goesL_ (some 28) rfl rfl Try.func8 (by kernel_rfl) rfl #[] rfl (by (try simp only [List.map_toArray, List.map_cons, List.map_nil]); first | done | rfl | (simp only [List.length_drop, List.length_take]; rfl) | (simp only [*]; first | done | rfl)) ?_; (with_reducible refine (variorumlaw16_fixed.calls kj3  false _ A15.out).mono ?_); rintro e w19 ⟨rfl, hb⟩; refine ⟨_, rfl, ?_⟩; have n0_ := Aside0.mk (Kd.R_below (by (with_reducible repeat (first | apply Kd.R_alloc | apply Kd.R_drewN | apply Kd.R_drew)); exact HO_5.out) hb); have n1_ := Aside0.mk (below_step (by repeat (first | (with_reducible first | exact HB.out | apply below_alloc | apply pw_below_drewN | apply below_drew1) | exact HB.out)) hb); clear HO_5; clear HB; have HO_5 := n0_; have HB := n1_; clear n0_ n1_; (try clear hb); (try clear hb2); (try clear hk); (try clear hi)))
     go_ret
     exact ⟨by first | rfl | (simp [errW_none, errW_some] <;> rfl) | (simp [*, errW_none, errW_some] <;> rfl), by repeat (first | (with_reducible first | exact HB.out | apply below_alloc | apply pw_below_drewN | apply below_drew1) | exact HB.out)⟩
   ·replace c14 := Bool.eq_false_iff.mpr c14
    subst c14
    have H1 : (variorumlaw16_LinenoCounts.l0 kj3 l0 a1 t194 0 (([] : List (S29))) (([] : List (S31))) 0) = some r := by rw [if_neg (show ¬ (false = true) by decide)] at H; exact H
    clear H
    have H := H1
    clear H1
    obtain ⟨y199, hy199⟩ : ∃ y_ : List (S29), y_ = (([] : List (S29))) := ⟨_, rfl⟩
    replace H : (variorumlaw16_LinenoCounts.l0 kj3 l0 a1 t194 0 y199 (([] : List (S31))) 0) = some r := by first | (rw [hy199]; with_reducible exact H) | (have H2_ := (Option.bind_some _ _).symm.trans H; rw [hy199]; with_reducible exact H2_) | (have H2_ := (Option.bind_some _ _).symm.trans H; with_reducible exact H2_) | with_reducible exact H | (rw [hy199]; exact H) | exact H
    have Ny199 := Aside0.mk hy199
    clear hy199
    obtain ⟨y202, hy202⟩ : ∃ y_ : List (S31), y_ = (([] : List (S31))) := ⟨_, rfl⟩
    replace H : (variorumlaw16_LinenoCounts.l0 kj3 l0 a1 t194 0 y199 y202 0) = some r := by first | (rw [hy202]; with_reducible exact H) | (have H2_ := (Option.bind_some _ _).symm.trans H; rw [hy202]; with_reducible exact H2_) | (have H2_ := (Option.bind_some _ _).symm.trans H; with_reducible exact H2_) | with_reducible exact H | (rw [hy202]; exact H) | exact H
    have Ny202 := Aside0.mk hy202
    clear hy202
    have H' := Aside0.mk H
    clear H
    go_wp2_with (first | ((with_reducible refine gate_dst (N := 36) rfl ?_); (try (refine gate_guard (by rfl) ?_; dsimp only)); refine Kd.R_lit k29 _ 29 ?hg (N := 36) ?hd (xs := ([] : List (S29))) (inner := []) (ok := fun _ => True) (okp := fun _ => True) ?hr ?hp (fun _ hk => hk) trivial (Below.refl _ _) (Nat.le_refl _) (by simp) ?_; (case hd => rfl); (case hg => rfl); (case hr => first | (go_simp; done) | (go_simp; rfl)); (case hp => exact (Reps.none _ _)); intro v200 w20 ho21 hb hg_ hnew_; clear hg_ hnew_; (first | rw [← Ny199.out] at ho21 | (simp only [Int.reduceToNat] at ho21; rw [← Ny199.out] at ho21)); have n0_ := Aside0.mk (Kd.R_below (by (with_reducible repeat (first | apply Kd.R_alloc | apply Kd.R_drewN | apply Kd.R_drew)); exact HO_5.out) hb); have n1_ := Aside0.mk (Kd.R_lower ho21 (below_size (by repeat (first | (with_reducible first | exact HB.out | apply below_alloc | apply pw_below_drewN | apply below_drew1) | exact HB.out)))); have n2_ := Aside0.mk (below_step (by repeat (first | (with_reducible first | exact HB.out | apply below_alloc | apply pw_below_drewN | apply below_drew1) | exact HB.out)) hb); clear HO_5; clear HB; have HO_5 := n0_; have HO201 := n1_; have HB := n2_; clear n0_ n1_ n2_; clear hb ho21) | ((with_reducible refine gate_dst (N := 37) rfl ?_); (try (refine gate_guard (by rfl) ?_; dsimp only)); refine Kd.R_lit k31 _ 31 ?hg (N := 37) ?hd (xs := ([] : List (S31))) (inner := []) (ok := fun _ => True) (okp := fun _ => True) ?hr ?hp (fun _ hk => hk) trivial (Below.refl _ _) (Nat.le_refl _) (by simp) ?_; (case hd => rfl); (case hg => rfl); (case hr => first | (go_simp; done) | (go_simp; rfl)); (case hp => exact (Reps.none _ _)); intro v203 w22 ho23 hb hg_ hnew_; clear hg_ hnew_; (first | rw [← Ny202.out] at ho23 | (simp only [Int.reduceToNat] at ho23; rw [← Ny202.out] at ho23)); have n0_ := Aside0.mk (Kd.R_elder' (by (with_reducible repeat (first | apply Kd.R_alloc | apply Kd.R_drewN | apply Kd.R_drew)); exact HO_5.out) (Kd.R_base ho23) hb); have n1_ := Aside0.mk (Kd.R_below (by (with_reducible repeat (first | apply Kd.R_alloc | apply Kd.R_drewN | apply Kd.R_drew)); exact HO201.out) hb); have n2_ := Aside0.mk (Kd.R_lower (Kd.R_new' ho23 (Kd.R_lt (by (with_reducible repeat (first | apply Kd.R_alloc | apply Kd.R_drewN | apply Kd.R_drew)); exact HO_5.out))) (below_size (by repeat (first | (with_reducible first | exact HB.out | apply below_alloc | apply pw_below_drewN | apply below_drew1) | exact HB.out)))); have n3_ := Aside0.mk (below_step (by repeat (first | (with_reducible first | exact HB.out | apply below_alloc | apply pw_below_drewN | apply below_drew1) | exact HB.out)) hb); clear HO_5; clear HO201; clear HB; have HO_5 := n0_; have HO201 := n1_; have HO204 := n2_; have HB := n3_; clear n0_ n1_ n2_ n3_; clear hb ho23))
    go_loopg [6, 7, 8, 9] kj3 (fun kq v6 v7 v8 v9 w' => ∃ (x6_2 : Int) (x7_2 : List (S29)) (x8_2 : List (S31)) (x9_2 : Int), v6 = .int .i64 x6_2 ∧ v9 = .int .i64 x9_2 ∧ Aside0 (variorumlaw16_LinenoCounts.l0 kq l0 a1 t194 x6_2 x7_2 x8_2 x9_2 = some r) ∧ Aside0 (kq ≤ kj3) ∧ Aside0 (Kd.R k31 31 w' w.heap.size (fun k_ => some k_ ≠ (v8 : Value).ownBlock) v195 t194) ∧ Aside0 (Kd.R k29 29 w' w.heap.size (fun _ => True) v7 x7_2) ∧ Aside0 (Kd.R k31 31 w' w.heap.size (fun k_ => some k_ ≠ (v195 : Value).ownBlock) v8 x8_2) ∧ Aside0 (Below w.heap.size w w'))
    case atStart => exact ⟨(0), (y199), (y202), (0), (by first | rfl | (simp; done) | (simp [*]; done)), (by first | rfl | (simp; done) | (simp [*]; done)), H', ⟨Nat.le_refl _⟩, ⟨by (with_reducible repeat (first | apply Kd.R_alloc | apply Kd.R_drewN | apply Kd.R_drew)); exact Kd.R_mono HO_5.out (fun _ hk => hk.2)⟩, ⟨by (with_reducible repeat (first | apply Kd.R_alloc | apply Kd.R_drewN | apply Kd.R_drew)); exact HO201.out⟩, ⟨by (with_reducible repeat (first | apply Kd.R_alloc | apply Kd.R_drewN | apply Kd.R_drew)); exact Kd.R_mono HO204.out (fun _ hk => hk.2)⟩, ⟨by repeat (first | (with_reducible first | exact HB.out | apply below_alloc | apply pw_below_drewN | apply below_drew1) | exact HB.out)⟩⟩
    case round =>
     clear H'
     try clear c1
     try clear p2
     try clear c4
     try clear c7
     try clear c8
     try clear c8b0
     try clear c8b1
     try clear c8b2
     try clear c14
     try clear c16
     try clear p2
     obtain ⟨x6_2, x7_2, x8_2, x9_2, rfl, rfl, HA, HK2, HO_5, HO_7, HO_8, HB⟩ := hrel
     cases gk with
     | zero => exact absurd HA.out (by simp [variorumlaw16_LinenoCounts.l0])
     | succ k2 =>
      have H := HA.out
      clear HA
      simp only [variorumlaw16_LinenoCounts.l0] at H
      by_cases c24 : x9_2 < (l0.length : Int)
      ·rw [if_pos c24] at H
       have c24b0 : decide (x9_2 < (l0.length : Int)) = true := decide_eq_true c24
       clear c24
       by_cases c25 : 0 ≤ x9_2
       ·rw [if_pos c25] at H
        have c25b0 : decide (0 ≤ x9_2) = true := decide_eq_true c25
        clear c25
        by_cases c26 : ((rd_T29 l0 x9_2).f3) > 9999
        ·rw [if_pos c26] at H
         have c26b0 : decide (9999 < ((rd_T29 l0 x9_2).f3)) = true := decide_eq_true c26
         clear c26
         obtain rfl := Option.some.inj H
         have p205 : 0 ≤ (x9_2 : Int) := of_decide_eq_true (by first | (with_reducible assumption) | assumption)
         have q205 : x9_2 < (l0.length : Int) := of_decide_eq_true (by first | (with_reducible assumption) | assumption)
         obtain ⟨ad205, e205, hx205_0, hx205_1, hx205_2, hx205_3, hx205_4, hx205_5, hx205_6⟩ := at_T29 HR0.out x9_2 p205 q205
         cases e205
         replace hx205_0 := (HB.out.cell (World.block_lt_of_cell? w _ hx205_0)).trans hx205_0
         replace hx205_1 := (HB.out.cell (World.block_lt_of_cell? w _ hx205_1)).trans hx205_1
         replace hx205_2 := (HB.out.cell (World.block_lt_of_cell? w _ hx205_2)).trans hx205_2
         replace hx205_3 := (HB.out.cell (World.block_lt_of_cell? w _ hx205_3)).trans hx205_3
         replace hx205_4 := (HB.out.cell (World.block_lt_of_cell? w _ hx205_4)).trans hx205_4
         replace hx205_5 := (HB.out.cell (World.block_lt_of_cell? w _ hx205_5)).trans hx205_5
         replace hx205_6 := (HB.out.cell (World.block_lt_of_cell? w _ hx205_6)).trans hx205_6
         replace p205 := eq_true p205
         replace q205 := eq_true q205
         go_wp2
         go_ret
         exact ⟨by first | rfl | (simp [errW_none, errW_some] <;> rfl) | (simp [*, errW_none, errW_some] <;> rfl), by repeat (first | (with_reducible first | exact HB.out | apply below_alloc | apply pw_below_drewN | apply below_drew1) | exact HB.out)⟩
        ·rw [if_neg c26] at H
         have c26b0 : decide (9999 < ((rd_T29 l0 x9_2).f3)) = false := decide_eq_false c26
         clear c26
         have HC27 := Aside0.mk H
         clear H
         have p205 : 0 ≤ (x9_2 : Int) := of_decide_eq_true (by first | (with_reducible assumption) | assumption)
         have q205 : x9_2 < (l0.length : Int) := of_decide_eq_true (by first | (with_reducible assumption) | assumption)
         obtain ⟨ad205, e205, hx205_0, hx205_1, hx205_2, hx205_3, hx205_4, hx205_5, hx205_6⟩ := at_T29 HR0.out x9_2 p205 q205
         cases e205
         replace hx205_0 := (HB.out.cell (World.block_lt_of_cell? w _ hx205_0)).trans hx205_0
         replace hx205_1 := (HB.out.cell (World.block_lt_of_cell? w _ hx205_1)).trans hx205_1
         replace hx205_2 := (HB.out.cell (World.block_lt_of_cell? w _ hx205_2)).trans hx205_2
         replace hx205_3 := (HB.out.cell (World.block_lt_of_cell? w _ hx205_3)).trans hx205_3
         replace hx205_4 := (HB.out.cell (World.block_lt_of_cell? w _ hx205_4)).trans hx205_4
         replace hx205_5 := (HB.out.cell (World.block_lt_of_cell? w _ hx205_5)).trans hx205_5
         replace hx205_6 := (HB.out.cell (World.block_lt_of_cell? w _ hx205_6)).trans hx205_6
         replace p205 := eq_true p205
         replace q205 := eq_true q205
         go_upto_region 12 with (fail)
         go_cut [67] (fun v67 wc => ∃ (kq : Nat) (x67_26 : Bool), v67 = .bool x67_26 ∧ Aside0 (variorumlaw16_LinenoCounts.j2 kq l0 a1 t194 x6_2 x7_2 x8_2 x9_2 x67_26 = some r) ∧ Aside0 (kq ≤ k2) ∧ Aside0 (Kd.R k31 31 wc w.heap.size (fun k_ => some k_ ≠ (u8 : Value).ownBlock) v195 t194) ∧ Aside0 (Kd.R k29 29 wc w.heap.size (fun _ => True) u7 x7_2) ∧ Aside0 (Kd.R k31 31 wc w.heap.size (fun k_ => some k_ ≠ (v195 : Value).ownBlock) u8 x8_2) ∧ Aside0 (Below w.heap.size w wc))
         case first =>
          have H := HC27.out
          clear HC27
          by_cases c28 : x9_2 > 0
          ·rw [if_pos c28] at H
           have c28b0 : decide (0 < x9_2) = true := decide_eq_true c28
           clear c28
           (first | rw [c28b0] | (simp only [i64_w, i32_w]; rw [c28b0]) | skip)
           replace H := Option.bind_eq_some_iff.mp H
           obtain ⟨⟨t207, t208, t209⟩, A290, H⟩ := H
           replace H : (if 0 ≤ (wrap64 (x9_2 - 1)) then (if (wrap64 (x9_2 - 1)) < (l0.length : Int) then ((lineno_Unit.f ((rd_T29 l0 (wrap64 (x9_2 - 1))).f0) ((rd_T29 l0 (wrap64 (x9_2 - 1))).f1) ((rd_T29 l0 (wrap64 (x9_2 - 1))).f2) ((rd_T29 l0 (wrap64 (x9_2 - 1))).f3) ((rd_T29 l0 (wrap64 (x9_2 - 1))).f4) ((rd_T29 l0 (wrap64 (x9_2 - 1))).f5) ((rd_T29 l0 (wrap64 (x9_2 - 1))).f6) a1).bind fun bt211 => (variorumlaw16_LinenoCounts.j2 k2 l0 a1 t194 x6_2 x7_2 x8_2 x9_2 (!(t207 == bt211.1) || (!(t208 == bt211.2.1) || (!(t209 == bt211.2.2)))))) else (none)) else (none)) = some r := H
           have A29 := Aside0.mk A290
           clear A290
           obtain ⟨ji30, hji30⟩ : ∃ j_ : Int, (wrap64 (x9_2 - 1)) = j_ := ⟨_, rfl⟩
           replace H : (if 0 ≤ (ji30) then (if (ji30) < (l0.length : Int) then ((lineno_Unit.f ((rd_T29 l0 (ji30)).f0) ((rd_T29 l0 (ji30)).f1) ((rd_T29 l0 (ji30)).f2) ((rd_T29 l0 (ji30)).f3) ((rd_T29 l0 (ji30)).f4) ((rd_T29 l0 (ji30)).f5) ((rd_T29 l0 (ji30)).f6) a1).bind fun bt211 => (variorumlaw16_LinenoCounts.j2 k2 l0 a1 t194 x6_2 x7_2 x8_2 x9_2 (!(t207 == bt211.1) || (!(t208 == bt211.2.1) || (!(t209 == bt211.2.2)))))) else (none)) else (none)) = some r := by first | (rw [hji30] at H; exact H) | (simp only [hji30] at H ⊢; exact H)
           (try rw [hji30] at A29)
           have hji30w : (IntKind.i64.wrap (x9_2 - 1)) = ji30 := (i64_w _).trans hji30
           by_cases c31 : 0 ≤ (ji30)
           ·rw [if_pos c31] at H
            have c31b0 : decide (0 ≤ (ji30)) = true := decide_eq_true c31
            clear c31
            by_cases c32 : (ji30) < (l0.length : Int)
            ·rw [if_pos c32] at H
             have c32b0 : decide ((ji30) < (l0.length : Int)) = true := decide_eq_true c32
             clear c32
             replace H := Option.bind_eq_some_iff.mp H
             obtain ⟨⟨t211, t212, t213⟩, A330, H⟩ := H
             replace H : (variorumlaw16_LinenoCounts.j2 k2 l0 a1 t194 x6_2 x7_2 x8_2 x9_2 (!(t207 == t211) || (!(t208 == t212) || (!(t209 == t213))))) = some r := H
             have A33 := Aside0.mk A330
             clear A330
             have H' := Aside0.mk H
             clear H
             try go_wp2
             have n0_ := Aside0.mk (Kd.R_drew HO_5.out)
             have n1_ := Aside0.mk (Kd.R_drew HO_7.out)
             have n2_ := Aside0.mk (Kd.R_drew HO_8.out)
             have n3_ := Aside0.mk (below_drew1 HB.out)
             clear HO_5
             clear HO_7
             clear HO_8
             clear HB
             have HO_5 := n0_
             have HO_7 := n1_
             have HO_8 := n2_
             have HB := n3_
             clear n0_ n1_ n2_ n3_
             have p206 : 0 ≤ (x9_2 : Int) := of_decide_eq_true (by first | (with_reducible assumption) | assumption)
             have q206 : x9_2 < (l0.length : Int) := of_decide_eq_true (by first | (with_reducible assumption) | assumption)
             obtain ⟨ad206, e206, hx206_0, hx206_1, hx206_2, hx206_3, hx206_4, hx206_5, hx206_6⟩ := at_T29 HR0.out x9_2 p206 q206
             have hw206_6 := hx206_6
             have hw206_5 := hx206_5
             have hw206_4 := hx206_4
             have hw206_3 := hx206_3
             have hw206_2 := hx206_2
             have hw206_1 := hx206_1
             have hw206_0 := hx206_0
             obtain rfl : ad205 = ad206 := (by injection e206)
             replace hx206_0 := (HB.out.cell (World.block_lt_of_cell? w _ hx206_0)).trans hx206_0
             replace hx206_1 := (HB.out.cell (World.block_lt_of_cell? w _ hx206_1)).trans hx206_1
             replace hx206_2 := (HB.out.cell (World.block_lt_of_cell? w _ hx206_2)).trans hx206_2
             replace hx206_3 := (HB.out.cell (World.block_lt_of_cell? w _ hx206_3)).trans hx206_3
             replace hx206_4 := (HB.out.cell (World.block_lt_of_cell? w _ hx206_4)).trans hx206_4
             replace hx206_5 := (HB.out.cell (World.block_lt_of_cell? w _ hx206_5)).trans hx206_5
             replace hx206_6 := (HB.out.cell (World.block_lt_of_cell? w _ hx206_6)).trans hx206_6
             replace p206 := eq_true p206
             replace q206 := eq_true q206
             have p210 : 0 ≤ ((ji30) : Int) := of_decide_eq_true (by first | (with_reducible assumption) | assumption)
             have q210 : (ji30) < (l0.length : Int) := of_decide_eq_true (by first | (with_reducible assumption) | assumption)
             obtain ⟨ad210, e210, hx210_0, hx210_1, hx210_2, hx210_3, hx210_4, hx210_5, hx210_6⟩ := at_T29 HR0.out (ji30) p210 q210
             have hw210_6 := hx210_6
             have hw210_5 := hx210_5
             have hw210_4 := hx210_4
             have hw210_3 := hx210_3
             have hw210_2 := hx210_2
             have hw210_1 := hx210_1
             have hw210_0 := hx210_0
             obtain rfl : ad205 = ad210 := (by injection e210)
             replace hx210_0 := (HB.out.cell (World.block_lt_of_cell? w _ hx210_0)).trans hx210_0
             replace hx210_1 := (HB.out.cell (World.block_lt_of_cell? w _ hx210_1)).trans hx210_1
             replace hx210_2 := (HB.out.cell (World.block_lt_of_cell? w _ hx210_2)).trans hx210_2
             replace hx210_3 := (HB.out.cell (World.block_lt_of_cell? w _ hx210_3)).trans hx210_3
             replace hx210_4 := (HB.out.cell (World.block_lt_of_cell? w _ hx210_4)).trans hx210_4
             replace hx210_5 := (HB.out.cell (World.block_lt_of_cell? w _ hx210_5)).trans hx210_5
             replace hx210_6 := (HB.out.cell (World.block_lt_of_cell? w _ hx210_6)).trans hx210_6
             replace p210 := eq_true p210
             replace q210 := eq_true q210
             refine start_ (n := 18) (S := fun w' => w'.cell? (ad205.add ((x9_2).toNat * 7)) = some (.int .i64 ((rd_T29 l0 x9_2).f0)) ∧ w'.cell? ⟨(ad205.add ((x9_2).toNat * 7)).block, (ad205.add ((x9_2).toNat * 7)).off + 1, none⟩ = some (.int .i64 ((rd_T29 l0 x9_2).f1)) ∧ w'.cell? ⟨(ad205.add ((x9_2).toNat * 7)).block, (ad205.add ((x9_2).toNat * 7)).off + 2, none⟩ = some (.int .i64 ((rd_T29 l0 x9_2).f2)) ∧ w'.cell? ⟨(ad205.add ((x9_2).toNat * 7)).block, (ad205.add ((x9_2).toNat * 7)).off + 3, none⟩ = some (.int .i64 ((rd_T29 l0 x9_2).f3)) ∧ w'.cell? ⟨(ad205.add ((x9_2).toNat * 7)).block, (ad205.add ((x9_2).toNat * 7)).off + 4, none⟩ = some (.bool ((rd_T29 l0 x9_2).f4)) ∧ w'.cell? ⟨(ad205.add ((x9_2).toNat * 7)).block, (ad205.add ((x9_2).toNat * 7)).off + 5, none⟩ = some (.bool ((rd_T29 l0 x9_2).f5)) ∧ w'.cell? ⟨(ad205.add ((x9_2).toNat * 7)).block, (ad205.add ((x9_2).toNat * 7)).off + 6, none⟩ = some (.bool ((rd_T29 l0 x9_2).f6)) ∧ w'.cell? (ad205.add (((ji30)).toNat * 7)) = some (.int .i64 ((rd_T29 l0 (ji30)).f0)) ∧ w'.cell? ⟨(ad205.add (((ji30)).toNat * 7)).block, (ad205.add (((ji30)).toNat * 7)).off + 1, none⟩ = some (.int .i64 ((rd_T29 l0 (ji30)).f1)) ∧ w'.cell? ⟨(ad205.add (((ji30)).toNat * 7)).block, (ad205.add (((ji30)).toNat * 7)).off + 2, none⟩ = some (.int .i64 ((rd_T29 l0 (ji30)).f2)) ∧ w'.cell? ⟨(ad205.add (((ji30)).toNat * 7)).block, (ad205.add (((ji30)).toNat * 7)).off + 3, none⟩ = some (.int .i64 ((rd_T29 l0 (ji30)).f3)) ∧ w'.cell? ⟨(ad205.add (((ji30)).toNat * 7)).block, (ad205.add (((ji30)).toNat * 7)).off + 4, none⟩ = some (.bool ((rd_T29 l0 (ji30)).f4)) ∧ w'.cell? ⟨(ad205.add (((ji30)).toNat * 7)).block, (ad205.add (((ji30)).toNat * 7)).off + 5, none⟩ = some (.bool ((rd_T29 l0 (ji30)).f5)) ∧ w'.cell? ⟨(ad205.add (((ji30)).toNat * 7)).block, (ad205.add (((ji30)).toNat * 7)).off + 6, none⟩ = some (.bool ((rd_T29 l0 (ji30)).f6))) (ds := []) #[false, false, false, false, false, false, false, false, false, false, false, false, false, false, false, false, false, false] (by kernel_rfl) rfl rfl ⟨((HB.out.cell (World.block_lt_of_cell? w _ hw206_0)).trans hw206_0), ((HB.out.cell (World.block_lt_of_cell? w _ hw206_1)).trans hw206_1), ((HB.out.cell (World.block_lt_of_cell? w _ hw206_2)).trans hw206_2), ((HB.out.cell (World.block_lt_of_cell? w _ hw206_3)).trans hw206_3), ((HB.out.cell (World.block_lt_of_cell? w _ hw206_4)).trans hw206_4), ((HB.out.cell (World.block_lt_of_cell? w _ hw206_5)).trans hw206_5), ((HB.out.cell (World.block_lt_of_cell? w _ hw206_6)).trans hw206_6), ((HB.out.cell (World.block_lt_of_cell? w _ hw210_0)).trans hw210_0), ((HB.out.cell (World.block_lt_of_cell? w _ hw210_1)).trans hw210_1), ((HB.out.cell (World.block_lt_of_cell? w _ hw210_2)).trans hw210_2), ((HB.out.cell (World.block_lt_of_cell? w _ hw210_3)).trans hw210_3), ((HB.out.cell (World.block_lt_of_cell? w _ hw210_4)).trans hw210_4), ((HB.out.cell (World.block_lt_of_cell? w _ hw210_5)).trans hw210_5), ((HB.out.cell (World.block_lt_of_cell? w _ hw210_6)).trans hw210_6)⟩ (fun hHeld => ?_); refine with_tabW variorumlaw16_LinenoCounts.tab12 variorumlaw16_LinenoCounts.bits12 (fun HT_ HW_ => ?_)
             generalize wr.drew = w34 at HO_5 HO_7 HO_8 HB hx206_0 hx206_1 hx206_2 hx206_3 hx206_4 hx206_5 hx206_6 hx210_0 hx210_1 hx210_2 hx210_3 hx210_4 hx210_5 hx210_6 hHeld ⊢
             refine pure_ (i := 0) (N := some 50) (v := ?_) (a' := ?_) #[true, false, false, false, false, false, false, false, false, false, false, false, false, false, false, false, false, false] rfl rfl (any_of HT_.out (by kernel_rfl)) (fun _ _ _ h => h) (Or.inl ⟨by rfl, ?_⟩) ?_ ?_
             rotate_left
             ·intro w'
              go_simp
              with_reducible rfl
             rotate_left
             ·simp only [Act.put, List.setIfInBounds_toArray, List.set_cons_zero, List.set_cons_succ, i64_w, i32_w]
              rfl
             refine pure_ (i := 1) (N := some 51) (v := ?_) (a' := ?_) #[true, true, false, false, false, false, false, false, false, false, false, false, false, false, false, false, false, false] rfl rfl (any_of HT_.out (by kernel_rfl)) (fun _ _ _ h => h) (Or.inl ⟨by rfl, ?_⟩) ?_ ?_
             rotate_left
             ·intro w'
              go_simp
              with_reducible rfl
             rotate_left
             ·simp only [Act.put, List.setIfInBounds_toArray, List.set_cons_zero, List.set_cons_succ, i64_w, i32_w]
              rfl
             refine pure_ (i := 2) (N := some 52) (v := ?_) (a' := ?_) #[true, true, true, false, false, false, false, false, false, false, false, false, false, false, false, false, false, false] rfl rfl (any_of HT_.out (by kernel_rfl)) (fun _ _ _ h => h) (Or.inl ⟨by rfl, ?_⟩) ?_ ?_
             rotate_left
             ·intro w'
              go_simp
              with_reducible rfl
             rotate_left
             ·simp only [Act.put, List.setIfInBounds_toArray, List.set_cons_zero, List.set_cons_succ, i64_w, i32_w]
              rfl
             refine pure_ (i := 3) (N := some 53) (v := ?_) (a' := ?_) #[true, true, true, true, false, false, false, false, false, false, false, false, false, false, false, false, false, false] rfl rfl (any_of HT_.out (by kernel_rfl)) (fun _ _ _ h => h) (Or.inl ⟨by rfl, ?_⟩) ?_ ?_
             rotate_left
             ·intro w'
              go_simp
              with_reducible rfl
             rotate_left
             ·simp only [Act.put, List.setIfInBounds_toArray, List.set_cons_zero, List.set_cons_succ, i64_w, i32_w]
              rfl
             refine pure_ (i := 4) (N := some 54) (v := ?_) (a' := ?_) #[true, true, true, true, true, false, false, false, false, false, false, false, false, false, false, false, false, false] rfl rfl (any_of HT_.out (by kernel_rfl)) (fun _ _ _ h => h) (Or.inl ⟨by rfl, ?_⟩) ?_ ?_
             rotate_left
             ·intro w'
              go_simp
              with_reducible rfl
             rotate_left
             ·simp only [Act.put, List.setIfInBounds_toArray, List.set_cons_zero, List.set_cons_succ, i64_w, i32_w]
              rfl
             refine pure_ (i := 5) (N := some 55) (v := ?_) (a' := ?_) #[true, true, true, true, true, true, false, false, false, false, false, false, false, false, false, false, false, false] rfl rfl (any_of HT_.out (by kernel_rfl)) (fun _ _ _ h => h) (Or.inl ⟨by rfl, ?_⟩) ?_ ?_
             rotate_left
             ·intro w'
              go_simp
              with_reducible rfl
             rotate_left
             ·simp only [Act.put, List.setIfInBounds_toArray, List.set_cons_zero, List.set_cons_succ, i64_w, i32_w]
              rfl
             refine pure_ (i := 7) (N := some 57) (v := ?_) (a' := ?_) #[true, true, true, true, true, true, false, true, false, false, false, false, false, false, false, false, false, false] rfl rfl (any_of HT_.out (by kernel_rfl)) (fun _ _ _ h => h) (Or.inl ⟨by rfl, ?_⟩) ?_ ?_
             rotate_left
             ·intro w'
              go_simp
              with_reducible rfl
             rotate_left
             ·simp only [Act.put, List.setIfInBounds_toArray, List.set_cons_zero, List.set_cons_succ, i64_w, i32_w]
              rfl
             refine pure_ (i := 9) (N := some 59) (v := ?_) (a' := ?_) #[true, true, true, true, true, true, false, true, false, true, false, false, false, false, false, false, false, false] rfl rfl (any_of HT_.out (by kernel_rfl)) (fun _ _ _ h => h) (Or.inl ⟨by rfl, ?_⟩) ?_ ?_
             rotate_left
             ·intro w'
              go_simp
              with_reducible rfl
             rotate_left
             ·simp only [Act.put, List.setIfInBounds_toArray, List.set_cons_zero, List.set_cons_succ, i64_w, i32_w]
              rfl
             refine pure_ (i := 10) (N := some 60) (v := ?_) (a' := ?_) #[true, true, true, true, true, true, false, true, false, true, true, false, false, false, false, false, false, false] rfl rfl (any_of HT_.out (by kernel_rfl)) (fun _ _ _ h => h) (Or.inl ⟨by rfl, ?_⟩) ?_ ?_
             rotate_left
             ·intro w'
              go_simp
              with_reducible rfl
             rotate_left
             ·simp only [Act.put, List.setIfInBounds_toArray, List.set_cons_zero, List.set_cons_succ, i64_w, i32_w]
              rfl
             refine pure_ (i := 11) (N := some 61) (v := ?_) (a' := ?_) #[true, true, true, true, true, true, false, true, false, true, true, true, false, false, false, false, false, false] rfl rfl (any_of HT_.out (by kernel_rfl)) (fun _ _ _ h => h) (Or.inl ⟨by rfl, ?_⟩) ?_ ?_
             rotate_left
             ·intro w'
              go_simp
              with_reducible rfl
             rotate_left
             ·simp only [Act.put, List.setIfInBounds_toArray, List.set_cons_zero, List.set_cons_succ, i64_w, i32_w]
              rfl
             refine pure_ (i := 12) (N := some 62) (v := ?_) (a' := ?_) #[true, true, true, true, true, true, false, true, false, true, true, true, true, false, false, false, false, false] rfl rfl (any_of HT_.out (by kernel_rfl)) (fun _ _ _ h => h) (Or.inl ⟨by rfl, ?_⟩) ?_ ?_
             rotate_left
             ·intro w'
              go_simp
              with_reducible rfl
             rotate_left
             ·simp only [Act.put, List.setIfInBounds_toArray, List.set_cons_zero, List.set_cons_succ, i64_w, i32_w]
              rfl
             refine pure_ (i := 14) (N := some 64) (v := ?_) (a' := ?_) #[true, true, true, true, true, true, false, true, false, true, true, true, true, false, true, false, false, false] rfl rfl (any_of HT_.out (by kernel_rfl)) (fun _ _ _ h => h) (Or.inl ⟨by rfl, ?_⟩) ?_ ?_
             rotate_left
             ·intro w'
              go_simp
              with_reducible rfl
             rotate_left
             ·simp only [Act.put, List.setIfInBounds_toArray, List.set_cons_zero, List.set_cons_succ, i64_w, i32_w]
              rfl
             refine take_ (i := 6) (N := some 56) (v := ?_) (a' := ?_) #[true, true, true, true, true, true, true, true, false, true, true, true, true, false, true, false, false, false] rfl rfl (take_ofW HT_.out HW_.out (by kernel_rfl)) (fun _ _ _ h => h) (Or.inl ⟨by rfl, ?_⟩) hHeld ?_ ?_
             rotate_left
             ·rintro w' ⟨s0, s1, s2, s3, s4, s5, s6, s7, s8, s9, s10, s11, s12, s13⟩
              go_simp
              with_reducible rfl
             rotate_left
             ·simp only [Act.put, List.setIfInBounds_toArray, List.set_cons_zero, List.set_cons_succ, i64_w, i32_w]
              rfl
             refine take_ (i := 13) (N := some 63) (v := ?_) (a' := ?_) #[true, true, true, true, true, true, true, true, false, true, true, true, true, true, true, false, false, false] rfl rfl (take_ofW HT_.out HW_.out (by kernel_rfl)) (fun _ _ _ h => h) (Or.inl ⟨by rfl, ?_⟩) hHeld ?_ ?_
             rotate_left
             ·rintro w' ⟨s0, s1, s2, s3, s4, s5, s6, s7, s8, s9, s10, s11, s12, s13⟩
              go_simp
              with_reducible rfl
             rotate_left
             ·simp only [Act.put, List.setIfInBounds_toArray, List.set_cons_zero, List.set_cons_succ, i64_w, i32_w]
              rfl
             refine one_ (i := 8) (N := some 58) #[true, true, true, true, true, true, true, true, true, true, true, true, true, true, true, false, false, false] rfl rfl (one_of HT_.out (by kernel_rfl)) (by decide) (fun K hK => ?_)
             refine goes_ Try.func9 (by kernel_rfl) rfl #[.agg #[.int .i64 ((rd_T29 l0 x9_2).f0), .int .i64 ((rd_T29 l0 x9_2).f1), .int .i64 ((rd_T29 l0 x9_2).f2), .int .i64 ((rd_T29 l0 x9_2).f3), .bool ((rd_T29 l0 x9_2).f4), .bool ((rd_T29 l0 x9_2).f5), .bool ((rd_T29 l0 x9_2).f6)], .int .i64 a1] (by rfl) rfl rfl (by (try simp only [List.map_toArray, List.map_cons, List.map_nil]); first | done | rfl | (simp only [List.length_drop, List.length_take]; rfl) | (simp only [*]; first | done | rfl)) ?_
             with_reducible refine (lineno_Unit.calls ((rd_T29 l0 x9_2).f0) ((rd_T29 l0 x9_2).f1) ((rd_T29 l0 x9_2).f2) ((rd_T29 l0 x9_2).f3) ((rd_T29 l0 x9_2).f4) ((rd_T29 l0 x9_2).f5) ((rd_T29 l0 x9_2).f6) a1 t207 t208 t209 _ A29.out).mono ?_
             rintro e w35 ⟨rfl, hb⟩
             refine ⟨_, rfl, ?_⟩
             have n0_ := Aside0.mk (Kd.R_below (by (with_reducible repeat (first | apply Kd.R_alloc | apply Kd.R_drewN | apply Kd.R_drew)); exact HO_5.out) hb)
             have n1_ := Aside0.mk (Kd.R_below (by (with_reducible repeat (first | apply Kd.R_alloc | apply Kd.R_drewN | apply Kd.R_drew)); exact HO_7.out) hb)
             have n2_ := Aside0.mk (Kd.R_below (by (with_reducible repeat (first | apply Kd.R_alloc | apply Kd.R_drewN | apply Kd.R_drew)); exact HO_8.out) hb)
             have n3_ := Aside0.mk (below_step (by repeat (first | (with_reducible first | exact HB.out | apply below_alloc | apply pw_below_drewN | apply below_drew1) | exact HB.out)) hb)
             clear HO_5
             clear HO_7
             clear HO_8
             clear HB
             have HO_5 := n0_
             have HO_7 := n1_
             have HO_8 := n2_
             have HB := n3_
             clear n0_ n1_ n2_ n3_
             (try clear hb)
             (try clear hb2)
             (try clear hk)
             (try clear hi)
             refine hK.out _ _ ⟨((HB.out.cell (World.block_lt_of_cell? w _ hw206_0)).trans hw206_0), ((HB.out.cell (World.block_lt_of_cell? w _ hw206_1)).trans hw206_1), ((HB.out.cell (World.block_lt_of_cell? w _ hw206_2)).trans hw206_2), ((HB.out.cell (World.block_lt_of_cell? w _ hw206_3)).trans hw206_3), ((HB.out.cell (World.block_lt_of_cell? w _ hw206_4)).trans hw206_4), ((HB.out.cell (World.block_lt_of_cell? w _ hw206_5)).trans hw206_5), ((HB.out.cell (World.block_lt_of_cell? w _ hw206_6)).trans hw206_6), ((HB.out.cell (World.block_lt_of_cell? w _ hw210_0)).trans hw210_0), ((HB.out.cell (World.block_lt_of_cell? w _ hw210_1)).trans hw210_1), ((HB.out.cell (World.block_lt_of_cell? w _ hw210_2)).trans hw210_2), ((HB.out.cell (World.block_lt_of_cell? w _ hw210_3)).trans hw210_3), ((HB.out.cell (World.block_lt_of_cell? w _ hw210_4)).trans hw210_4), ((HB.out.cell (World.block_lt_of_cell? w _ hw210_5)).trans hw210_5), ((HB.out.cell (World.block_lt_of_cell? w _ hw210_6)).trans hw210_6)⟩ (fun hHeld => ?_)
             clear hK K
             refine norm_ (a' := ?_) ?_ ?_
             rotate_left
             ·show Act.put _ (some 58) _ = _
              simp only [Act.put, List.setIfInBounds_toArray, List.set_cons_zero, List.set_cons_succ, i64_w, i32_w]
              rfl
             refine one_ (i := 15) (N := some 65) #[true, true, true, true, true, true, true, true, true, true, true, true, true, true, true, true, false, false] rfl rfl (one_of HT_.out (by kernel_rfl)) (by decide) (fun K hK => ?_)
             refine goes_ Try.func9 (by kernel_rfl) rfl #[.agg #[.int .i64 ((rd_T29 l0 (ji30)).f0), .int .i64 ((rd_T29 l0 (ji30)).f1), .int .i64 ((rd_T29 l0 (ji30)).f2), .int .i64 ((rd_T29 l0 (ji30)).f3), .bool ((rd_T29 l0 (ji30)).f4), .bool ((rd_T29 l0 (ji30)).f5), .bool ((rd_T29 l0 (ji30)).f6)], .int .i64 a1] (by rfl) rfl rfl (by (try simp only [List.map_toArray, List.map_cons, List.map_nil]); first | done | (simp only [hji30]; rfl) | rfl | (simp only [List.length_drop, List.length_take]; rfl)) ?_
             with_reducible refine (lineno_Unit.calls ((rd_T29 l0 (ji30)).f0) ((rd_T29 l0 (ji30)).f1) ((rd_T29 l0 (ji30)).f2) ((rd_T29 l0 (ji30)).f3) ((rd_T29 l0 (ji30)).f4) ((rd_T29 l0 (ji30)).f5) ((rd_T29 l0 (ji30)).f6) a1 t211 t212 t213 _ A33.out).mono ?_
             rintro e w36 ⟨rfl, hb⟩
             refine ⟨_, rfl, ?_⟩
             have n0_ := Aside0.mk (Kd.R_below (by (with_reducible repeat (first | apply Kd.R_alloc | apply Kd.R_drewN | apply Kd.R_drew)); exact HO_5.out) hb)
             have n1_ := Aside0.mk (Kd.R_below (by (with_reducible repeat (first | apply Kd.R_alloc | apply Kd.R_drewN | apply Kd.R_drew)); exact HO_7.out) hb)
             have n2_ := Aside0.mk (Kd.R_below (by (with_reducible repeat (first | apply Kd.R_alloc | apply Kd.R_drewN | apply Kd.R_drew)); exact HO_8.out) hb)
             have n3_ := Aside0.mk (below_step (by repeat (first | (with_reducible first | exact HB.out | apply below_alloc | apply pw_below_drewN | apply below_drew1) | exact HB.out)) hb)
             clear HO_5
             clear HO_7
             clear HO_8
             clear HB
             have HO_5 := n0_
             have HO_7 := n1_
             have HO_8 := n2_
             have HB := n3_
             clear n0_ n1_ n2_ n3_
             (try clear hb)
             (try clear hb2)
             (try clear hk)
             (try clear hi)
             refine hK.out _ _ ⟨((HB.out.cell (World.block_lt_of_cell? w _ hw206_0)).trans hw206_0), ((HB.out.cell (World.block_lt_of_cell? w _ hw206_1)).trans hw206_1), ((HB.out.cell (World.block_lt_of_cell? w _ hw206_2)).trans hw206_2), ((HB.out.cell (World.block_lt_of_cell? w _ hw206_3)).trans hw206_3), ((HB.out.cell (World.block_lt_of_cell? w _ hw206_4)).trans hw206_4), ((HB.out.cell (World.block_lt_of_cell? w _ hw206_5)).trans hw206_5), ((HB.out.cell (World.block_lt_of_cell? w _ hw206_6)).trans hw206_6), ((HB.out.cell (World.block_lt_of_cell? w _ hw210_0)).trans hw210_0), ((HB.out.cell (World.block_lt_of_cell? w _ hw210_1)).trans hw210_1), ((HB.out.cell (World.block_lt_of_cell? w _ hw210_2)).trans hw210_2), ((HB.out.cell (World.block_lt_of_cell? w _ hw210_3)).trans hw210_3), ((HB.out.cell (World.block_lt_of_cell? w _ hw210_4)).trans hw210_4), ((HB.out.cell (World.block_lt_of_cell? w _ hw210_5)).trans hw210_5), ((HB.out.cell (World.block_lt_of_cell? w _ hw210_6)).trans hw210_6)⟩ (fun hHeld => ?_)
             clear hK K
             refine norm_ (a' := ?_) ?_ ?_
             rotate_left
             ·show Act.put _ (some 65) _ = _
              simp only [Act.put, List.setIfInBounds_toArray, List.set_cons_zero, List.set_cons_succ, i64_w, i32_w]
              rfl
             refine pure_ (i := 16) (N := some 66) (v := ?_) (a' := ?_) #[true, true, true, true, true, true, true, true, true, true, true, true, true, true, true, true, true, false] rfl rfl (any_of HT_.out (by kernel_rfl)) (fun _ _ _ h => h) (Or.inl ⟨by rfl, ?_⟩) ?_ ?_
             rotate_left
             ·intro w'
              go_simp
              with_reducible rfl
             rotate_left
             ·simp only [Act.put, List.setIfInBounds_toArray, List.set_cons_zero, List.set_cons_succ, i64_w, i32_w]
              rfl
             refine pure_ (i := 17) (N := some 67) (v := ?_) (a' := ?_) #[true, true, true, true, true, true, true, true, true, true, true, true, true, true, true, true, true, true] rfl rfl (any_of HT_.out (by kernel_rfl)) (fun _ _ _ h => h) (Or.inl ⟨by rfl, ?_⟩) ?_ ?_
             rotate_left
             ·intro w'
              go_simp
              with_reducible rfl
             rotate_left
             ·simp only [Act.put, List.setIfInBounds_toArray, List.set_cons_zero, List.set_cons_succ, i64_w, i32_w]
              rfl
             refine done_ (done_of HT_.out (by kernel_rfl)) ?_
             try go_wp2
             go_meet
             case rel => exact ⟨_, ((!(t207 == t211) || (!(t208 == t212) || (!(t209 == t213))))), (by first | rfl | (simp; done) | (simp [*]; done)), H', ⟨by have := HJ3.out; have := HK2.out; first | omega | exact Nat.le_refl _⟩, ⟨by (with_reducible repeat (first | apply Kd.R_alloc | apply Kd.R_drewN | apply Kd.R_drew)); exact HO_5.out⟩, ⟨by (with_reducible repeat (first | apply Kd.R_alloc | apply Kd.R_drewN | apply Kd.R_drew)); exact HO_7.out⟩, ⟨by (with_reducible repeat (first | apply Kd.R_alloc | apply Kd.R_drewN | apply Kd.R_drew)); exact HO_8.out⟩, ⟨by repeat (first | (with_reducible first | exact HB.out | apply below_alloc | apply pw_below_drewN | apply below_drew1) | exact HB.out)⟩⟩
            ·rw [if_neg c32] at H
             exact absurd H (by simp)
           ·rw [if_neg c31] at H
            exact absurd H (by simp)
          ·rw [if_neg c28] at H
           have c28b0 : decide (0 < x9_2) = false := decide_eq_false c28
           clear c28
           (first | rw [c28b0] | (simp only [i64_w, i32_w]; rw [c28b0]) | skip)
           have H' := Aside0.mk H
           clear H
           try go_wp2
           have n0_ := Aside0.mk (Kd.R_drew HO_5.out)
           have n1_ := Aside0.mk (Kd.R_drew HO_7.out)
           have n2_ := Aside0.mk (Kd.R_drew HO_8.out)
           have n3_ := Aside0.mk (below_drew1 HB.out)
           clear HO_5
           clear HO_7
           clear HO_8
           clear HB
           have HO_5 := n0_
           have HO_7 := n1_
           have HO_8 := n2_
           have HB := n3_
           clear n0_ n1_ n2_ n3_
           refine start_ (n := 18) (S := fun w' => True) (ds := []) #[false, false, false, false, false, false, false, false, false, false, false, false, false, false, false, false, false, false] (by kernel_rfl) rfl rfl trivial (fun hHeld => ?_); refine with_tabW variorumlaw16_LinenoCounts.tab12 variorumlaw16_LinenoCounts.bits12 (fun HT_ HW_ => ?_)
           generalize wr.drew = w37 at HO_5 HO_7 HO_8 HB hHeld ⊢
           refine pure_ (i := 0) (N := some 50) (v := ?_) (a' := ?_) #[true, false, false, false, false, false, false, false, false, false, false, false, false, false, false, false, false, false] rfl rfl (any_of HT_.out (by kernel_rfl)) (fun _ _ _ h => h) (Or.inl ⟨by rfl, ?_⟩) ?_ ?_
           rotate_left
           ·intro w'
            go_simp
            with_reducible rfl
           rotate_left
           ·simp only [Act.put, List.setIfInBounds_toArray, List.set_cons_zero, List.set_cons_succ, i64_w, i32_w]
            rfl
           refine pure_ (i := 1) (N := some 51) (v := ?_) (a' := ?_) #[true, true, false, false, false, false, false, false, false, false, false, false, false, false, false, false, false, false] rfl rfl (any_of HT_.out (by kernel_rfl)) (fun _ _ _ h => h) (Or.inl ⟨by rfl, ?_⟩) ?_ ?_
           rotate_left
           ·intro w'
            go_simp
            with_reducible rfl
           rotate_left
           ·simp only [Act.put, List.setIfInBounds_toArray, List.set_cons_zero, List.set_cons_succ, i64_w, i32_w]
            rfl
           refine pure_ (i := 2) (N := some 52) (v := ?_) (a' := ?_) #[true, true, true, false, false, false, false, false, false, false, false, false, false, false, false, false, false, false] rfl rfl (any_of HT_.out (by kernel_rfl)) (fun _ _ _ h => h) (Or.inl ⟨by rfl, ?_⟩) ?_ ?_
           rotate_left
           ·intro w'
            go_simp
            with_reducible rfl
           rotate_left
           ·simp only [Act.put, List.setIfInBounds_toArray, List.set_cons_zero, List.set_cons_succ, i64_w, i32_w]
            rfl
           refine pure_ (i := 3) (N := some 53) (v := undef) (a' := ?_) #[true, true, true, true, false, false, false, false, false, false, false, false, false, false, false, false, false, false] rfl rfl (any_of HT_.out (by kernel_rfl)) (fun _ _ _ h => h) (Or.inr ⟨by rfl, rfl⟩) ?_ ?_
           rotate_left
           ·simp only [Act.put, List.setIfInBounds_toArray, List.set_cons_zero, List.set_cons_succ, i64_w, i32_w]
            rfl
           refine pure_ (i := 4) (N := some 54) (v := undef) (a' := ?_) #[true, true, true, true, true, false, false, false, false, false, false, false, false, false, false, false, false, false] rfl rfl (any_of HT_.out (by kernel_rfl)) (fun _ _ _ h => h) (Or.inr ⟨by rfl, rfl⟩) ?_ ?_
           rotate_left
           ·simp only [Act.put, List.setIfInBounds_toArray, List.set_cons_zero, List.set_cons_succ, i64_w, i32_w]
            rfl
           refine pure_ (i := 5) (N := some 55) (v := undef) (a' := ?_) #[true, true, true, true, true, true, false, false, false, false, false, false, false, false, false, false, false, false] rfl rfl (any_of HT_.out (by kernel_rfl)) (fun _ _ _ h => h) (Or.inr ⟨by rfl, rfl⟩) ?_ ?_
           rotate_left
           ·simp only [Act.put, List.setIfInBounds_toArray, List.set_cons_zero, List.set_cons_succ, i64_w, i32_w]
            rfl
           refine pure_ (i := 6) (N := some 56) (v := undef) (a' := ?_) #[true, true, true, true, true, true, true, false, false, false, false, false, false, false, false, false, false, false] rfl rfl (any_of HT_.out (by kernel_rfl)) (fun _ _ _ h => h) (Or.inr ⟨by rfl, rfl⟩) ?_ ?_
           rotate_left
           ·simp only [Act.put, List.setIfInBounds_toArray, List.set_cons_zero, List.set_cons_succ, i64_w, i32_w]
            rfl
           refine pure_ (i := 7) (N := some 57) (v := undef) (a' := ?_) #[true, true, true, true, true, true, true, true, false, false, false, false, false, false, false, false, false, false] rfl rfl (any_of HT_.out (by kernel_rfl)) (fun _ _ _ h => h) (Or.inr ⟨by rfl, rfl⟩) ?_ ?_
           rotate_left
           ·simp only [Act.put, List.setIfInBounds_toArray, List.set_cons_zero, List.set_cons_succ, i64_w, i32_w]
            rfl
           refine pure_ (i := 8) (N := some 58) (v := undef) (a' := ?_) #[true, true, true, true, true, true, true, true, true, false, false, false, false, false, false, false, false, false] rfl rfl (any_of HT_.out (by kernel_rfl)) (fun _ _ _ h => h) (Or.inr ⟨by rfl, rfl⟩) ?_ ?_
           rotate_left
           ·simp only [Act.put, List.setIfInBounds_toArray, List.set_cons_zero, List.set_cons_succ, i64_w, i32_w]
            rfl
           refine pure_ (i := 9) (N := some 59) (v := undef) (a' := ?_) #[true, true, true, true, true, true, true, true, true, true, false, false, false, false, false, false, false, false] rfl rfl (any_of HT_.out (by kernel_rfl)) (fun _ _ _ h => h) (Or.inr ⟨by rfl, rfl⟩) ?_ ?_
           rotate_left
           ·simp only [Act.put, List.setIfInBounds_toArray, List.set_cons_zero, List.set_cons_succ, i64_w, i32_w]
            rfl
           refine pure_ (i := 10) (N := some 60) (v := undef) (a' := ?_) #[true, true, true, true, true, true, true, true, true, true, true, false, false, false, false, false, false, false] rfl rfl (any_of HT_.out (by kernel_rfl)) (fun _ _ _ h => h) (Or.inr ⟨by rfl, rfl⟩) ?_ ?_
           rotate_left
           ·simp only [Act.put, List.setIfInBounds_toArray, List.set_cons_zero, List.set_cons_succ, i64_w, i32_w]
            rfl
           refine pure_ (i := 11) (N := some 61) (v := undef) (a' := ?_) #[true, true, true, true, true, true, true, true, true, true, true, true, false, false, false, false, false, false] rfl rfl (any_of HT_.out (by kernel_rfl)) (fun _ _ _ h => h) (Or.inr ⟨by rfl, rfl⟩) ?_ ?_
           rotate_left
           ·simp only [Act.put, List.setIfInBounds_toArray, List.set_cons_zero, List.set_cons_succ, i64_w, i32_w]
            rfl
           refine pure_ (i := 12) (N := some 62) (v := undef) (a' := ?_) #[true, true, true, true, true, true, true, true, true, true, true, true, true, false, false, false, false, false] rfl rfl (any_of HT_.out (by kernel_rfl)) (fun _ _ _ h => h) (Or.inr ⟨by rfl, rfl⟩) ?_ ?_
           rotate_left
           ·simp only [Act.put, List.setIfInBounds_toArray, List.set_cons_zero, List.set_cons_succ, i64_w, i32_w]
            rfl
           refine pure_ (i := 13) (N := some 63) (v := undef) (a' := ?_) #[true, true, true, true, true, true, true, true, true, true, true, true, true, true, false, false, false, false] rfl rfl (any_of HT_.out (by kernel_rfl)) (fun _ _ _ h => h) (Or.inr ⟨by rfl, rfl⟩) ?_ ?_
           rotate_left
           ·simp only [Act.put, List.setIfInBounds_toArray, List.set_cons_zero, List.set_cons_succ, i64_w, i32_w]
            rfl
           refine pure_ (i := 14) (N := some 64) (v := undef) (a' := ?_) #[true, true, true, true, true, true, true, true, true, true, true, true, true, true, true, false, false, false] rfl rfl (any_of HT_.out (by kernel_rfl)) (fun _ _ _ h => h) (Or.inr ⟨by rfl, rfl⟩) ?_ ?_
           rotate_left
           ·simp only [Act.put, List.setIfInBounds_toArray, List.set_cons_zero, List.set_cons_succ, i64_w, i32_w]
            rfl
           refine pure_ (i := 15) (N := some 65) (v := undef) (a' := ?_) #[true, true, true, true, true, true, true, true, true, true, true, true, true, true, true, true, false, false] rfl rfl (any_of HT_.out (by kernel_rfl)) (fun _ _ _ h => h) (Or.inr ⟨by rfl, rfl⟩) ?_ ?_
           rotate_left
           ·simp only [Act.put, List.setIfInBounds_toArray, List.set_cons_zero, List.set_cons_succ, i64_w, i32_w]
            rfl
           refine pure_ (i := 16) (N := some 66) (v := undef) (a' := ?_) #[true, true, true, true, true, true, true, true, true, true, true, true, true, true, true, true, true, false] rfl rfl (any_of HT_.out (by kernel_rfl)) (fun _ _ _ h => h) (Or.inr ⟨by rfl, rfl⟩) ?_ ?_
           rotate_left
           ·simp only [Act.put, List.setIfInBounds_toArray, List.set_cons_zero, List.set_cons_succ, i64_w, i32_w]
            rfl
           refine pure_ (i := 17) (N := some 67) (v := ?_) (a' := ?_) #[true, true, true, true, true, true, true, true, true, true, true, true, true, true, true, true, true, true] rfl rfl (any_of HT_.out (by kernel_rfl)) (fun _ _ _ h => h) (Or.inl ⟨by rfl, ?_⟩) ?_ ?_
           rotate_left
           ·intro w'
            go_simp
            with_reducible rfl
           rotate_left
           ·simp only [Act.put, List.setIfInBounds_toArray, List.set_cons_zero, List.set_cons_succ, i64_w, i32_w]
            rfl
           refine done_ (done_of HT_.out (by kernel_rfl)) ?_
           try go_wp2
           go_meet
           case rel => exact ⟨_, (false), (by first | rfl | (simp; done) | (simp [*]; done)), H', ⟨by have := HJ3.out; have := HK2.out; first | omega | exact Nat.le_refl _⟩, ⟨by (with_reducible repeat (first | apply Kd.R_alloc | apply Kd.R_drewN | apply Kd.R_drew)); exact HO_5.out⟩, ⟨by (with_reducible repeat (first | apply Kd.R_alloc | apply Kd.R_drewN | apply Kd.R_drew)); exact HO_7.out⟩, ⟨by (with_reducible repeat (first | apply Kd.R_alloc | apply Kd.R_drewN | apply Kd.R_drew)); exact HO_8.out⟩, ⟨by repeat (first | (with_reducible first | exact HB.out | apply below_alloc | apply pw_below_drewN | apply below_drew1) | exact HB.out)⟩⟩
         case rest =>
          clear HC27
          try clear c1
          try clear c2
          try clear p2
          try clear q2
          try clear hx2
          try clear c3
          try clear c4
          try clear p6
          try clear c7
          try clear c8
          try clear c8b0
          try clear c8b1
          try clear c8b2
          try clear c9
          try clear c14
          try clear c16
          try clear p20
          try clear q20
          try clear hx20
          try clear p21
          try clear q21
          try clear hx21
          try clear c24
          try clear c24b0
          try clear c25
          try clear c25b0
          try clear c26
          try clear c26b0
          try clear c28
          try clear c28b0
          try clear c31
          try clear c31b0
          try clear c32
          try clear c32b0
          try clear hx205_0
          try clear hx205_1
          try clear hx205_2
          try clear hx205_3
          try clear hx205_4
          try clear hx205_5
          try clear hx205_6
          try clear hx206_0
          try clear hx206_1
          try clear hx206_2
          try clear hx206_3
          try clear hx206_4
          try clear hx206_5
          try clear hx206_6
          try clear hx210_0
          try clear hx210_1
          try clear hx210_2
          try clear hx210_3
          try clear hx210_4
          try clear hx210_5
          try clear hx210_6
          try clear p2
          try clear p205
          try clear p206
          try clear p210
          try clear q205
          try clear q206
          try clear q210
          obtain ⟨kq, x67_26, rfl, HA, HJ26, HO_5, HO_7, HO_8, HB⟩ := hcut
          cases kq with
          | zero => exact absurd HA.out (by simp [variorumlaw16_LinenoCounts.j2])
          | succ kj26 =>
           have H := HA.out
           clear HA
           simp only [variorumlaw16_LinenoCounts.j2] at H
           have HC38 := Aside0.mk H
           clear H
           go_upto_if 67 with (fail)
           go_cut [6] (fun v6 wc => ∃ (kq : Nat) (x6_37 : Int), v6 = .int .i64 x6_37 ∧ Aside0 (variorumlaw16_LinenoCounts.j3 kq l0 a1 t194 x6_37 x7_2 x8_2 x9_2 = some r) ∧ Aside0 (kq ≤ kj26) ∧ Aside0 (Kd.R k31 31 wc w.heap.size (fun k_ => some k_ ≠ (u8 : Value).ownBlock) v195 t194) ∧ Aside0 (Kd.R k29 29 wc w.heap.size (fun _ => True) u7 x7_2) ∧ Aside0 (Kd.R k31 31 wc w.heap.size (fun k_ => some k_ ≠ (v195 : Value).ownBlock) u8 x8_2) ∧ Aside0 (Below w.heap.size w wc))
           case first =>
            have H := HC38.out
            clear HC38
            by_cases c39 : x67_26 = true
            ·subst c39
             have H1 : (variorumlaw16_LinenoCounts.j3 kj26 l0 a1 t194 0 x7_2 x8_2 x9_2) = some r := by rw [if_pos rfl] at H; exact H
             clear H
             have H := H1
             clear H1
             have H' := Aside0.mk H
             clear H
             go_wp2
             go_meet
             case rel => exact ⟨_, (0), (by first | rfl | (simp; done) | (simp [*]; done)), H', ⟨by have := HJ3.out; have := HK2.out; have := HJ26.out; first | omega | exact Nat.le_refl _⟩, ⟨by (with_reducible repeat (first | apply Kd.R_alloc | apply Kd.R_drewN | apply Kd.R_drew)); exact HO_5.out⟩, ⟨by (with_reducible repeat (first | apply Kd.R_alloc | apply Kd.R_drewN | apply Kd.R_drew)); exact HO_7.out⟩, ⟨by (with_reducible repeat (first | apply Kd.R_alloc | apply Kd.R_drewN | apply Kd.R_drew)); exact HO_8.out⟩, ⟨by repeat (first | (with_reducible first | exact HB.out | apply below_alloc | apply pw_below_drewN | apply below_drew1) | exact HB.out)⟩⟩
            ·replace c39 := Bool.eq_false_iff.mpr c39
             subst c39
             have H1 : (variorumlaw16_LinenoCounts.j3 kj26 l0 a1 t194 x6_2 x7_2 x8_2 x9_2) = some r := by rw [if_neg (show ¬ (false = true) by decide)] at H; exact H
             clear H
             have H := H1
             clear H1
             have H' := Aside0.mk H
             clear H
             go_wp2
             go_meet
             case rel => exact ⟨_, (x6_2), (by first | rfl | (simp; done) | (simp [*]; done)), H', ⟨by have := HJ3.out; have := HK2.out; have := HJ26.out; first | omega | exact Nat.le_refl _⟩, ⟨by (with_reducible repeat (first | apply Kd.R_alloc | apply Kd.R_drewN | apply Kd.R_drew)); exact HO_5.out⟩, ⟨by (with_reducible repeat (first | apply Kd.R_alloc | apply Kd.R_drewN | apply Kd.R_drew)); exact HO_7.out⟩, ⟨by (with_reducible repeat (first | apply Kd.R_alloc | apply Kd.R_drewN | apply Kd.R_drew)); exact HO_8.out⟩, ⟨by repeat (first | (with_reducible first | exact HB.out | apply below_alloc | apply pw_below_drewN | apply below_drew1) | exact HB.out)⟩⟩
           case rest =>
            clear HC38
            try clear c1
            try clear c2
            try clear p2
            try clear q2
            try clear hx2
            try clear c3
            try clear c4
            try clear p6
            try clear c7
            try clear c8
            try clear c8b0
            try clear c8b1
            try clear c8b2
            try clear c9
            try clear c14
            try clear c16
            try clear p20
            try clear q20
            try clear hx20
            try clear p21
            try clear q21
            try clear hx21
            try clear c24
            try clear c24b0
            try clear c25
            try clear c25b0
            try clear c26
            try clear c26b0
            try clear c28
            try clear c28b0
            try clear c31
            try clear c31b0
            try clear c32
            try clear c32b0
            try clear c39
            try clear hx205_0
            try clear hx205_1
            try clear hx205_2
            try clear hx205_3
            try clear hx205_4
            try clear hx205_5
            try clear hx205_6
            try clear hx206_0
            try clear hx206_1
            try clear hx206_2
            try clear hx206_3
            try clear hx206_4
            try clear hx206_5
            try clear hx206_6
            try clear hx210_0
            try clear hx210_1
            try clear hx210_2
            try clear hx210_3
            try clear hx210_4
            try clear hx210_5
            try clear hx210_6
            try clear p2
            try clear p20
            try clear p205
            try clear p206
            try clear p21
            try clear p210
            try clear p6
            try clear q2
            try clear q20
            try clear q205
            try clear q206
            try clear q21
            try clear q210
            obtain ⟨kq, x6_37, rfl, HA, HJ37, HO_5, HO_7, HO_8, HB⟩ := hcut
            cases kq with
            | zero => exact absurd HA.out (by simp [variorumlaw16_LinenoCounts.j3])
            | succ kj37 =>
             have H := HA.out
             clear HA
             simp only [variorumlaw16_LinenoCounts.j3] at H
             by_cases c40 : 0 ≤ x9_2
             ·rw [if_pos c40] at H
              have c40b0 : decide (0 ≤ x9_2) = true := decide_eq_true c40
              clear c40
              by_cases c41 : x9_2 < (l0.length : Int)
              ·rw [if_pos c41] at H
               have c41b0 : decide (x9_2 < (l0.length : Int)) = true := decide_eq_true c41
               clear c41
               by_cases c42 : x7_2.length < 3518437208883
               ·rw [if_pos c42] at H
                have LMc42 := Aside0.mk c42
                clear c42
                obtain ⟨y218, hy218⟩ : ∃ y_ : List (S29), y_ = (x7_2 ++ [(⟨(rd_T29 l0 x9_2).f0, (rd_T29 l0 x9_2).f1, (rd_T29 l0 x9_2).f2, 0, false, false, false⟩ : S29)]) := ⟨_, rfl⟩
                replace H : (if x8_2.length < 8796093022208 then ((some (x8_2 ++ [(⟨wrap64 (x6_37 + 1), 0⟩ : S31)] : List (S31))).bind fun y221 => (if x9_2 < (t194.length : Int) then (if ((rd_T31 t194 x9_2).f0) < 0 then (variorumlaw16_LinenoCounts.j4 kj37 l0 a1 t194 (wrap64 (x6_37 + 1)) y218 y221 x9_2 true) else (if ((rd_T31 t194 x9_2).f1) < 0 then (variorumlaw16_LinenoCounts.j4 kj37 l0 a1 t194 (wrap64 (x6_37 + 1)) y218 y221 x9_2 true) else (variorumlaw16_LinenoCounts.j4 kj37 l0 a1 t194 (wrap64 (x6_37 + 1)) y218 y221 x9_2 (((rd_T29 l0 x9_2).f5) != (((rd_T31 t194 x9_2).f0) == 0))))) else (none))) else (none)) = some r := by first | (rw [hy218]; with_reducible exact H) | (have H2_ := (Option.bind_some _ _).symm.trans H; rw [hy218]; with_reducible exact H2_) | (have H2_ := (Option.bind_some _ _).symm.trans H; with_reducible exact H2_) | with_reducible exact H | (rw [hy218]; exact H) | exact H
                have Ny218 := Aside0.mk hy218
                clear hy218
                by_cases c43 : x8_2.length < 8796093022208
                ·rw [if_pos c43] at H
                 have LMc43 := Aside0.mk c43
                 clear c43
                 obtain ⟨y221, hy221⟩ : ∃ y_ : List (S31), y_ = (x8_2 ++ [(⟨wrap64 (x6_37 + 1), 0⟩ : S31)]) := ⟨_, rfl⟩
                 replace H : (if x9_2 < (t194.length : Int) then (if ((rd_T31 t194 x9_2).f0) < 0 then (variorumlaw16_LinenoCounts.j4 kj37 l0 a1 t194 (wrap64 (x6_37 + 1)) y218 y221 x9_2 true) else (if ((rd_T31 t194 x9_2).f1) < 0 then (variorumlaw16_LinenoCounts.j4 kj37 l0 a1 t194 (wrap64 (x6_37 + 1)) y218 y221 x9_2 true) else (variorumlaw16_LinenoCounts.j4 kj37 l0 a1 t194 (wrap64 (x6_37 + 1)) y218 y221 x9_2 (((rd_T29 l0 x9_2).f5) != (((rd_T31 t194 x9_2).f0) == 0))))) else (none)) = some r := by first | (rw [hy221]; with_reducible exact H) | (have H2_ := (Option.bind_some _ _).symm.trans H; rw [hy221]; with_reducible exact H2_) | (have H2_ := (Option.bind_some _ _).symm.trans H; with_reducible exact H2_) | with_reducible exact H | (rw [hy221]; exact H) | exact H
                 have Ny221 := Aside0.mk hy221
                 clear hy221
                 have HC44 := Aside0.mk H
                 clear H
                 try go_wp2
                 have n0_ := Aside0.mk (Kd.R_drew HO_5.out)
                 have n1_ := Aside0.mk (Kd.R_drew HO_7.out)
                 have n2_ := Aside0.mk (Kd.R_drew HO_8.out)
                 have n3_ := Aside0.mk (below_drew1 HB.out)
                 clear HO_5
                 clear HO_7
                 clear HO_8
                 clear HB
                 have HO_5 := n0_
                 have HO_7 := n1_
                 have HO_8 := n2_
                 have HB := n3_
                 clear n0_ n1_ n2_ n3_
                 have p214 : 0 ≤ (x9_2 : Int) := of_decide_eq_true (by first | (with_reducible assumption) | assumption)
                 have q214 : x9_2 < (l0.length : Int) := of_decide_eq_true (by first | (with_reducible assumption) | assumption)
                 obtain ⟨ad214, e214, hx214_0, hx214_1, hx214_2, hx214_3, hx214_4, hx214_5, hx214_6⟩ := at_T29 HR0.out x9_2 p214 q214
                 have hw214_6 := hx214_6
                 have hw214_5 := hx214_5
                 have hw214_4 := hx214_4
                 have hw214_3 := hx214_3
                 have hw214_2 := hx214_2
                 have hw214_1 := hx214_1
                 have hw214_0 := hx214_0
                 obtain rfl : ad205 = ad214 := (by injection e214)
                 replace hx214_0 := (HB.out.cell (World.block_lt_of_cell? w _ hx214_0)).trans hx214_0
                 replace hx214_1 := (HB.out.cell (World.block_lt_of_cell? w _ hx214_1)).trans hx214_1
                 replace hx214_2 := (HB.out.cell (World.block_lt_of_cell? w _ hx214_2)).trans hx214_2
                 replace hx214_3 := (HB.out.cell (World.block_lt_of_cell? w _ hx214_3)).trans hx214_3
                 replace hx214_4 := (HB.out.cell (World.block_lt_of_cell? w _ hx214_4)).trans hx214_4
                 replace hx214_5 := (HB.out.cell (World.block_lt_of_cell? w _ hx214_5)).trans hx214_5
                 replace hx214_6 := (HB.out.cell (World.block_lt_of_cell? w _ hx214_6)).trans hx214_6
                 replace p214 := eq_true p214
                 replace q214 := eq_true q214
                 have p215 : 0 ≤ (x9_2 : Int) := of_decide_eq_true (by first | (with_reducible assumption) | assumption)
                 have q215 : x9_2 < (l0.length : Int) := of_decide_eq_true (by first | (with_reducible assumption) | assumption)
                 obtain ⟨ad215, e215, hx215_0, hx215_1, hx215_2, hx215_3, hx215_4, hx215_5, hx215_6⟩ := at_T29 HR0.out x9_2 p215 q215
                 have hw215_6 := hx215_6
                 have hw215_5 := hx215_5
                 have hw215_4 := hx215_4
                 have hw215_3 := hx215_3
                 have hw215_2 := hx215_2
                 have hw215_1 := hx215_1
                 have hw215_0 := hx215_0
                 obtain rfl : ad205 = ad215 := (by injection e215)
                 replace hx215_0 := (HB.out.cell (World.block_lt_of_cell? w _ hx215_0)).trans hx215_0
                 replace hx215_1 := (HB.out.cell (World.block_lt_of_cell? w _ hx215_1)).trans hx215_1
                 replace hx215_2 := (HB.out.cell (World.block_lt_of_cell? w _ hx215_2)).trans hx215_2
                 replace hx215_3 := (HB.out.cell (World.block_lt_of_cell? w _ hx215_3)).trans hx215_3
                 replace hx215_4 := (HB.out.cell (World.block_lt_of_cell? w _ hx215_4)).trans hx215_4
                 replace hx215_5 := (HB.out.cell (World.block_lt_of_cell? w _ hx215_5)).trans hx215_5
                 replace hx215_6 := (HB.out.cell (World.block_lt_of_cell? w _ hx215_6)).trans hx215_6
                 replace p215 := eq_true p215
                 replace q215 := eq_true q215
                 have p216 : 0 ≤ (x9_2 : Int) := of_decide_eq_true (by first | (with_reducible assumption) | assumption)
                 have q216 : x9_2 < (l0.length : Int) := of_decide_eq_true (by first | (with_reducible assumption) | assumption)
                 obtain ⟨ad216, e216, hx216_0, hx216_1, hx216_2, hx216_3, hx216_4, hx216_5, hx216_6⟩ := at_T29 HR0.out x9_2 p216 q216
                 have hw216_6 := hx216_6
                 have hw216_5 := hx216_5
                 have hw216_4 := hx216_4
                 have hw216_3 := hx216_3
                 have hw216_2 := hx216_2
                 have hw216_1 := hx216_1
                 have hw216_0 := hx216_0
                 obtain rfl : ad205 = ad216 := (by injection e216)
                 replace hx216_0 := (HB.out.cell (World.block_lt_of_cell? w _ hx216_0)).trans hx216_0
                 replace hx216_1 := (HB.out.cell (World.block_lt_of_cell? w _ hx216_1)).trans hx216_1
                 replace hx216_2 := (HB.out.cell (World.block_lt_of_cell? w _ hx216_2)).trans hx216_2
                 replace hx216_3 := (HB.out.cell (World.block_lt_of_cell? w _ hx216_3)).trans hx216_3
                 replace hx216_4 := (HB.out.cell (World.block_lt_of_cell? w _ hx216_4)).trans hx216_4
                 replace hx216_5 := (HB.out.cell (World.block_lt_of_cell? w _ hx216_5)).trans hx216_5
                 replace hx216_6 := (HB.out.cell (World.block_lt_of_cell? w _ hx216_6)).trans hx216_6
                 replace p216 := eq_true p216
                 replace q216 := eq_true q216
                 refine start_ (n := 18) (S := fun w' => w'.cell? (ad205.add ((x9_2).toNat * 7)) = some (.int .i64 ((rd_T29 l0 x9_2).f0)) ∧ w'.cell? ⟨(ad205.add ((x9_2).toNat * 7)).block, (ad205.add ((x9_2).toNat * 7)).off + 1, none⟩ = some (.int .i64 ((rd_T29 l0 x9_2).f1)) ∧ w'.cell? ⟨(ad205.add ((x9_2).toNat * 7)).block, (ad205.add ((x9_2).toNat * 7)).off + 2, none⟩ = some (.int .i64 ((rd_T29 l0 x9_2).f2)) ∧ w'.cell? ⟨(ad205.add ((x9_2).toNat * 7)).block, (ad205.add ((x9_2).toNat * 7)).off + 3, none⟩ = some (.int .i64 ((rd_T29 l0 x9_2).f3)) ∧ w'.cell? ⟨(ad205.add ((x9_2).toNat * 7)).block, (ad205.add ((x9_2).toNat * 7)).off + 4, none⟩ = some (.bool ((rd_T29 l0 x9_2).f4)) ∧ w'.cell? ⟨(ad205.add ((x9_2).toNat * 7)).block, (ad205.add ((x9_2).toNat * 7)).off + 5, none⟩ = some (.bool ((rd_T29 l0 x9_2).f5)) ∧ w'.cell? ⟨(ad205.add ((x9_2).toNat * 7)).block, (ad205.add ((x9_2).toNat * 7)).off + 6, none⟩ = some (.bool ((rd_T29 l0 x9_2).f6)) ∧ w'.cell? (ad205.add ((x9_2).toNat * 7)) = some (.int .i64 ((rd_T29 l0 x9_2).f0)) ∧ w'.cell? ⟨(ad205.add ((x9_2).toNat * 7)).block, (ad205.add ((x9_2).toNat * 7)).off + 1, none⟩ = some (.int .i64 ((rd_T29 l0 x9_2).f1)) ∧ w'.cell? ⟨(ad205.add ((x9_2).toNat * 7)).block, (ad205.add ((x9_2).toNat * 7)).off + 2, none⟩ = some (.int .i64 ((rd_T29 l0 x9_2).f2)) ∧ w'.cell? ⟨(ad205.add ((x9_2).toNat * 7)).block, (ad205.add ((x9_2).toNat * 7)).off + 3, none⟩ = some (.int .i64 ((rd_T29 l0 x9_2).f3)) ∧ w'.cell? ⟨(ad205.add ((x9_2).toNat * 7)).block, (ad205.add ((x9_2).toNat * 7)).off + 4, none⟩ = some (.bool ((rd_T29 l0 x9_2).f4)) ∧ w'.cell? ⟨(ad205.add ((x9_2).toNat * 7)).block, (ad205.add ((x9_2).toNat * 7)).off + 5, none⟩ = some (.bool ((rd_T29 l0 x9_2).f5)) ∧ w'.cell? ⟨(ad205.add ((x9_2).toNat * 7)).block, (ad205.add ((x9_2).toNat * 7)).off + 6, none⟩ = some (.bool ((rd_T29 l0 x9_2).f6)) ∧ w'.cell? (ad205.add ((x9_2).toNat * 7)) = some (.int .i64 ((rd_T29 l0 x9_2).f0)) ∧ w'.cell? ⟨(ad205.add ((x9_2).toNat * 7)).block, (ad205.add ((x9_2).toNat * 7)).off + 1, none⟩ = some (.int .i64 ((rd_T29 l0 x9_2).f1)) ∧ w'.cell? ⟨(ad205.add ((x9_2).toNat * 7)).block, (ad205.add ((x9_2).toNat * 7)).off + 2, none⟩ = some (.int .i64 ((rd_T29 l0 x9_2).f2)) ∧ w'.cell? ⟨(ad205.add ((x9_2).toNat * 7)).block, (ad205.add ((x9_2).toNat * 7)).off + 3, none⟩ = some (.int .i64 ((rd_T29 l0 x9_2).f3)) ∧ w'.cell? ⟨(ad205.add ((x9_2).toNat * 7)).block, (ad205.add ((x9_2).toNat * 7)).off + 4, none⟩ = some (.bool ((rd_T29 l0 x9_2).f4)) ∧ w'.cell? ⟨(ad205.add ((x9_2).toNat * 7)).block, (ad205.add ((x9_2).toNat * 7)).off + 5, none⟩ = some (.bool ((rd_T29 l0 x9_2).f5)) ∧ w'.cell? ⟨(ad205.add ((x9_2).toNat * 7)).block, (ad205.add ((x9_2).toNat * 7)).off + 6, none⟩ = some (.bool ((rd_T29 l0 x9_2).f6))) (ds := []) #[false, false, false, false, false, false, false, false, false, false, false, false, false, false, false, false, false, false] (by kernel_rfl) rfl rfl ⟨((HB.out.cell (World.block_lt_of_cell? w _ hw214_0)).trans hw214_0), ((HB.out.cell (World.block_lt_of_cell? w _ hw214_1)).trans hw214_1), ((HB.out.cell (World.block_lt_of_cell? w _ hw214_2)).trans hw214_2), ((HB.out.cell (World.block_lt_of_cell? w _ hw214_3)).trans hw214_3), ((HB.out.cell (World.block_lt_of_cell? w _ hw214_4)).trans hw214_4), ((HB.out.cell (World.block_lt_of_cell? w _ hw214_5)).trans hw214_5), ((HB.out.cell (World.block_lt_of_cell? w _ hw214_6)).trans hw214_6), ((HB.out.cell (World.block_lt_of_cell? w _ hw215_0)).trans hw215_0), ((HB.out.cell (World.block_lt_of_cell? w _ hw215_1)).trans hw215_1), ((HB.out.cell (World.block_lt_of_cell? w _ hw215_2)).trans hw215_2), ((HB.out.cell (World.block_lt_of_cell? w _ hw215_3)).trans hw215_3), ((HB.out.cell (World.block_lt_of_cell? w _ hw215_4)).trans hw215_4), ((HB.out.cell (World.block_lt_of_cell? w _ hw215_5)).trans hw215_5), ((HB.out.cell (World.block_lt_of_cell? w _ hw215_6)).trans hw215_6), ((HB.out.cell (World.block_lt_of_cell? w _ hw216_0)).trans hw216_0), ((HB.out.cell (World.block_lt_of_cell? w _ hw216_1)).trans hw216_1), ((HB.out.cell (World.block_lt_of_cell? w _ hw216_2)).trans hw216_2), ((HB.out.cell (World.block_lt_of_cell? w _ hw216_3)).trans hw216_3), ((HB.out.cell (World.block_lt_of_cell? w _ hw216_4)).trans hw216_4), ((HB.out.cell (World.block_lt_of_cell? w _ hw216_5)).trans hw216_5), ((HB.out.cell (World.block_lt_of_cell? w _ hw216_6)).trans hw216_6)⟩ (fun hHeld => ?_); refine with_tabW variorumlaw16_LinenoCounts.tab15 variorumlaw16_LinenoCounts.bits15 (fun HT_ HW_ => ?_)
                 generalize wc.drew = w45 at HO_5 HO_7 HO_8 HB hx214_0 hx214_1 hx214_2 hx214_3 hx214_4 hx214_5 hx214_6 hx215_0 hx215_1 hx215_2 hx215_3 hx215_4 hx215_5 hx215_6 hx216_0 hx216_1 hx216_2 hx216_3 hx216_4 hx216_5 hx216_6 hHeld ⊢
                 refine pure_ (i := 0) (N := some 70) (v := ?_) (a' := ?_) #[true, false, false, false, false, false, false, false, false, false, false, false, false, false, false, false, false, false] rfl rfl (any_of HT_.out (by kernel_rfl)) (fun _ _ _ h => h) (Or.inl ⟨by rfl, ?_⟩) ?_ ?_
                 rotate_left
                 ·intro w'
                  go_simp
                  with_reducible rfl
                 rotate_left
                 ·simp only [Act.put, List.setIfInBounds_toArray, List.set_cons_zero, List.set_cons_succ, i64_w, i32_w]
                  rfl
                 refine pure_ (i := 1) (N := some 71) (v := ?_) (a' := ?_) #[true, true, false, false, false, false, false, false, false, false, false, false, false, false, false, false, false, false] rfl rfl (any_of HT_.out (by kernel_rfl)) (fun _ _ _ h => h) (Or.inl ⟨by rfl, ?_⟩) ?_ ?_
                 rotate_left
                 ·intro w'
                  go_simp
                  with_reducible rfl
                 rotate_left
                 ·simp only [Act.put, List.setIfInBounds_toArray, List.set_cons_zero, List.set_cons_succ, i64_w, i32_w]
                  rfl
                 refine pure_ (i := 2) (N := some 72) (v := ?_) (a' := ?_) #[true, true, true, false, false, false, false, false, false, false, false, false, false, false, false, false, false, false] rfl rfl (any_of HT_.out (by kernel_rfl)) (fun _ _ _ h => h) (Or.inl ⟨by rfl, ?_⟩) ?_ ?_
                 rotate_left
                 ·intro w'
                  go_simp
                  with_reducible rfl
                 rotate_left
                 ·simp only [Act.put, List.setIfInBounds_toArray, List.set_cons_zero, List.set_cons_succ, i64_w, i32_w]
                  rfl
                 refine pure_ (i := 3) (N := some 73) (v := ?_) (a' := ?_) #[true, true, true, true, false, false, false, false, false, false, false, false, false, false, false, false, false, false] rfl rfl (any_of HT_.out (by kernel_rfl)) (fun _ _ _ h => h) (Or.inl ⟨by rfl, ?_⟩) ?_ ?_
                 rotate_left
                 ·intro w'
                  go_simp
                  with_reducible rfl
                 rotate_left
                 ·simp only [Act.put, List.setIfInBounds_toArray, List.set_cons_zero, List.set_cons_succ, i64_w, i32_w]
                  rfl
                 refine pure_ (i := 5) (N := some 75) (v := ?_) (a' := ?_) #[true, true, true, true, false, true, false, false, false, false, false, false, false, false, false, false, false, false] rfl rfl (any_of HT_.out (by kernel_rfl)) (fun _ _ _ h => h) (Or.inl ⟨by rfl, ?_⟩) ?_ ?_
                 rotate_left
                 ·intro w'
                  go_simp
                  with_reducible rfl
                 rotate_left
                 ·simp only [Act.put, List.setIfInBounds_toArray, List.set_cons_zero, List.set_cons_succ, i64_w, i32_w]
                  rfl
                 refine pure_ (i := 6) (N := some 76) (v := ?_) (a' := ?_) #[true, true, true, true, false, true, true, false, false, false, false, false, false, false, false, false, false, false] rfl rfl (any_of HT_.out (by kernel_rfl)) (fun _ _ _ h => h) (Or.inl ⟨by rfl, ?_⟩) ?_ ?_
                 rotate_left
                 ·intro w'
                  go_simp
                  with_reducible rfl
                 rotate_left
                 ·simp only [Act.put, List.setIfInBounds_toArray, List.set_cons_zero, List.set_cons_succ, i64_w, i32_w]
                  rfl
                 refine pure_ (i := 7) (N := some 77) (v := ?_) (a' := ?_) #[true, true, true, true, false, true, true, true, false, false, false, false, false, false, false, false, false, false] rfl rfl (any_of HT_.out (by kernel_rfl)) (fun _ _ _ h => h) (Or.inl ⟨by rfl, ?_⟩) ?_ ?_
                 rotate_left
                 ·intro w'
                  go_simp
                  with_reducible rfl
                 rotate_left
                 ·simp only [Act.put, List.setIfInBounds_toArray, List.set_cons_zero, List.set_cons_succ, i64_w, i32_w]
                  rfl
                 refine pure_ (i := 8) (N := some 78) (v := ?_) (a' := ?_) #[true, true, true, true, false, true, true, true, true, false, false, false, false, false, false, false, false, false] rfl rfl (any_of HT_.out (by kernel_rfl)) (fun _ _ _ h => h) (Or.inl ⟨by rfl, ?_⟩) ?_ ?_
                 rotate_left
                 ·intro w'
                  go_simp
                  with_reducible rfl
                 rotate_left
                 ·simp only [Act.put, List.setIfInBounds_toArray, List.set_cons_zero, List.set_cons_succ, i64_w, i32_w]
                  rfl
                 refine pure_ (i := 10) (N := some 80) (v := ?_) (a' := ?_) #[true, true, true, true, false, true, true, true, true, false, true, false, false, false, false, false, false, false] rfl rfl (any_of HT_.out (by kernel_rfl)) (fun _ _ _ h => h) (Or.inl ⟨by rfl, ?_⟩) ?_ ?_
                 rotate_left
                 ·intro w'
                  go_simp
                  with_reducible rfl
                 rotate_left
                 ·simp only [Act.put, List.setIfInBounds_toArray, List.set_cons_zero, List.set_cons_succ, i64_w, i32_w]
                  rfl
                 refine pure_ (i := 11) (N := some 81) (v := ?_) (a' := ?_) #[true, true, true, true, false, true, true, true, true, false, true, true, false, false, false, false, false, false] rfl rfl (any_of HT_.out (by kernel_rfl)) (fun _ _ _ h => h) (Or.inl ⟨by rfl, ?_⟩) ?_ ?_
                 rotate_left
                 ·intro w'
                  go_simp
                  with_reducible rfl
                 rotate_left
                 ·simp only [Act.put, List.setIfInBounds_toArray, List.set_cons_zero, List.set_cons_succ, i64_w, i32_w]
                  rfl
                 refine pure_ (i := 12) (N := some 82) (v := ?_) (a' := ?_) #[true, true, true, true, false, true, true, true, true, false, true, true, true, false, false, false, false, false] rfl rfl (any_of HT_.out (by kernel_rfl)) (fun _ _ _ h => h) (Or.inl ⟨by rfl, ?_⟩) ?_ ?_
                 rotate_left
                 ·intro w'
                  go_simp
                  with_reducible rfl
                 rotate_left
                 ·simp only [Act.put, List.setIfInBounds_toArray, List.set_cons_zero, List.set_cons_succ, i64_w, i32_w]
                  rfl
                 refine pure_ (i := 13) (N := some 83) (v := ?_) (a' := ?_) #[true, true, true, true, false, true, true, true, true, false, true, true, true, true, false, false, false, false] rfl rfl (any_of HT_.out (by kernel_rfl)) (fun _ _ _ h => h) (Or.inl ⟨by rfl, ?_⟩) ?_ ?_
                 rotate_left
                 ·intro w'
                  go_simp
                  with_reducible rfl
                 rotate_left
                 ·simp only [Act.put, List.setIfInBounds_toArray, List.set_cons_zero, List.set_cons_succ, i64_w, i32_w]
                  rfl
                 refine take_ (i := 4) (N := some 74) (v := ?_) (a' := ?_) #[true, true, true, true, true, true, true, true, true, false, true, true, true, true, false, false, false, false] rfl rfl (take_ofW HT_.out HW_.out (by kernel_rfl)) (fun _ _ _ h => h) (Or.inl ⟨by rfl, ?_⟩) hHeld ?_ ?_
                 rotate_left
                 ·rintro w' ⟨s0, s1, s2, s3, s4, s5, s6, s7, s8, s9, s10, s11, s12, s13, s14, s15, s16, s17, s18, s19, s20⟩
                  go_simp
                  with_reducible rfl
                 rotate_left
                 ·simp only [Act.put, List.setIfInBounds_toArray, List.set_cons_zero, List.set_cons_succ, i64_w, i32_w]
                  rfl
                 refine take_ (i := 9) (N := some 79) (v := ?_) (a' := ?_) #[true, true, true, true, true, true, true, true, true, true, true, true, true, true, false, false, false, false] rfl rfl (take_ofW HT_.out HW_.out (by kernel_rfl)) (fun _ _ _ h => h) (Or.inl ⟨by rfl, ?_⟩) hHeld ?_ ?_
                 rotate_left
                 ·rintro w' ⟨s0, s1, s2, s3, s4, s5, s6, s7, s8, s9, s10, s11, s12, s13, s14, s15, s16, s17, s18, s19, s20⟩
                  go_simp
                  with_reducible rfl
                 rotate_left
                 ·simp only [Act.put, List.setIfInBounds_toArray, List.set_cons_zero, List.set_cons_succ, i64_w, i32_w]
                  rfl
                 refine take_ (i := 14) (N := some 84) (v := ?_) (a' := ?_) #[true, true, true, true, true, true, true, true, true, true, true, true, true, true, true, false, false, false] rfl rfl (take_ofW HT_.out HW_.out (by kernel_rfl)) (fun _ _ _ h => h) (Or.inl ⟨by rfl, ?_⟩) hHeld ?_ ?_
                 rotate_left
                 ·rintro w' ⟨s0, s1, s2, s3, s4, s5, s6, s7, s8, s9, s10, s11, s12, s13, s14, s15, s16, s17, s18, s19, s20⟩
                  go_simp
                  with_reducible rfl
                 rotate_left
                 ·simp only [Act.put, List.setIfInBounds_toArray, List.set_cons_zero, List.set_cons_succ, i64_w, i32_w]
                  rfl
                 refine pure_ (i := 15) (N := some 85) (v := ?_) (a' := ?_) #[true, true, true, true, true, true, true, true, true, true, true, true, true, true, true, true, false, false] rfl rfl (any_of HT_.out (by kernel_rfl)) (fun _ _ _ h => h) (Or.inl ⟨by rfl, ?_⟩) ?_ ?_
                 rotate_left
                 ·intro w'
                  go_simp
                  with_reducible rfl
                 rotate_left
                 ·simp only [Act.put, List.setIfInBounds_toArray, List.set_cons_zero, List.set_cons_succ, i64_w, i32_w]
                  rfl
                 refine one_ (i := 16) (N := some 10) #[true, true, true, true, true, true, true, true, true, true, true, true, true, true, true, true, true, false] rfl rfl (one_of HT_.out (by kernel_rfl)) (by decide) (fun K hK => ?_)
                 refine box_step ?hg (N := 10) ?hd (cs := #[.int .i64 0, .int .i64 0, .int .i64 0, .int .i64 0, .bool false, .bool false, .bool false]) (t := 29) ?hr ?_; (case hd => rfl); (case hg => rfl); (case hr => first | (go_simp; done) | (go_simp; rfl))
                 intro gb217 hg w46 hbox hb
                 have n0_ := Aside0.mk (Kd.R_below (by (with_reducible repeat (first | apply Kd.R_alloc | apply Kd.R_drewN | apply Kd.R_drew)); exact HO_5.out) hb)
                 have n1_ := Aside0.mk (Kd.R_below (Kd.R_elderB (by (with_reducible repeat (first | apply Kd.R_alloc | apply Kd.R_drewN | apply Kd.R_drew)); exact HO_7.out) gb217 (Nat.le_of_eq hg.symm)) hb)
                 have n2_ := Aside0.mk (Kd.R_below (by (with_reducible repeat (first | apply Kd.R_alloc | apply Kd.R_drewN | apply Kd.R_drew)); exact HO_8.out) hb)
                 have n3_ := Aside0.mk (below_step (by repeat (first | (with_reducible first | exact HB.out | apply below_alloc | apply pw_below_drewN | apply below_drew1) | exact HB.out)) hb)
                 have n4_ := Aside0.mk (hbox)
                 have n5_ := Aside0.mk ((by rw [hg]; exact (below_size (by repeat (first | (with_reducible first | exact HB.out | apply below_alloc | apply pw_below_drewN | apply below_drew1) | exact HB.out))) : w.heap.size ≤ gb217))
                 have n6_ := Aside0.mk ((by rw [hg]; exact (below_size (by repeat (first | (with_reducible first | exact HB.out | apply below_alloc | apply pw_below_drewN | apply below_drew1) | exact HB.out))) : w.heap.size ≤ gb217))
                 clear HO_5
                 clear HO_7
                 clear HO_8
                 clear HB
                 have HO_5 := n0_
                 have HO_7 := n1_
                 have HO_8 := n2_
                 have HB := n3_
                 have BK217 := n4_
                 have GW217 := n5_
                 have GE217 := n6_
                 clear n0_ n1_ n2_ n3_ n4_ n5_ n6_
                 clear hb hbox hg
                 refine hK.out _ _ ⟨((HB.out.cell (World.block_lt_of_cell? w _ hw214_0)).trans hw214_0), ((HB.out.cell (World.block_lt_of_cell? w _ hw214_1)).trans hw214_1), ((HB.out.cell (World.block_lt_of_cell? w _ hw214_2)).trans hw214_2), ((HB.out.cell (World.block_lt_of_cell? w _ hw214_3)).trans hw214_3), ((HB.out.cell (World.block_lt_of_cell? w _ hw214_4)).trans hw214_4), ((HB.out.cell (World.block_lt_of_cell? w _ hw214_5)).trans hw214_5), ((HB.out.cell (World.block_lt_of_cell? w _ hw214_6)).trans hw214_6), ((HB.out.cell (World.block_lt_of_cell? w _ hw215_0)).trans hw215_0), ((HB.out.cell (World.block_lt_of_cell? w _ hw215_1)).trans hw215_1), ((HB.out.cell (World.block_lt_of_cell? w _ hw215_2)).trans hw215_2), ((HB.out.cell (World.block_lt_of_cell? w _ hw215_3)).trans hw215_3), ((HB.out.cell (World.block_lt_of_cell? w _ hw215_4)).trans hw215_4), ((HB.out.cell (World.block_lt_of_cell? w _ hw215_5)).trans hw215_5), ((HB.out.cell (World.block_lt_of_cell? w _ hw215_6)).trans hw215_6), ((HB.out.cell (World.block_lt_of_cell? w _ hw216_0)).trans hw216_0), ((HB.out.cell (World.block_lt_of_cell? w _ hw216_1)).trans hw216_1), ((HB.out.cell (World.block_lt_of_cell? w _ hw216_2)).trans hw216_2), ((HB.out.cell (World.block_lt_of_cell? w _ hw216_3)).trans hw216_3), ((HB.out.cell (World.block_lt_of_cell? w _ hw216_4)).trans hw216_4), ((HB.out.cell (World.block_lt_of_cell? w _ hw216_5)).trans hw216_5), ((HB.out.cell (World.block_lt_of_cell? w _ hw216_6)).trans hw216_6)⟩ (fun hHeld => ?_)
                 clear hK K
                 refine norm_ (a' := ?_) ?_ ?_
                 rotate_left
                 ·show Act.put _ (some 10) _ = _
                  simp only [Act.put, List.setIfInBounds_toArray, List.set_cons_zero, List.set_cons_succ, i64_w, i32_w]
                  rfl
                 refine one_ (i := 17) (N := none) #[true, true, true, true, true, true, true, true, true, true, true, true, true, true, true, true, true, true] rfl rfl (one_of HT_.out (by kernel_rfl)) (by decide) (fun K hK => ?_)
                 have hs47 : w46.cell? ⟨gb217, 0, none⟩ = some (.int .i64 0) := (blk_cell BK217.out 0).trans rfl
                 have hfs47 := blk_frozen BK217.out 0
                 have hs48 : w46.cell? ⟨gb217, 1, none⟩ = some (.int .i64 0) := (blk_cell BK217.out 1).trans rfl
                 have hfs48 := blk_frozen BK217.out 1
                 have hs49 : w46.cell? ⟨gb217, 2, none⟩ = some (.int .i64 0) := (blk_cell BK217.out 2).trans rfl
                 have hfs49 := blk_frozen BK217.out 2
                 have hs50 : w46.cell? ⟨gb217, 3, none⟩ = some (.int .i64 0) := (blk_cell BK217.out 3).trans rfl
                 have hfs50 := blk_frozen BK217.out 3
                 have hs51 : w46.cell? ⟨gb217, 4, none⟩ = some (.bool false) := (blk_cell BK217.out 4).trans rfl
                 have hfs51 := blk_frozen BK217.out 4
                 have hs52 : w46.cell? ⟨gb217, 5, none⟩ = some (.bool false) := (blk_cell BK217.out 5).trans rfl
                 have hfs52 := blk_frozen BK217.out 5
                 have hs53 : w46.cell? ⟨gb217, 6, none⟩ = some (.bool false) := (blk_cell BK217.out 6).trans rfl
                 have hfs53 := blk_frozen BK217.out 6
                 refine skip_ (w1 := ?_) (by rfl) rfl ?_ ?_
                 rotate_left
                 ·go_simp
                  rfl
                 refine hK.out _ _ ⟨((cell_far (p := ⟨gb217, _, none⟩) (by first | exact Nat.ne_of_lt (Nat.lt_of_lt_of_le (by have := World.block_lt_of_cell? _ _ hw214_0; first | rwa [add_block] at this | exact this) GW217.out) | ((first | rw [add_block] | (show (Addr.add _ _).block ≠ _; rw [add_block]) | dsimp only); exact Nat.ne_of_lt (Nat.lt_of_lt_of_le (by have := World.block_lt_of_cell? _ _ hw214_0; first | rwa [add_block] at this | exact this) GW217.out))) _).trans (((cell_far (p := ⟨gb217, _, none⟩) (by first | exact Nat.ne_of_lt (Nat.lt_of_lt_of_le (by have := World.block_lt_of_cell? _ _ hw214_0; first | rwa [add_block] at this | exact this) GW217.out) | ((first | rw [add_block] | (show (Addr.add _ _).block ≠ _; rw [add_block]) | dsimp only); exact Nat.ne_of_lt (Nat.lt_of_lt_of_le (by have := World.block_lt_of_cell? _ _ hw214_0; first | rwa [add_block] at this | exact this) GW217.out))) _).trans (((cell_far (p := ⟨gb217, _, none⟩) (by first | exact Nat.ne_of_lt (Nat.lt_of_lt_of_le (by have := World.block_lt_of_cell? _ _ hw214_0; first | rwa [add_block] at this | exact this) GW217.out) | ((first | rw [add_block] | (show (Addr.add _ _).block ≠ _; rw [add_block]) | dsimp only); exact Nat.ne_of_lt (Nat.lt_of_lt_of_le (by have := World.block_lt_of_cell? _ _ hw214_0; first | rwa [add_block] at this | exact this) GW217.out))) _).trans (((cell_far (p := ⟨gb217, _, none⟩) (by first | exact Nat.ne_of_lt (Nat.lt_of_lt_of_le (by have := World.block_lt_of_cell? _ _ hw214_0; first | rwa [add_block] at this | exact this) GW217.out) | ((first | rw [add_block] | (show (Addr.add _ _).block ≠ _; rw [add_block]) | dsimp only); exact Nat.ne_of_lt (Nat.lt_of_lt_of_le (by have := World.block_lt_of_cell? _ _ hw214_0; first | rwa [add_block] at this | exact this) GW217.out))) _).trans (((cell_far (p := ⟨gb217, _, none⟩) (by first | exact Nat.ne_of_lt (Nat.lt_of_lt_of_le (by have := World.block_lt_of_cell? _ _ hw214_0; first | rwa [add_block] at this | exact this) GW217.out) | ((first | rw [add_block] | (show (Addr.add _ _).block ≠ _; rw [add_block]) | dsimp only); exact Nat.ne_of_lt (Nat.lt_of_lt_of_le (by have := World.block_lt_of_cell? _ _ hw214_0; first | rwa [add_block] at this | exact this) GW217.out))) _).trans (((cell_far (p := ⟨gb217, _, none⟩) (by first | exact Nat.ne_of_lt (Nat.lt_of_lt_of_le (by have := World.block_lt_of_cell? _ _ hw214_0; first | rwa [add_block] at this | exact this) GW217.out) | ((first | rw [add_block] | (show (Addr.add _ _).block ≠ _; rw [add_block]) | dsimp only); exact Nat.ne_of_lt (Nat.lt_of_lt_of_le (by have := World.block_lt_of_cell? _ _ hw214_0; first | rwa [add_block] at this | exact this) GW217.out))) _).trans (((cell_far (p := ⟨gb217, _, none⟩) (by first | exact Nat.ne_of_lt (Nat.lt_of_lt_of_le (by have := World.block_lt_of_cell? _ _ hw214_0; first | rwa [add_block] at this | exact this) GW217.out) | ((first | rw [add_block] | (show (Addr.add _ _).block ≠ _; rw [add_block]) | dsimp only); exact Nat.ne_of_lt (Nat.lt_of_lt_of_le (by have := World.block_lt_of_cell? _ _ hw214_0; first | rwa [add_block] at this | exact this) GW217.out))) _).trans (hHeld.1)))))))))))))), ((cell_far (p := ⟨gb217, _, none⟩) (by first | exact Nat.ne_of_lt (Nat.lt_of_lt_of_le (by have := World.block_lt_of_cell? _ _ hw214_1; first | rwa [add_block] at this | exact this) GW217.out) | ((first | rw [add_block] | (show (Addr.add _ _).block ≠ _; rw [add_block]) | dsimp only); exact Nat.ne_of_lt (Nat.lt_of_lt_of_le (by have := World.block_lt_of_cell? _ _ hw214_1; first | rwa [add_block] at this | exact this) GW217.out))) _).trans (((cell_far (p := ⟨gb217, _, none⟩) (by first | exact Nat.ne_of_lt (Nat.lt_of_lt_of_le (by have := World.block_lt_of_cell? _ _ hw214_1; first | rwa [add_block] at this | exact this) GW217.out) | ((first | rw [add_block] | (show (Addr.add _ _).block ≠ _; rw [add_block]) | dsimp only); exact Nat.ne_of_lt (Nat.lt_of_lt_of_le (by have := World.block_lt_of_cell? _ _ hw214_1; first | rwa [add_block] at this | exact this) GW217.out))) _).trans (((cell_far (p := ⟨gb217, _, none⟩) (by first | exact Nat.ne_of_lt (Nat.lt_of_lt_of_le (by have := World.block_lt_of_cell? _ _ hw214_1; first | rwa [add_block] at this | exact this) GW217.out) | ((first | rw [add_block] | (show (Addr.add _ _).block ≠ _; rw [add_block]) | dsimp only); exact Nat.ne_of_lt (Nat.lt_of_lt_of_le (by have := World.block_lt_of_cell? _ _ hw214_1; first | rwa [add_block] at this | exact this) GW217.out))) _).trans (((cell_far (p := ⟨gb217, _, none⟩) (by first | exact Nat.ne_of_lt (Nat.lt_of_lt_of_le (by have := World.block_lt_of_cell? _ _ hw214_1; first | rwa [add_block] at this | exact this) GW217.out) | ((first | rw [add_block] | (show (Addr.add _ _).block ≠ _; rw [add_block]) | dsimp only); exact Nat.ne_of_lt (Nat.lt_of_lt_of_le (by have := World.block_lt_of_cell? _ _ hw214_1; first | rwa [add_block] at this | exact this) GW217.out))) _).trans (((cell_far (p := ⟨gb217, _, none⟩) (by first | exact Nat.ne_of_lt (Nat.lt_of_lt_of_le (by have := World.block_lt_of_cell? _ _ hw214_1; first | rwa [add_block] at this | exact this) GW217.out) | ((first | rw [add_block] | (show (Addr.add _ _).block ≠ _; rw [add_block]) | dsimp only); exact Nat.ne_of_lt (Nat.lt_of_lt_of_le (by have := World.block_lt_of_cell? _ _ hw214_1; first | rwa [add_block] at this | exact this) GW217.out))) _).trans (((cell_far (p := ⟨gb217, _, none⟩) (by first | exact Nat.ne_of_lt (Nat.lt_of_lt_of_le (by have := World.block_lt_of_cell? _ _ hw214_1; first | rwa [add_block] at this | exact this) GW217.out) | ((first | rw [add_block] | (show (Addr.add _ _).block ≠ _; rw [add_block]) | dsimp only); exact Nat.ne_of_lt (Nat.lt_of_lt_of_le (by have := World.block_lt_of_cell? _ _ hw214_1; first | rwa [add_block] at this | exact this) GW217.out))) _).trans (((cell_far (p := ⟨gb217, _, none⟩) (by first | exact Nat.ne_of_lt (Nat.lt_of_lt_of_le (by have := World.block_lt_of_cell? _ _ hw214_1; first | rwa [add_block] at this | exact this) GW217.out) | ((first | rw [add_block] | (show (Addr.add _ _).block ≠ _; rw [add_block]) | dsimp only); exact Nat.ne_of_lt (Nat.lt_of_lt_of_le (by have := World.block_lt_of_cell? _ _ hw214_1; first | rwa [add_block] at this | exact this) GW217.out))) _).trans (hHeld.2.1)))))))))))))), ((cell_far (p := ⟨gb217, _, none⟩) (by first | exact Nat.ne_of_lt (Nat.lt_of_lt_of_le (by have := World.block_lt_of_cell? _ _ hw214_2; first | rwa [add_block] at this | exact this) GW217.out) | ((first | rw [add_block] | (show (Addr.add _ _).block ≠ _; rw [add_block]) | dsimp only); exact Nat.ne_of_lt (Nat.lt_of_lt_of_le (by have := World.block_lt_of_cell? _ _ hw214_2; first | rwa [add_block] at this | exact this) GW217.out))) _).trans (((cell_far (p := ⟨gb217, _, none⟩) (by first | exact Nat.ne_of_lt (Nat.lt_of_lt_of_le (by have := World.block_lt_of_cell? _ _ hw214_2; first | rwa [add_block] at this | exact this) GW217.out) | ((first | rw [add_block] | (show (Addr.add _ _).block ≠ _; rw [add_block]) | dsimp only); exact Nat.ne_of_lt (Nat.lt_of_lt_of_le (by have := World.block_lt_of_cell? _ _ hw214_2; first | rwa [add_block] at this | exact this) GW217.out))) _).trans (((cell_far (p := ⟨gb217, _, none⟩) (by first | exact Nat.ne_of_lt (Nat.lt_of_lt_of_le (by have := World.block_lt_of_cell? _ _ hw214_2; first | rwa [add_block] at this | exact this) GW217.out) | ((first | rw [add_block] | (show (Addr.add _ _).block ≠ _; rw [add_block]) | dsimp only); exact Nat.ne_of_lt (Nat.lt_of_lt_of_le (by have := World.block_lt_of_cell? _ _ hw214_2; first | rwa [add_block] at this | exact this) GW217.out))) _).trans (((cell_far (p := ⟨gb217, _, none⟩) (by first | exact Nat.ne_of_lt (Nat.lt_of_lt_of_le (by have := World.block_lt_of_cell? _ _ hw214_2; first | rwa [add_block] at this | exact this) GW217.out) | ((first | rw [add_block] | (show (Addr.add _ _).block ≠ _; rw [add_block]) | dsimp only); exact Nat.ne_of_lt (Nat.lt_of_lt_of_le (by have := World.block_lt_of_cell? _ _ hw214_2; first | rwa [add_block] at this | exact this) GW217.out))) _).trans (((cell_far (p := ⟨gb217, _, none⟩) (by first | exact Nat.ne_of_lt (Nat.lt_of_lt_of_le (by have := World.block_lt_of_cell? _ _ hw214_2; first | rwa [add_block] at this | exact this) GW217.out) | ((first | rw [add_block] | (show (Addr.add _ _).block ≠ _; rw [add_block]) | dsimp only); exact Nat.ne_of_lt (Nat.lt_of_lt_of_le (by have := World.block_lt_of_cell? _ _ hw214_2; first | rwa [add_block] at this | exact this) GW217.out))) _).trans (((cell_far (p := ⟨gb217, _, none⟩) (by first | exact Nat.ne_of_lt (Nat.lt_of_lt_of_le (by have := World.block_lt_of_cell? _ _ hw214_2; first | rwa [add_block] at this | exact this) GW217.out) | ((first | rw [add_block] | (show (Addr.add _ _).block ≠ _; rw [add_block]) | dsimp only); exact Nat.ne_of_lt (Nat.lt_of_lt_of_le (by have := World.block_lt_of_cell? _ _ hw214_2; first | rwa [add_block] at this | exact this) GW217.out))) _).trans (((cell_far (p := ⟨gb217, _, none⟩) (by first | exact Nat.ne_of_lt (Nat.lt_of_lt_of_le (by have := World.block_lt_of_cell? _ _ hw214_2; first | rwa [add_block] at this | exact this) GW217.out) | ((first | rw [add_block] | (show (Addr.add _ _).block ≠ _; rw [add_block]) | dsimp only); exact Nat.ne_of_lt (Nat.lt_of_lt_of_le (by have := World.block_lt_of_cell? _ _ hw214_2; first | rwa [add_block] at this | exact this) GW217.out))) _).trans (hHeld.2.2.1)))))))))))))), ((cell_far (p := ⟨gb217, _, none⟩) (by first | exact Nat.ne_of_lt (Nat.lt_of_lt_of_le (by have := World.block_lt_of_cell? _ _ hw214_3; first | rwa [add_block] at this | exact this) GW217.out) | ((first | rw [add_block] | (show (Addr.add _ _).block ≠ _; rw [add_block]) | dsimp only); exact Nat.ne_of_lt (Nat.lt_of_lt_of_le (by have := World.block_lt_of_cell? _ _ hw214_3; first | rwa [add_block] at this | exact this) GW217.out))) _).trans (((cell_far (p := ⟨gb217, _, none⟩) (by first | exact Nat.ne_of_lt (Nat.lt_of_lt_of_le (by have := World.block_lt_of_cell? _ _ hw214_3; first | rwa [add_block] at this | exact this) GW217.out) | ((first | rw [add_block] | (show (Addr.add _ _).block ≠ _; rw [add_block]) | dsimp only); exact Nat.ne_of_lt (Nat.lt_of_lt_of_le (by have := World.block_lt_of_cell? _ _ hw214_3; first | rwa [add_block] at this | exact this) GW217.out))) _).trans (((cell_far (p := ⟨gb217, _, none⟩) (by first | exact Nat.ne_of_lt (Nat.lt_of_lt_of_le (by have := World.block_lt_of_cell? _ _ hw214_3; first | rwa [add_block] at this | exact this) GW217.out) | ((first | rw [add_block] | (show (Addr.add _ _).block ≠ _; rw [add_block]) | dsimp only); exact Nat.ne_of_lt (Nat.lt_of_lt_of_le (by have := World.block_lt_of_cell? _ _ hw214_3; first | rwa [add_block] at this | exact this) GW217.out))) _).trans (((cell_far (p := ⟨gb217, _, none⟩) (by first | exact Nat.ne_of_lt (Nat.lt_of_lt_of_le (by have := World.block_lt_of_cell? _ _ hw214_3; first | rwa [add_block] at this | exact this) GW217.out) | ((first | rw [add_block] | (show (Addr.add _ _).block ≠ _; rw [add_block]) | dsimp only); exact Nat.ne_of_lt (Nat.lt_of_lt_of_le (by have := World.block_lt_of_cell? _ _ hw214_3; first | rwa [add_block] at this | exact this) GW217.out))) _).trans (((cell_far (p := ⟨gb217, _, none⟩) (by first | exact Nat.ne_of_lt (Nat.lt_of_lt_of_le (by have := World.block_lt_of_cell? _ _ hw214_3; first | rwa [add_block] at this | exact this) GW217.out) | ((first | rw [add_block] | (show (Addr.add _ _).block ≠ _; rw [add_block]) | dsimp only); exact Nat.ne_of_lt (Nat.lt_of_lt_of_le (by have := World.block_lt_of_cell? _ _ hw214_3; first | rwa [add_block] at this | exact this) GW217.out))) _).trans (((cell_far (p := ⟨gb217, _, none⟩) (by first | exact Nat.ne_of_lt (Nat.lt_of_lt_of_le (by have := World.block_lt_of_cell? _ _ hw214_3; first | rwa [add_block] at this | exact this) GW217.out) | ((first | rw [add_block] | (show (Addr.add _ _).block ≠ _; rw [add_block]) | dsimp only); exact Nat.ne_of_lt (Nat.lt_of_lt_of_le (by have := World.block_lt_of_cell? _ _ hw214_3; first | rwa [add_block] at this | exact this) GW217.out))) _).trans (((cell_far (p := ⟨gb217, _, none⟩) (by first | exact Nat.ne_of_lt (Nat.lt_of_lt_of_le (by have := World.block_lt_of_cell? _ _ hw214_3; first | rwa [add_block] at this | exact this) GW217.out) | ((first | rw [add_block] | (show (Addr.add _ _).block ≠ _; rw [add_block]) | dsimp only); exact Nat.ne_of_lt (Nat.lt_of_lt_of_le (by have := World.block_lt_of_cell? _ _ hw214_3; first | rwa [add_block] at this | exact this) GW217.out))) _).trans (hHeld.2.2.2.1)))))))))))))), ((cell_far (p := ⟨gb217, _, none⟩) (by first | exact Nat.ne_of_lt (Nat.lt_of_lt_of_le (by have := World.block_lt_of_cell? _ _ hw214_4; first | rwa [add_block] at this | exact this) GW217.out) | ((first | rw [add_block] | (show (Addr.add _ _).block ≠ _; rw [add_block]) | dsimp only); exact Nat.ne_of_lt (Nat.lt_of_lt_of_le (by have := World.block_lt_of_cell? _ _ hw214_4; first | rwa [add_block] at this | exact this) GW217.out))) _).trans (((cell_far (p := ⟨gb217, _, none⟩) (by first | exact Nat.ne_of_lt (Nat.lt_of_lt_of_le (by have := World.block_lt_of_cell? _ _ hw214_4; first | rwa [add_block] at this | exact this) GW217.out) | ((first | rw [add_block] | (show (Addr.add _ _).block ≠ _; rw [add_block]) | dsimp only); exact Nat.ne_of_lt (Nat.lt_of_lt_of_le (by have := World.block_lt_of_cell? _ _ hw214_4; first | rwa [add_block] at this | exact this) GW217.out))) _).trans (((cell_far (p := ⟨gb217, _, none⟩) (by first | exact Nat.ne_of_lt (Nat.lt_of_lt_of_le (by have := World.block_lt_of_cell? _ _ hw214_4; first | rwa [add_block] at this | exact this) GW217.out) | ((first | rw [add_block] | (show (Addr.add _ _).block ≠ _; rw [add_block]) | dsimp only); exact Nat.ne_of_lt (Nat.lt_of_lt_of_le (by have := World.block_lt_of_cell? _ _ hw214_4; first | rwa [add_block] at this | exact this) GW217.out))) _).trans (((cell_far (p := ⟨gb217, _, none⟩) (by first | exact Nat.ne_of_lt (Nat.lt_of_lt_of_le (by have := World.block_lt_of_cell? _ _ hw214_4; first | rwa [add_block] at this | exact this) GW217.out) | ((first | rw [add_block] | (show (Addr.add _ _).block ≠ _; rw [add_block]) | dsimp only); exact Nat.ne_of_lt (Nat.lt_of_lt_of_le (by have := World.block_lt_of_cell? _ _ hw214_4; first | rwa [add_block] at this | exact this) GW217.out))) _).trans (((cell_far (p := ⟨gb217, _, none⟩) (by first | exact Nat.ne_of_lt (Nat.lt_of_lt_of_le (by have := World.block_lt_of_cell? _ _ hw214_4; first | rwa [add_block] at this | exact this) GW217.out) | ((first | rw [add_block] | (show (Addr.add _ _).block ≠ _; rw [add_block]) | dsimp only); exact Nat.ne_of_lt (Nat.lt_of_lt_of_le (by have := World.block_lt_of_cell? _ _ hw214_4; first | rwa [add_block] at this | exact this) GW217.out))) _).trans (((cell_far (p := ⟨gb217, _, none⟩) (by first | exact Nat.ne_of_lt (Nat.lt_of_lt_of_le (by have := World.block_lt_of_cell? _ _ hw214_4; first | rwa [add_block] at this | exact this) GW217.out) | ((first | rw [add_block] | (show (Addr.add _ _).block ≠ _; rw [add_block]) | dsimp only); exact Nat.ne_of_lt (Nat.lt_of_lt_of_le (by have := World.block_lt_of_cell? _ _ hw214_4; first | rwa [add_block] at this | exact this) GW217.out))) _).trans (((cell_far (p := ⟨gb217, _, none⟩) (by first | exact Nat.ne_of_lt (Nat.lt_of_lt_of_le (by have := World.block_lt_of_cell? _ _ hw214_4; first | rwa [add_block] at this | exact this) GW217.out) | ((first | rw [add_block] | (show (Addr.add _ _).block ≠ _; rw [add_block]) | dsimp only); exact Nat.ne_of_lt (Nat.lt_of_lt_of_le (by have := World.block_lt_of_cell? _ _ hw214_4; first | rwa [add_block] at this | exact this) GW217.out))) _).trans (hHeld.2.2.2.2.1)))))))))))))), ((cell_far (p := ⟨gb217, _, none⟩) (by first | exact Nat.ne_of_lt (Nat.lt_of_lt_of_le (by have := World.block_lt_of_cell? _ _ hw214_5; first | rwa [add_block] at this | exact this) GW217.out) | ((first | rw [add_block] | (show (Addr.add _ _).block ≠ _; rw [add_block]) | dsimp only); exact Nat.ne_of_lt (Nat.lt_of_lt_of_le (by have := World.block_lt_of_cell? _ _ hw214_5; first | rwa [add_block] at this | exact this) GW217.out))) _).trans (((cell_far (p := ⟨gb217, _, none⟩) (by first | exact Nat.ne_of_lt (Nat.lt_of_lt_of_le (by have := World.block_lt_of_cell? _ _ hw214_5; first | rwa [add_block] at this | exact this) GW217.out) | ((first | rw [add_block] | (show (Addr.add _ _).block ≠ _; rw [add_block]) | dsimp only); exact Nat.ne_of_lt (Nat.lt_of_lt_of_le (by have := World.block_lt_of_cell? _ _ hw214_5; first | rwa [add_block] at this | exact this) GW217.out))) _).trans (((cell_far (p := ⟨gb217, _, none⟩) (by first | exact Nat.ne_of_lt (Nat.lt_of_lt_of_le (by have := World.block_lt_of_cell? _ _ hw214_5; first | rwa [add_block] at this | exact this) GW217.out) | ((first | rw [add_block] | (show (Addr.add _ _).block ≠ _; rw [add_block]) | dsimp only); exact Nat.ne_of_lt (Nat.lt_of_lt_of_le (by have := World.block_lt_of_cell? _ _ hw214_5; first | rwa [add_block] at this | exact this) GW217.out))) _).trans (((cell_far (p := ⟨gb217, _, none⟩) (by first | exact Nat.ne_of_lt (Nat.lt_of_lt_of_le (by have := World.block_lt_of_cell? _ _ hw214_5; first | rwa [add_block] at this | exact this) GW217.out) | ((first | rw [add_block] | (show (Addr.add _ _).block ≠ _; rw [add_block]) | dsimp only); exact Nat.ne_of_lt (Nat.lt_of_lt_of_le (by have := World.block_lt_of_cell? _ _ hw214_5; first | rwa [add_block] at this | exact this) GW217.out))) _).trans (((cell_far (p := ⟨gb217, _, none⟩) (by first | exact Nat.ne_of_lt (Nat.lt_of_lt_of_le (by have := World.block_lt_of_cell? _ _ hw214_5; first | rwa [add_block] at this | exact this) GW217.out) | ((first | rw [add_block] | (show (Addr.add _ _).block ≠ _; rw [add_block]) | dsimp only); exact Nat.ne_of_lt (Nat.lt_of_lt_of_le (by have := World.block_lt_of_cell? _ _ hw214_5; first | rwa [add_block] at this | exact this) GW217.out))) _).trans (((cell_far (p := ⟨gb217, _, none⟩) (by first | exact Nat.ne_of_lt (Nat.lt_of_lt_of_le (by have := World.block_lt_of_cell? _ _ hw214_5; first | rwa [add_block] at this | exact this) GW217.out) | ((first | rw [add_block] | (show (Addr.add _ _).block ≠ _; rw [add_block]) | dsimp only); exact Nat.ne_of_lt (Nat.lt_of_lt_of_le (by have := World.block_lt_of_cell? _ _ hw214_5; first | rwa [add_block] at this | exact this) GW217.out))) _).trans (((cell_far (p := ⟨gb217, _, none⟩) (by first | exact Nat.ne_of_lt (Nat.lt_of_lt_of_le (by have := World.block_lt_of_cell? _ _ hw214_5; first | rwa [add_block] at this | exact this) GW217.out) | ((first | rw [add_block] | (show (Addr.add _ _).block ≠ _; rw [add_block]) | dsimp only); exact Nat.ne_of_lt (Nat.lt_of_lt_of_le (by have := World.block_lt_of_cell? _ _ hw214_5; first | rwa [add_block] at this | exact this) GW217.out))) _).trans (hHeld.2.2.2.2.2.1)))))))))))))), ((cell_far (p := ⟨gb217, _, none⟩) (by first | exact Nat.ne_of_lt (Nat.lt_of_lt_of_le (by have := World.block_lt_of_cell? _ _ hw214_6; first | rwa [add_block] at this | exact this) GW217.out) | ((first | rw [add_block] | (show (Addr.add _ _).block ≠ _; rw [add_block]) | dsimp only); exact Nat.ne_of_lt (Nat.lt_of_lt_of_le (by have := World.block_lt_of_cell? _ _ hw214_6; first | rwa [add_block] at this | exact this) GW217.out))) _).trans (((cell_far (p := ⟨gb217, _, none⟩) (by first | exact Nat.ne_of_lt (Nat.lt_of_lt_of_le (by have := World.block_lt_of_cell? _ _ hw214_6; first | rwa [add_block] at this | exact this) GW217.out) | ((first | rw [add_block] | (show (Addr.add _ _).block ≠ _; rw [add_block]) | dsimp only); exact Nat.ne_of_lt (Nat.lt_of_lt_of_le (by have := World.block_lt_of_cell? _ _ hw214_6; first | rwa [add_block] at this | exact this) GW217.out))) _).trans (((cell_far (p := ⟨gb217, _, none⟩) (by first | exact Nat.ne_of_lt (Nat.lt_of_lt_of_le (by have := World.block_lt_of_cell? _ _ hw214_6; first | rwa [add_block] at this | exact this) GW217.out) | ((first | rw [add_block] | (show (Addr.add _ _).block ≠ _; rw [add_block]) | dsimp only); exact Nat.ne_of_lt (Nat.lt_of_lt_of_le (by have := World.block_lt_of_cell? _ _ hw214_6; first | rwa [add_block] at this | exact this) GW217.out))) _).trans (((cell_far (p := ⟨gb217, _, none⟩) (by first | exact Nat.ne_of_lt (Nat.lt_of_lt_of_le (by have := World.block_lt_of_cell? _ _ hw214_6; first | rwa [add_block] at this | exact this) GW217.out) | ((first | rw [add_block] | (show (Addr.add _ _).block ≠ _; rw [add_block]) | dsimp only); exact Nat.ne_of_lt (Nat.lt_of_lt_of_le (by have := World.block_lt_of_cell? _ _ hw214_6; first | rwa [add_block] at this | exact this) GW217.out))) _).trans (((cell_far (p := ⟨gb217, _, none⟩) (by first | exact Nat.ne_of_lt (Nat.lt_of_lt_of_le (by have := World.block_lt_of_cell? _ _ hw214_6; first | rwa [add_block] at this | exact this) GW217.out) | ((first | rw [add_block] | (show (Addr.add _ _).block ≠ _; rw [add_block]) | dsimp only); exact Nat.ne_of_lt (Nat.lt_of_lt_of_le (by have := World.block_lt_of_cell? _ _ hw214_6; first | rwa [add_block] at this | exact this) GW217.out))) _).trans (((cell_far (p := ⟨gb217, _, none⟩) (by first | exact Nat.ne_of_lt (Nat.lt_of_lt_of_le (by have := World.block_lt_of_cell? _ _ hw214_6; first | rwa [add_block] at this | exact this) GW217.out) | ((first | rw [add_block] | (show (Addr.add _ _).block ≠ _; rw [add_block]) | dsimp only); exact Nat.ne_of_lt (Nat.lt_of_lt_of_le (by have := World.block_lt_of_cell? _ _ hw214_6; first | rwa [add_block] at this | exact this) GW217.out))) _).trans (((cell_far (p := ⟨gb217, _, none⟩) (by first | exact Nat.ne_of_lt (Nat.lt_of_lt_of_le (by have := World.block_lt_of_cell? _ _ hw214_6; first | rwa [add_block] at this | exact this) GW217.out) | ((first | rw [add_block] | (show (Addr.add _ _).block ≠ _; rw [add_block]) | dsimp only); exact Nat.ne_of_lt (Nat.lt_of_lt_of_le (by have := World.block_lt_of_cell? _ _ hw214_6; first | rwa [add_block] at this | exact this) GW217.out))) _).trans (hHeld.2.2.2.2.2.2.1)))))))))))))), ((cell_far (p := ⟨gb217, _, none⟩) (by first | exact Nat.ne_of_lt (Nat.lt_of_lt_of_le (by have := World.block_lt_of_cell? _ _ hw215_0; first | rwa [add_block] at this | exact this) GW217.out) | ((first | rw [add_block] | (show (Addr.add _ _).block ≠ _; rw [add_block]) | dsimp only); exact Nat.ne_of_lt (Nat.lt_of_lt_of_le (by have := World.block_lt_of_cell? _ _ hw215_0; first | rwa [add_block] at this | exact this) GW217.out))) _).trans (((cell_far (p := ⟨gb217, _, none⟩) (by first | exact Nat.ne_of_lt (Nat.lt_of_lt_of_le (by have := World.block_lt_of_cell? _ _ hw215_0; first | rwa [add_block] at this | exact this) GW217.out) | ((first | rw [add_block] | (show (Addr.add _ _).block ≠ _; rw [add_block]) | dsimp only); exact Nat.ne_of_lt (Nat.lt_of_lt_of_le (by have := World.block_lt_of_cell? _ _ hw215_0; first | rwa [add_block] at this | exact this) GW217.out))) _).trans (((cell_far (p := ⟨gb217, _, none⟩) (by first | exact Nat.ne_of_lt (Nat.lt_of_lt_of_le (by have := World.block_lt_of_cell? _ _ hw215_0; first | rwa [add_block] at this | exact this) GW217.out) | ((first | rw [add_block] | (show (Addr.add _ _).block ≠ _; rw [add_block]) | dsimp only); exact Nat.ne_of_lt (Nat.lt_of_lt_of_le (by have := World.block_lt_of_cell? _ _ hw215_0; first | rwa [add_block] at this | exact this) GW217.out))) _).trans (((cell_far (p := ⟨gb217, _, none⟩) (by first | exact Nat.ne_of_lt (Nat.lt_of_lt_of_le (by have := World.block_lt_of_cell? _ _ hw215_0; first | rwa [add_block] at this | exact this) GW217.out) | ((first | rw [add_block] | (show (Addr.add _ _).block ≠ _; rw [add_block]) | dsimp only); exact Nat.ne_of_lt (Nat.lt_of_lt_of_le (by have := World.block_lt_of_cell? _ _ hw215_0; first | rwa [add_block] at this | exact this) GW217.out))) _).trans (((cell_far (p := ⟨gb217, _, none⟩) (by first | exact Nat.ne_of_lt (Nat.lt_of_lt_of_le (by have := World.block_lt_of_cell? _ _ hw215_0; first | rwa [add_block] at this | exact this) GW217.out) | ((first | rw [add_block] | (show (Addr.add _ _).block ≠ _; rw [add_block]) | dsimp only); exact Nat.ne_of_lt (Nat.lt_of_lt_of_le (by have := World.block_lt_of_cell? _ _ hw215_0; first | rwa [add_block] at this | exact this) GW217.out))) _).trans (((cell_far (p := ⟨gb217, _, none⟩) (by first | exact Nat.ne_of_lt (Nat.lt_of_lt_of_le (by have := World.block_lt_of_cell? _ _ hw215_0; first | rwa [add_block] at this | exact this) GW217.out) | ((first | rw [add_block] | (show (Addr.add _ _).block ≠ _; rw [add_block]) | dsimp only); exact Nat.ne_of_lt (Nat.lt_of_lt_of_le (by have := World.block_lt_of_cell? _ _ hw215_0; first | rwa [add_block] at this | exact this) GW217.out))) _).trans (((cell_far (p := ⟨gb217, _, none⟩) (by first | exact Nat.ne_of_lt (Nat.lt_of_lt_of_le (by have := World.block_lt_of_cell? _ _ hw215_0; first | rwa [add_block] at this | exact this) GW217.out) | ((first | rw [add_block] | (show (Addr.add _ _).block ≠ _; rw [add_block]) | dsimp only); exact Nat.ne_of_lt (Nat.lt_of_lt_of_le (by have := World.block_lt_of_cell? _ _ hw215_0; first | rwa [add_block] at this | exact this) GW217.out))) _).trans (hHeld.2.2.2.2.2.2.2.1)))))))))))))), ((cell_far (p := ⟨gb217, _, none⟩) (by first | exact Nat.ne_of_lt (Nat.lt_of_lt_of_le (by have := World.block_lt_of_cell? _ _ hw215_1; first | rwa [add_block] at this | exact this) GW217.out) | ((first | rw [add_block] | (show (Addr.add _ _).block ≠ _; rw [add_block]) | dsimp only); exact Nat.ne_of_lt (Nat.lt_of_lt_of_le (by have := World.block_lt_of_cell? _ _ hw215_1; first | rwa [add_block] at this | exact this) GW217.out))) _).trans (((cell_far (p := ⟨gb217, _, none⟩) (by first | exact Nat.ne_of_lt (Nat.lt_of_lt_of_le (by have := World.block_lt_of_cell? _ _ hw215_1; first | rwa [add_block] at this | exact this) GW217.out) | ((first | rw [add_block] | (show (Addr.add _ _).block ≠ _; rw [add_block]) | dsimp only); exact Nat.ne_of_lt (Nat.lt_of_lt_of_le (by have := World.block_lt_of_cell? _ _ hw215_1; first | rwa [add_block] at this | exact this) GW217.out))) _).trans (((cell_far (p := ⟨gb217, _, none⟩) (by first | exact Nat.ne_of_lt (Nat.lt_of_lt_of_le (by have := World.block_lt_of_cell? _ _ hw215_1; first | rwa [add_block] at this | exact this) GW217.out) | ((first | rw [add_block] | (show (Addr.add _ _).block ≠ _; rw [add_block]) | dsimp only); exact Nat.ne_of_lt (Nat.lt_of_lt_of_le (by have := World.block_lt_of_cell? _ _ hw215_1; first | rwa [add_block] at this | exact this) GW217.out))) _).trans (((cell_far (p := ⟨gb217, _, none⟩) (by first | exact Nat.ne_of_lt (Nat.lt_of_lt_of_le (by have := World.block_lt_of_cell? _ _ hw215_1; first | rwa [add_block] at this | exact this) GW217.out) | ((first | rw [add_block] | (show (Addr.add _ _).block ≠ _; rw [add_block]) | dsimp only); exact Nat.ne_of_lt (Nat.lt_of_lt_of_le (by have := World.block_lt_of_cell? _ _ hw215_1; first | rwa [add_block] at this | exact this) GW217.out))) _).trans (((cell_far (p := ⟨gb217, _, none⟩) (by first | exact Nat.ne_of_lt (Nat.lt_of_lt_of_le (by have := World.block_lt_of_cell? _ _ hw215_1; first | rwa [add_block] at this | exact this) GW217.out) | ((first | rw [add_block] | (show (Addr.add _ _).block ≠ _; rw [add_block]) | dsimp only); exact Nat.ne_of_lt (Nat.lt_of_lt_of_le (by have := World.block_lt_of_cell? _ _ hw215_1; first | rwa [add_block] at this | exact this) GW217.out))) _).trans (((cell_far (p := ⟨gb217, _, none⟩) (by first | exact Nat.ne_of_lt (Nat.lt_of_lt_of_le (by have := World.block_lt_of_cell? _ _ hw215_1; first | rwa [add_block] at this | exact this) GW217.out) | ((first | rw [add_block] | (show (Addr.add _ _).block ≠ _; rw [add_block]) | dsimp only); exact Nat.ne_of_lt (Nat.lt_of_lt_of_le (by have := World.block_lt_of_cell? _ _ hw215_1; first | rwa [add_block] at this | exact this) GW217.out))) _).trans (((cell_far (p := ⟨gb217, _, none⟩) (by first | exact Nat.ne_of_lt (Nat.lt_of_lt_of_le (by have := World.block_lt_of_cell? _ _ hw215_1; first | rwa [add_block] at this | exact this) GW217.out) | ((first | rw [add_block] | (show (Addr.add _ _).block ≠ _; rw [add_block]) | dsimp only); exact Nat.ne_of_lt (Nat.lt_of_lt_of_le (by have := World.block_lt_of_cell? _ _ hw215_1; first | rwa [add_block] at this | exact this) GW217.out))) _).trans (hHeld.2.2.2.2.2.2.2.2.1)))))))))))))), ((cell_far (p := ⟨gb217, _, none⟩) (by first | exact Nat.ne_of_lt (Nat.lt_of_lt_of_le (by have := World.block_lt_of_cell? _ _ hw215_2; first | rwa [add_block] at this | exact this) GW217.out) | ((first | rw [add_block] | (show (Addr.add _ _).block ≠ _; rw [add_block]) | dsimp only); exact Nat.ne_of_lt (Nat.lt_of_lt_of_le (by have := World.block_lt_of_cell? _ _ hw215_2; first | rwa [add_block] at this | exact this) GW217.out))) _).trans (((cell_far (p := ⟨gb217, _, none⟩) (by first | exact Nat.ne_of_lt (Nat.lt_of_lt_of_le (by have := World.block_lt_of_cell? _ _ hw215_2; first | rwa [add_block] at this | exact this) GW217.out) | ((first | rw [add_block] | (show (Addr.add _ _).block ≠ _; rw [add_block]) | dsimp only); exact Nat.ne_of_lt (Nat.lt_of_lt_of_le (by have := World.block_lt_of_cell? _ _ hw215_2; first | rwa [add_block] at this | exact this) GW217.out))) _).trans (((cell_far (p := ⟨gb217, _, none⟩) (by first | exact Nat.ne_of_lt (Nat.lt_of_lt_of_le (by have := World.block_lt_of_cell? _ _ hw215_2; first | rwa [add_block] at this | exact this) GW217.out) | ((first | rw [add_block] | (show (Addr.add _ _).block ≠ _; rw [add_block]) | dsimp only); exact Nat.ne_of_lt (Nat.lt_of_lt_of_le (by have := World.block_lt_of_cell? _ _ hw215_2; first | rwa [add_block] at this | exact this) GW217.out))) _).trans (((cell_far (p := ⟨gb217, _, none⟩) (by first | exact Nat.ne_of_lt (Nat.lt_of_lt_of_le (by have := World.block_lt_of_cell? _ _ hw215_2; first | rwa [add_block] at this | exact this) GW217.out) | ((first | rw [add_block] | (show (Addr.add _ _).block ≠ _; rw [add_block]) | dsimp only); exact Nat.ne_of_lt (Nat.lt_of_lt_of_le (by have := World.block_lt_of_cell? _ _ hw215_2; first | rwa [add_block] at this | exact this) GW217.out))) _).trans (((cell_far (p := ⟨gb217, _, none⟩) (by first | exact Nat.ne_of_lt (Nat.lt_of_lt_of_le (by have := World.block_lt_of_cell? _ _ hw215_2; first | rwa [add_block] at this | exact this) GW217.out) | ((first | rw [add_block] | (show (Addr.add _ _).block ≠ _; rw [add_block]) | dsimp only); exact Nat.ne_of_lt (Nat.lt_of_lt_of_le (by have := World.block_lt_of_cell? _ _ hw215_2; first | rwa [add_block] at this | exact this) GW217.out))) _).trans (((cell_far (p := ⟨gb217, _, none⟩) (by first | exact Nat.ne_of_lt (Nat.lt_of_lt_of_le (by have := World.block_lt_of_cell? _ _ hw215_2; first | rwa [add_block] at this | exact this) GW217.out) | ((first | rw [add_block] | (show (Addr.add _ _).block ≠ _; rw [add_block]) | dsimp only); exact Nat.ne_of_lt (Nat.lt_of_lt_of_le (by have := World.block_lt_of_cell? _ _ hw215_2; first | rwa [add_block] at this | exact this) GW217.out))) _).trans (((cell_far (p := ⟨gb217, _, none⟩) (by first | exact Nat.ne_of_lt (Nat.lt_of_lt_of_le (by have := World.block_lt_of_cell? _ _ hw215_2; first | rwa [add_block] at this | exact this) GW217.out) | ((first | rw [add_block] | (show (Addr.add _ _).block ≠ _; rw [add_block]) | dsimp only); exact Nat.ne_of_lt (Nat.lt_of_lt_of_le (by have := World.block_lt_of_cell? _ _ hw215_2; first | rwa [add_block] at this | exact this) GW217.out))) _).trans (hHeld.2.2.2.2.2.2.2.2.2.1)))))))))))))), ((cell_far (p := ⟨gb217, _, none⟩) (by first | exact Nat.ne_of_lt (Nat.lt_of_lt_of_le (by have := World.block_lt_of_cell? _ _ hw215_3; first | rwa [add_block] at this | exact this) GW217.out) | ((first | rw [add_block] | (show (Addr.add _ _).block ≠ _; rw [add_block]) | dsimp only); exact Nat.ne_of_lt (Nat.lt_of_lt_of_le (by have := World.block_lt_of_cell? _ _ hw215_3; first | rwa [add_block] at this | exact this) GW217.out))) _).trans (((cell_far (p := ⟨gb217, _, none⟩) (by first | exact Nat.ne_of_lt (Nat.lt_of_lt_of_le (by have := World.block_lt_of_cell? _ _ hw215_3; first | rwa [add_block] at this | exact this) GW217.out) | ((first | rw [add_block] | (show (Addr.add _ _).block ≠ _; rw [add_block]) | dsimp only); exact Nat.ne_of_lt (Nat.lt_of_lt_of_le (by have := World.block_lt_of_cell? _ _ hw215_3; first | rwa [add_block] at this | exact this) GW217.out))) _).trans (((cell_far (p := ⟨gb217, _, none⟩) (by first | exact Nat.ne_of_lt (Nat.lt_of_lt_of_le (by have := World.block_lt_of_cell? _ _ hw215_3; first | rwa [add_block] at this | exact this) GW217.out) | ((first | rw [add_block] | (show (Addr.add _ _).block ≠ _; rw [add_block]) | dsimp only); exact Nat.ne_of_lt (Nat.lt_of_lt_of_le (by have := World.block_lt_of_cell? _ _ hw215_3; first | rwa [add_block] at this | exact this) GW217.out))) _).trans (((cell_far (p := ⟨gb217, _, none⟩) (by first | exact Nat.ne_of_lt (Nat.lt_of_lt_of_le (by have := World.block_lt_of_cell? _ _ hw215_3; first | rwa [add_block] at this | exact this) GW217.out) | ((first | rw [add_block] | (show (Addr.add _ _).block ≠ _; rw [add_block]) | dsimp only); exact Nat.ne_of_lt (Nat.lt_of_lt_of_le (by have := World.block_lt_of_cell? _ _ hw215_3; first | rwa [add_block] at this | exact this) GW217.out))) _).trans (((cell_far (p := ⟨gb217, _, none⟩) (by first | exact Nat.ne_of_lt (Nat.lt_of_lt_of_le (by have := World.block_lt_of_cell? _ _ hw215_3; first | rwa [add_block] at this | exact this) GW217.out) | ((first | rw [add_block] | (show (Addr.add _ _).block ≠ _; rw [add_block]) | dsimp only); exact Nat.ne_of_lt (Nat.lt_of_lt_of_le (by have := World.block_lt_of_cell? _ _ hw215_3; first | rwa [add_block] at this | exact this) GW217.out))) _).trans (((cell_far (p := ⟨gb217, _, none⟩) (by first | exact Nat.ne_of_lt (Nat.lt_of_lt_of_le (by have := World.block_lt_of_cell? _ _ hw215_3; first | rwa [add_block] at this | exact this) GW217.out) | ((first | rw [add_block] | (show (Addr.add _ _).block ≠ _; rw [add_block]) | dsimp only); exact Nat.ne_of_lt (Nat.lt_of_lt_of_le (by have := World.block_lt_of_cell? _ _ hw215_3; first | rwa [add_block] at this | exact this) GW217.out))) _).trans (((cell_far (p := ⟨gb217, _, none⟩) (by first | exact Nat.ne_of_lt (Nat.lt_of_lt_of_le (by have := World.block_lt_of_cell? _ _ hw215_3; first | rwa [add_block] at this | exact this) GW217.out) | ((first | rw [add_block] | (show (Addr.add _ _).block ≠ _; rw [add_block]) | dsimp only); exact Nat.ne_of_lt (Nat.lt_of_lt_of_le (by have := World.block_lt_of_cell? _ _ hw215_3; first | rwa [add_block] at this | exact this) GW217.out))) _).trans (hHeld.2.2.2.2.2.2.2.2.2.2.1)))))))))))))), ((cell_far (p := ⟨gb217, _, none⟩) (by first | exact Nat.ne_of_lt (Nat.lt_of_lt_of_le (by have := World.block_lt_of_cell? _ _ hw215_4; first | rwa [add_block] at this | exact this) GW217.out) | ((first | rw [add_block] | (show (Addr.add _ _).block ≠ _; rw [add_block]) | dsimp only); exact Nat.ne_of_lt (Nat.lt_of_lt_of_le (by have := World.block_lt_of_cell? _ _ hw215_4; first | rwa [add_block] at this | exact this) GW217.out))) _).trans (((cell_far (p := ⟨gb217, _, none⟩) (by first | exact Nat.ne_of_lt (Nat.lt_of_lt_of_le (by have := World.block_lt_of_cell? _ _ hw215_4; first | rwa [add_block] at this | exact this) GW217.out) | ((first | rw [add_block] | (show (Addr.add _ _).block ≠ _; rw [add_block]) | dsimp only); exact Nat.ne_of_lt (Nat.lt_of_lt_of_le (by have := World.block_lt_of_cell? _ _ hw215_4; first | rwa [add_block] at this | exact this) GW217.out))) _).trans (((cell_far (p := ⟨gb217, _, none⟩) (by first | exact Nat.ne_of_lt (Nat.lt_of_lt_of_le (by have := World.block_lt_of_cell? _ _ hw215_4; first | rwa [add_block] at this | exact this) GW217.out) | ((first | rw [add_block] | (show (Addr.add _ _).block ≠ _; rw [add_block]) | dsimp only); exact Nat.ne_of_lt (Nat.lt_of_lt_of_le (by have := World.block_lt_of_cell? _ _ hw215_4; first | rwa [add_block] at this | exact this) GW217.out))) _).trans (((cell_far (p := ⟨gb217, _, none⟩) (by first | exact Nat.ne_of_lt (Nat.lt_of_lt_of_le (by have := World.block_lt_of_cell? _ _ hw215_4; first | rwa [add_block] at this | exact this) GW217.out) | ((first | rw [add_block] | (show (Addr.add _ _).block ≠ _; rw [add_block]) | dsimp only); exact Nat.ne_of_lt (Nat.lt_of_lt_of_le (by have := World.block_lt_of_cell? _ _ hw215_4; first | rwa [add_block] at this | exact this) GW217.out))) _).trans (((cell_far (p := ⟨gb217, _, none⟩) (by first | exact Nat.ne_of_lt (Nat.lt_of_lt_of_le (by have := World.block_lt_of_cell? _ _ hw215_4; first | rwa [add_block] at this | exact this) GW217.out) | ((first | rw [add_block] | (show (Addr.add _ _).block ≠ _; rw [add_block]) | dsimp only); exact Nat.ne_of_lt (Nat.lt_of_lt_of_le (by have := World.block_lt_of_cell? _ _ hw215_4; first | rwa [add_block] at this | exact this) GW217.out))) _).trans (((cell_far (p := ⟨gb217, _, none⟩) (by first | exact Nat.ne_of_lt (Nat.lt_of_lt_of_le (by have := World.block_lt_of_cell? _ _ hw215_4; first | rwa [add_block] at this | exact this) GW217.out) | ((first | rw [add_block] | (show (Addr.add _ _).block ≠ _; rw [add_block]) | dsimp only); exact Nat.ne_of_lt (Nat.lt_of_lt_of_le (by have := World.block_lt_of_cell? _ _ hw215_4; first | rwa [add_block] at this | exact this) GW217.out))) _).trans (((cell_far (p := ⟨gb217, _, none⟩) (by first | exact Nat.ne_of_lt (Nat.lt_of_lt_of_le (by have := World.block_lt_of_cell? _ _ hw215_4; first | rwa [add_block] at this | exact this) GW217.out) | ((first | rw [add_block] | (show (Addr.add _ _).block ≠ _; rw [add_block]) | dsimp only); exact Nat.ne_of_lt (Nat.lt_of_lt_of_le (by have := World.block_lt_of_cell? _ _ hw215_4; first | rwa [add_block] at this | exact this) GW217.out))) _).trans (hHeld.2.2.2.2.2.2.2.2.2.2.2.1)))))))))))))), ((cell_far (p := ⟨gb217, _, none⟩) (by first | exact Nat.ne_of_lt (Nat.lt_of_lt_of_le (by have := World.block_lt_of_cell? _ _ hw215_5; first | rwa [add_block] at this | exact this) GW217.out) | ((first | rw [add_block] | (show (Addr.add _ _).block ≠ _; rw [add_block]) | dsimp only); exact Nat.ne_of_lt (Nat.lt_of_lt_of_le (by have := World.block_lt_of_cell? _ _ hw215_5; first | rwa [add_block] at this | exact this) GW217.out))) _).trans (((cell_far (p := ⟨gb217, _, none⟩) (by first | exact Nat.ne_of_lt (Nat.lt_of_lt_of_le (by have := World.block_lt_of_cell? _ _ hw215_5; first | rwa [add_block] at this | exact this) GW217.out) | ((first | rw [add_block] | (show (Addr.add _ _).block ≠ _; rw [add_block]) | dsimp only); exact Nat.ne_of_lt (Nat.lt_of_lt_of_le (by have := World.block_lt_of_cell? _ _ hw215_5; first | rwa [add_block] at this | exact this) GW217.out))) _).trans (((cell_far (p := ⟨gb217, _, none⟩) (by first | exact Nat.ne_of_lt (Nat.lt_of_lt_of_le (by have := World.block_lt_of_cell? _ _ hw215_5; first | rwa [add_block] at this | exact this) GW217.out) | ((first | rw [add_block] | (show (Addr.add _ _).block ≠ _; rw [add_block]) | dsimp only); exact Nat.ne_of_lt (Nat.lt_of_lt_of_le (by have := World.block_lt_of_cell? _ _ hw215_5; first | rwa [add_block] at this | exact this) GW217.out))) _).trans (((cell_far (p := ⟨gb217, _, none⟩) (by first | exact Nat.ne_of_lt (Nat.lt_of_lt_of_le (by have := World.block_lt_of_cell? _ _ hw215_5; first | rwa [add_block] at this | exact this) GW217.out) | ((first | rw [add_block] | (show (Addr.add _ _).block ≠ _; rw [add_block]) | dsimp only); exact Nat.ne_of_lt (Nat.lt_of_lt_of_le (by have := World.block_lt_of_cell? _ _ hw215_5; first | rwa [add_block] at this | exact this) GW217.out))) _).trans (((cell_far (p := ⟨gb217, _, none⟩) (by first | exact Nat.ne_of_lt (Nat.lt_of_lt_of_le (by have := World.block_lt_of_cell? _ _ hw215_5; first | rwa [add_block] at this | exact this) GW217.out) | ((first | rw [add_block] | (show (Addr.add _ _).block ≠ _; rw [add_block]) | dsimp only); exact Nat.ne_of_lt (Nat.lt_of_lt_of_le (by have := World.block_lt_of_cell? _ _ hw215_5; first | rwa [add_block] at this | exact this) GW217.out))) _).trans (((cell_far (p := ⟨gb217, _, none⟩) (by first | exact Nat.ne_of_lt (Nat.lt_of_lt_of_le (by have := World.block_lt_of_cell? _ _ hw215_5; first | rwa [add_block] at this | exact this) GW217.out) | ((first | rw [add_block] | (show (Addr.add _ _).block ≠ _; rw [add_block]) | dsimp only); exact Nat.ne_of_lt (Nat.lt_of_lt_of_le (by have := World.block_lt_of_cell? _ _ hw215_5; first | rwa [add_block] at this | exact this) GW217.out))) _).trans (((cell_far (p := ⟨gb217, _, none⟩) (by first | exact Nat.ne_of_lt (Nat.lt_of_lt_of_le (by have := World.block_lt_of_cell? _ _ hw215_5; first | rwa [add_block] at this | exact this) GW217.out) | ((first | rw [add_block] | (show (Addr.add _ _).block ≠ _; rw [add_block]) | dsimp only); exact Nat.ne_of_lt (Nat.lt_of_lt_of_le (by have := World.block_lt_of_cell? _ _ hw215_5; first | rwa [add_block] at this | exact this) GW217.out))) _).trans (hHeld.2.2.2.2.2.2.2.2.2.2.2.2.1)))))))))))))), ((cell_far (p := ⟨gb217, _, none⟩) (by first | exact Nat.ne_of_lt (Nat.lt_of_lt_of_le (by have := World.block_lt_of_cell? _ _ hw215_6; first | rwa [add_block] at this | exact this) GW217.out) | ((first | rw [add_block] | (show (Addr.add _ _).block ≠ _; rw [add_block]) | dsimp only); exact Nat.ne_of_lt (Nat.lt_of_lt_of_le (by have := World.block_lt_of_cell? _ _ hw215_6; first | rwa [add_block] at this | exact this) GW217.out))) _).trans (((cell_far (p := ⟨gb217, _, none⟩) (by first | exact Nat.ne_of_lt (Nat.lt_of_lt_of_le (by have := World.block_lt_of_cell? _ _ hw215_6; first | rwa [add_block] at this | exact this) GW217.out) | ((first | rw [add_block] | (show (Addr.add _ _).block ≠ _; rw [add_block]) | dsimp only); exact Nat.ne_of_lt (Nat.lt_of_lt_of_le (by have := World.block_lt_of_cell? _ _ hw215_6; first | rwa [add_block] at this | exact this) GW217.out))) _).trans (((cell_far (p := ⟨gb217, _, none⟩) (by first | exact Nat.ne_of_lt (Nat.lt_of_lt_of_le (by have := World.block_lt_of_cell? _ _ hw215_6; first | rwa [add_block] at this | exact this) GW217.out) | ((first | rw [add_block] | (show (Addr.add _ _).block ≠ _; rw [add_block]) | dsimp only); exact Nat.ne_of_lt (Nat.lt_of_lt_of_le (by have := World.block_lt_of_cell? _ _ hw215_6; first | rwa [add_block] at this | exact this) GW217.out))) _).trans (((cell_far (p := ⟨gb217, _, none⟩) (by first | exact Nat.ne_of_lt (Nat.lt_of_lt_of_le (by have := World.block_lt_of_cell? _ _ hw215_6; first | rwa [add_block] at this | exact this) GW217.out) | ((first | rw [add_block] | (show (Addr.add _ _).block ≠ _; rw [add_block]) | dsimp only); exact Nat.ne_of_lt (Nat.lt_of_lt_of_le (by have := World.block_lt_of_cell? _ _ hw215_6; first | rwa [add_block] at this | exact this) GW217.out))) _).trans (((cell_far (p := ⟨gb217, _, none⟩) (by first | exact Nat.ne_of_lt (Nat.lt_of_lt_of_le (by have := World.block_lt_of_cell? _ _ hw215_6; first | rwa [add_block] at this | exact this) GW217.out) | ((first | rw [add_block] | (show (Addr.add _ _).block ≠ _; rw [add_block]) | dsimp only); exact Nat.ne_of_lt (Nat.lt_of_lt_of_le (by have := World.block_lt_of_cell? _ _ hw215_6; first | rwa [add_block] at this | exact this) GW217.out))) _).trans (((cell_far (p := ⟨gb217, _, none⟩) (by first | exact Nat.ne_of_lt (Nat.lt_of_lt_of_le (by have := World.block_lt_of_cell? _ _ hw215_6; first | rwa [add_block] at this | exact this) GW217.out) | ((first | rw [add_block] | (show (Addr.add _ _).block ≠ _; rw [add_block]) | dsimp only); exact Nat.ne_of_lt (Nat.lt_of_lt_of_le (by have := World.block_lt_of_cell? _ _ hw215_6; first | rwa [add_block] at this | exact this) GW217.out))) _).trans (((cell_far (p := ⟨gb217, _, none⟩) (by first | exact Nat.ne_of_lt (Nat.lt_of_lt_of_le (by have := World.block_lt_of_cell? _ _ hw215_6; first | rwa [add_block] at this | exact this) GW217.out) | ((first | rw [add_block] | (show (Addr.add _ _).block ≠ _; rw [add_block]) | dsimp only); exact Nat.ne_of_lt (Nat.lt_of_lt_of_le (by have := World.block_lt_of_cell? _ _ hw215_6; first | rwa [add_block] at this | exact this) GW217.out))) _).trans (hHeld.2.2.2.2.2.2.2.2.2.2.2.2.2.1)))))))))))))), ((cell_far (p := ⟨gb217, _, none⟩) (by first | exact Nat.ne_of_lt (Nat.lt_of_lt_of_le (by have := World.block_lt_of_cell? _ _ hw216_0; first | rwa [add_block] at this | exact this) GW217.out) | ((first | rw [add_block] | (show (Addr.add _ _).block ≠ _; rw [add_block]) | dsimp only); exact Nat.ne_of_lt (Nat.lt_of_lt_of_le (by have := World.block_lt_of_cell? _ _ hw216_0; first | rwa [add_block] at this | exact this) GW217.out))) _).trans (((cell_far (p := ⟨gb217, _, none⟩) (by first | exact Nat.ne_of_lt (Nat.lt_of_lt_of_le (by have := World.block_lt_of_cell? _ _ hw216_0; first | rwa [add_block] at this | exact this) GW217.out) | ((first | rw [add_block] | (show (Addr.add _ _).block ≠ _; rw [add_block]) | dsimp only); exact Nat.ne_of_lt (Nat.lt_of_lt_of_le (by have := World.block_lt_of_cell? _ _ hw216_0; first | rwa [add_block] at this | exact this) GW217.out))) _).trans (((cell_far (p := ⟨gb217, _, none⟩) (by first | exact Nat.ne_of_lt (Nat.lt_of_lt_of_le (by have := World.block_lt_of_cell? _ _ hw216_0; first | rwa [add_block] at this | exact this) GW217.out) | ((first | rw [add_block] | (show (Addr.add _ _).block ≠ _; rw [add_block]) | dsimp only); exact Nat.ne_of_lt (Nat.lt_of_lt_of_le (by have := World.block_lt_of_cell? _ _ hw216_0; first | rwa [add_block] at this | exact this) GW217.out))) _).trans (((cell_far (p := ⟨gb217, _, none⟩) (by first | exact Nat.ne_of_lt (Nat.lt_of_lt_of_le (by have := World.block_lt_of_cell? _ _ hw216_0; first | rwa [add_block] at this | exact this) GW217.out) | ((first | rw [add_block] | (show (Addr.add _ _).block ≠ _; rw [add_block]) | dsimp only); exact Nat.ne_of_lt (Nat.lt_of_lt_of_le (by have := World.block_lt_of_cell? _ _ hw216_0; first | rwa [add_block] at this | exact this) GW217.out))) _).trans (((cell_far (p := ⟨gb217, _, none⟩) (by first | exact Nat.ne_of_lt (Nat.lt_of_lt_of_le (by have := World.block_lt_of_cell? _ _ hw216_0; first | rwa [add_block] at this | exact this) GW217.out) | ((first | rw [add_block] | (show (Addr.add _ _).block ≠ _; rw [add_block]) | dsimp only); exact Nat.ne_of_lt (Nat.lt_of_lt_of_le (by have := World.block_lt_of_cell? _ _ hw216_0; first | rwa [add_block] at this | exact this) GW217.out))) _).trans (((cell_far (p := ⟨gb217, _, none⟩) (by first | exact Nat.ne_of_lt (Nat.lt_of_lt_of_le (by have := World.block_lt_of_cell? _ _ hw216_0; first | rwa [add_block] at this | exact this) GW217.out) | ((first | rw [add_block] | (show (Addr.add _ _).block ≠ _; rw [add_block]) | dsimp only); exact Nat.ne_of_lt (Nat.lt_of_lt_of_le (by have := World.block_lt_of_cell? _ _ hw216_0; first | rwa [add_block] at this | exact this) GW217.out))) _).trans (((cell_far (p := ⟨gb217, _, none⟩) (by first | exact Nat.ne_of_lt (Nat.lt_of_lt_of_le (by have := World.block_lt_of_cell? _ _ hw216_0; first | rwa [add_block] at this | exact this) GW217.out) | ((first | rw [add_block] | (show (Addr.add _ _).block ≠ _; rw [add_block]) | dsimp only); exact Nat.ne_of_lt (Nat.lt_of_lt_of_le (by have := World.block_lt_of_cell? _ _ hw216_0; first | rwa [add_block] at this | exact this) GW217.out))) _).trans (hHeld.2.2.2.2.2.2.2.2.2.2.2.2.2.2.1)))))))))))))), ((cell_far (p := ⟨gb217, _, none⟩) (by first | exact Nat.ne_of_lt (Nat.lt_of_lt_of_le (by have := World.block_lt_of_cell? _ _ hw216_1; first | rwa [add_block] at this | exact this) GW217.out) | ((first | rw [add_block] | (show (Addr.add _ _).block ≠ _; rw [add_block]) | dsimp only); exact Nat.ne_of_lt (Nat.lt_of_lt_of_le (by have := World.block_lt_of_cell? _ _ hw216_1; first | rwa [add_block] at this | exact this) GW217.out))) _).trans (((cell_far (p := ⟨gb217, _, none⟩) (by first | exact Nat.ne_of_lt (Nat.lt_of_lt_of_le (by have := World.block_lt_of_cell? _ _ hw216_1; first | rwa [add_block] at this | exact this) GW217.out) | ((first | rw [add_block] | (show (Addr.add _ _).block ≠ _; rw [add_block]) | dsimp only); exact Nat.ne_of_lt (Nat.lt_of_lt_of_le (by have := World.block_lt_of_cell? _ _ hw216_1; first | rwa [add_block] at this | exact this) GW217.out))) _).trans (((cell_far (p := ⟨gb217, _, none⟩) (by first | exact Nat.ne_of_lt (Nat.lt_of_lt_of_le (by have := World.block_lt_of_cell? _ _ hw216_1; first | rwa [add_block] at this | exact this) GW217.out) | ((first | rw [add_block] | (show (Addr.add _ _).block ≠ _; rw [add_block]) | dsimp only); exact Nat.ne_of_lt (Nat.lt_of_lt_of_le (by have := World.block_lt_of_cell? _ _ hw216_1; first | rwa [add_block] at this | exact this) GW217.out))) _).trans (((cell_far (p := ⟨gb217, _, none⟩) (by first | exact Nat.ne_of_lt (Nat.lt_of_lt_of_le (by have := World.block_lt_of_cell? _ _ hw216_1; first | rwa [add_block] at this | exact this) GW217.out) | ((first | rw [add_block] | (show (Addr.add _ _).block ≠ _; rw [add_block]) | dsimp only); exact Nat.ne_of_lt (Nat.lt_of_lt_of_le (by have := World.block_lt_of_cell? _ _ hw216_1; first | rwa [add_block] at this | exact this) GW217.out))) _).trans (((cell_far (p := ⟨gb217, _, none⟩) (by first | exact Nat.ne_of_lt (Nat.lt_of_lt_of_le (by have := World.block_lt_of_cell? _ _ hw216_1; first | rwa [add_block] at this | exact this) GW217.out) | ((first | rw [add_block] | (show (Addr.add _ _).block ≠ _; rw [add_block]) | dsimp only); exact Nat.ne_of_lt (Nat.lt_of_lt_of_le (by have := World.block_lt_of_cell? _ _ hw216_1; first | rwa [add_block] at this | exact this) GW217.out))) _).trans (((cell_far (p := ⟨gb217, _, none⟩) (by first | exact Nat.ne_of_lt (Nat.lt_of_lt_of_le (by have := World.block_lt_of_cell? _ _ hw216_1; first | rwa [add_block] at this | exact this) GW217.out) | ((first | rw [add_block] | (show (Addr.add _ _).block ≠ _; rw [add_block]) | dsimp only); exact Nat.ne_of_lt (Nat.lt_of_lt_of_le (by have := World.block_lt_of_cell? _ _ hw216_1; first | rwa [add_block] at this | exact this) GW217.out))) _).trans (((cell_far (p := ⟨gb217, _, none⟩) (by first | exact Nat.ne_of_lt (Nat.lt_of_lt_of_le (by have := World.block_lt_of_cell? _ _ hw216_1; first | rwa [add_block] at this | exact this) GW217.out) | ((first | rw [add_block] | (show (Addr.add _ _).block ≠ _; rw [add_block]) | dsimp only); exact Nat.ne_of_lt (Nat.lt_of_lt_of_le (by have := World.block_lt_of_cell? _ _ hw216_1; first | rwa [add_block] at this | exact this) GW217.out))) _).trans (hHeld.2.2.2.2.2.2.2.2.2.2.2.2.2.2.2.1)))))))))))))), ((cell_far (p := ⟨gb217, _, none⟩) (by first | exact Nat.ne_of_lt (Nat.lt_of_lt_of_le (by have := World.block_lt_of_cell? _ _ hw216_2; first | rwa [add_block] at this | exact this) GW217.out) | ((first | rw [add_block] | (show (Addr.add _ _).block ≠ _; rw [add_block]) | dsimp only); exact Nat.ne_of_lt (Nat.lt_of_lt_of_le (by have := World.block_lt_of_cell? _ _ hw216_2; first | rwa [add_block] at this | exact this) GW217.out))) _).trans (((cell_far (p := ⟨gb217, _, none⟩) (by first | exact Nat.ne_of_lt (Nat.lt_of_lt_of_le (by have := World.block_lt_of_cell? _ _ hw216_2; first | rwa [add_block] at this | exact this) GW217.out) | ((first | rw [add_block] | (show (Addr.add _ _).block ≠ _; rw [add_block]) | dsimp only); exact Nat.ne_of_lt (Nat.lt_of_lt_of_le (by have := World.block_lt_of_cell? _ _ hw216_2; first | rwa [add_block] at this | exact this) GW217.out))) _).trans (((cell_far (p := ⟨gb217, _, none⟩) (by first | exact Nat.ne_of_lt (Nat.lt_of_lt_of_le (by have := World.block_lt_of_cell? _ _ hw216_2; first | rwa [add_block] at this | exact this) GW217.out) | ((first | rw [add_block] | (show (Addr.add _ _).block ≠ _; rw [add_block]) | dsimp only); exact Nat.ne_of_lt (Nat.lt_of_lt_of_le (by have := World.block_lt_of_cell? _ _ hw216_2; first | rwa [add_block] at this | exact this) GW217.out))) _).trans (((cell_far (p := ⟨gb217, _, none⟩) (by first | exact Nat.ne_of_lt (Nat.lt_of_lt_of_le (by have := World.block_lt_of_cell? _ _ hw216_2; first | rwa [add_block] at this | exact this) GW217.out) | ((first | rw [add_block] | (show (Addr.add _ _).block ≠ _; rw [add_block]) | dsimp only); exact Nat.ne_of_lt (Nat.lt_of_lt_of_le (by have := World.block_lt_of_cell? _ _ hw216_2; first | rwa [add_block] at this | exact this) GW217.out))) _).trans (((cell_far (p := ⟨gb217, _, none⟩) (by first | exact Nat.ne_of_lt (Nat.lt_of_lt_of_le (by have := World.block_lt_of_cell? _ _ hw216_2; first | rwa [add_block] at this | exact this) GW217.out) | ((first | rw [add_block] | (show (Addr.add _ _).block ≠ _; rw [add_block]) | dsimp only); exact Nat.ne_of_lt (Nat.lt_of_lt_of_le (by have := World.block_lt_of_cell? _ _ hw216_2; first | rwa [add_block] at this | exact this) GW217.out))) _).trans (((cell_far (p := ⟨gb217, _, none⟩) (by first | exact Nat.ne_of_lt (Nat.lt_of_lt_of_le (by have := World.block_lt_of_cell? _ _ hw216_2; first | rwa [add_block] at this | exact this) GW217.out) | ((first | rw [add_block] | (show (Addr.add _ _).block ≠ _; rw [add_block]) | dsimp only); exact Nat.ne_of_lt (Nat.lt_of_lt_of_le (by have := World.block_lt_of_cell? _ _ hw216_2; first | rwa [add_block] at this | exact this) GW217.out))) _).trans (((cell_far (p := ⟨gb217, _, none⟩) (by first | exact Nat.ne_of_lt (Nat.lt_of_lt_of_le (by have := World.block_lt_of_cell? _ _ hw216_2; first | rwa [add_block] at this | exact this) GW217.out) | ((first | rw [add_block] | (show (Addr.add _ _).block ≠ _; rw [add_block]) | dsimp only); exact Nat.ne_of_lt (Nat.lt_of_lt_of_le (by have := World.block_lt_of_cell? _ _ hw216_2; first | rwa [add_block] at this | exact this) GW217.out))) _).trans (hHeld.2.2.2.2.2.2.2.2.2.2.2.2.2.2.2.2.1)))))))))))))), ((cell_far (p := ⟨gb217, _, none⟩) (by first | exact Nat.ne_of_lt (Nat.lt_of_lt_of_le (by have := World.block_lt_of_cell? _ _ hw216_3; first | rwa [add_block] at this | exact this) GW217.out) | ((first | rw [add_block] | (show (Addr.add _ _).block ≠ _; rw [add_block]) | dsimp only); exact Nat.ne_of_lt (Nat.lt_of_lt_of_le (by have := World.block_lt_of_cell? _ _ hw216_3; first | rwa [add_block] at this | exact this) GW217.out))) _).trans (((cell_far (p := ⟨gb217, _, none⟩) (by first | exact Nat.ne_of_lt (Nat.lt_of_lt_of_le (by have := World.block_lt_of_cell? _ _ hw216_3; first | rwa [add_block] at this | exact this) GW217.out) | ((first | rw [add_block] | (show (Addr.add _ _).block ≠ _; rw [add_block]) | dsimp only); exact Nat.ne_of_lt (Nat.lt_of_lt_of_le (by have := World.block_lt_of_cell? _ _ hw216_3; first | rwa [add_block] at this | exact this) GW217.out))) _).trans (((cell_far (p := ⟨gb217, _, none⟩) (by first | exact Nat.ne_of_lt (Nat.lt_of_lt_of_le (by have := World.block_lt_of_cell? _ _ hw216_3; first | rwa [add_block] at this | exact this) GW217.out) | ((first | rw [add_block] | (show (Addr.add _ _).block ≠ _; rw [add_block]) | dsimp only); exact Nat.ne_of_lt (Nat.lt_of_lt_of_le (by have := World.block_lt_of_cell? _ _ hw216_3; first | rwa [add_block] at this | exact this) GW217.out))) _).trans (((cell_far (p := ⟨gb217, _, none⟩) (by first | exact Nat.ne_of_lt (Nat.lt_of_lt_of_le (by have := World.block_lt_of_cell? _ _ hw216_3; first | rwa [add_block] at this | exact this) GW217.out) | ((first | rw [add_block] | (show (Addr.add _ _).block ≠ _; rw [add_block]) | dsimp only); exact Nat.ne_of_lt (Nat.lt_of_lt_of_le (by have := World.block_lt_of_cell? _ _ hw216_3; first | rwa [add_block] at this | exact this) GW217.out))) _).trans (((cell_far (p := ⟨gb217, _, none⟩) (by first | exact Nat.ne_of_lt (Nat.lt_of_lt_of_le (by have := World.block_lt_of_cell? _ _ hw216_3; first | rwa [add_block] at this | exact this) GW217.out) | ((first | rw [add_block] | (show (Addr.add _ _).block ≠ _; rw [add_block]) | dsimp only); exact Nat.ne_of_lt (Nat.lt_of_lt_of_le (by have := World.block_lt_of_cell? _ _ hw216_3; first | rwa [add_block] at this | exact this) GW217.out))) _).trans (((cell_far (p := ⟨gb217, _, none⟩) (by first | exact Nat.ne_of_lt (Nat.lt_of_lt_of_le (by have := World.block_lt_of_cell? _ _ hw216_3; first | rwa [add_block] at this | exact this) GW217.out) | ((first | rw [add_block] | (show (Addr.add _ _).block ≠ _; rw [add_block]) | dsimp only); exact Nat.ne_of_lt (Nat.lt_of_lt_of_le (by have := World.block_lt_of_cell? _ _ hw216_3; first | rwa [add_block] at this | exact this) GW217.out))) _).trans (((cell_far (p := ⟨gb217, _, none⟩) (by first | exact Nat.ne_of_lt (Nat.lt_of_lt_of_le (by have := World.block_lt_of_cell? _ _ hw216_3; first | rwa [add_block] at this | exact this) GW217.out) | ((first | rw [add_block] | (show (Addr.add _ _).block ≠ _; rw [add_block]) | dsimp only); exact Nat.ne_of_lt (Nat.lt_of_lt_of_le (by have := World.block_lt_of_cell? _ _ hw216_3; first | rwa [add_block] at this | exact this) GW217.out))) _).trans (hHeld.2.2.2.2.2.2.2.2.2.2.2.2.2.2.2.2.2.1)))))))))))))), ((cell_far (p := ⟨gb217, _, none⟩) (by first | exact Nat.ne_of_lt (Nat.lt_of_lt_of_le (by have := World.block_lt_of_cell? _ _ hw216_4; first | rwa [add_block] at this | exact this) GW217.out) | ((first | rw [add_block] | (show (Addr.add _ _).block ≠ _; rw [add_block]) | dsimp only); exact Nat.ne_of_lt (Nat.lt_of_lt_of_le (by have := World.block_lt_of_cell? _ _ hw216_4; first | rwa [add_block] at this | exact this) GW217.out))) _).trans (((cell_far (p := ⟨gb217, _, none⟩) (by first | exact Nat.ne_of_lt (Nat.lt_of_lt_of_le (by have := World.block_lt_of_cell? _ _ hw216_4; first | rwa [add_block] at this | exact this) GW217.out) | ((first | rw [add_block] | (show (Addr.add _ _).block ≠ _; rw [add_block]) | dsimp only); exact Nat.ne_of_lt (Nat.lt_of_lt_of_le (by have := World.block_lt_of_cell? _ _ hw216_4; first | rwa [add_block] at this | exact this) GW217.out))) _).trans (((cell_far (p := ⟨gb217, _, none⟩) (by first | exact Nat.ne_of_lt (Nat.lt_of_lt_of_le (by have := World.block_lt_of_cell? _ _ hw216_4; first | rwa [add_block] at this | exact this) GW217.out) | ((first | rw [add_block] | (show (Addr.add _ _).block ≠ _; rw [add_block]) | dsimp only); exact Nat.ne_of_lt (Nat.lt_of_lt_of_le (by have := World.block_lt_of_cell? _ _ hw216_4; first | rwa [add_block] at this | exact this) GW217.out))) _).trans (((cell_far (p := ⟨gb217, _, none⟩) (by first | exact Nat.ne_of_lt (Nat.lt_of_lt_of_le (by have := World.block_lt_of_cell? _ _ hw216_4; first | rwa [add_block] at this | exact this) GW217.out) | ((first | rw [add_block] | (show (Addr.add _ _).block ≠ _; rw [add_block]) | dsimp only); exact Nat.ne_of_lt (Nat.lt_of_lt_of_le (by have := World.block_lt_of_cell? _ _ hw216_4; first | rwa [add_block] at this | exact this) GW217.out))) _).trans (((cell_far (p := ⟨gb217, _, none⟩) (by first | exact Nat.ne_of_lt (Nat.lt_of_lt_of_le (by have := World.block_lt_of_cell? _ _ hw216_4; first | rwa [add_block] at this | exact this) GW217.out) | ((first | rw [add_block] | (show (Addr.add _ _).block ≠ _; rw [add_block]) | dsimp only); exact Nat.ne_of_lt (Nat.lt_of_lt_of_le (by have := World.block_lt_of_cell? _ _ hw216_4; first | rwa [add_block] at this | exact this) GW217.out))) _).trans (((cell_far (p := ⟨gb217, _, none⟩) (by first | exact Nat.ne_of_lt (Nat.lt_of_lt_of_le (by have := World.block_lt_of_cell? _ _ hw216_4; first | rwa [add_block] at this | exact this) GW217.out) | ((first | rw [add_block] | (show (Addr.add _ _).block ≠ _; rw [add_block]) | dsimp only); exact Nat.ne_of_lt (Nat.lt_of_lt_of_le (by have := World.block_lt_of_cell? _ _ hw216_4; first | rwa [add_block] at this | exact this) GW217.out))) _).trans (((cell_far (p := ⟨gb217, _, none⟩) (by first | exact Nat.ne_of_lt (Nat.lt_of_lt_of_le (by have := World.block_lt_of_cell? _ _ hw216_4; first | rwa [add_block] at this | exact this) GW217.out) | ((first | rw [add_block] | (show (Addr.add _ _).block ≠ _; rw [add_block]) | dsimp only); exact Nat.ne_of_lt (Nat.lt_of_lt_of_le (by have := World.block_lt_of_cell? _ _ hw216_4; first | rwa [add_block] at this | exact this) GW217.out))) _).trans (hHeld.2.2.2.2.2.2.2.2.2.2.2.2.2.2.2.2.2.2.1)))))))))))))), ((cell_far (p := ⟨gb217, _, none⟩) (by first | exact Nat.ne_of_lt (Nat.lt_of_lt_of_le (by have := World.block_lt_of_cell? _ _ hw216_5; first | rwa [add_block] at this | exact this) GW217.out) | ((first | rw [add_block] | (show (Addr.add _ _).block ≠ _; rw [add_block]) | dsimp only); exact Nat.ne_of_lt (Nat.lt_of_lt_of_le (by have := World.block_lt_of_cell? _ _ hw216_5; first | rwa [add_block] at this | exact this) GW217.out))) _).trans (((cell_far (p := ⟨gb217, _, none⟩) (by first | exact Nat.ne_of_lt (Nat.lt_of_lt_of_le (by have := World.block_lt_of_cell? _ _ hw216_5; first | rwa [add_block] at this | exact this) GW217.out) | ((first | rw [add_block] | (show (Addr.add _ _).block ≠ _; rw [add_block]) | dsimp only); exact Nat.ne_of_lt (Nat.lt_of_lt_of_le (by have := World.block_lt_of_cell? _ _ hw216_5; first | rwa [add_block] at this | exact this) GW217.out))) _).trans (((cell_far (p := ⟨gb217, _, none⟩) (by first | exact Nat.ne_of_lt (Nat.lt_of_lt_of_le (by have := World.block_lt_of_cell? _ _ hw216_5; first | rwa [add_block] at this | exact this) GW217.out) | ((first | rw [add_block] | (show (Addr.add _ _).block ≠ _; rw [add_block]) | dsimp only); exact Nat.ne_of_lt (Nat.lt_of_lt_of_le (by have := World.block_lt_of_cell? _ _ hw216_5; first | rwa [add_block] at this | exact this) GW217.out))) _).trans (((cell_far (p := ⟨gb217, _, none⟩) (by first | exact Nat.ne_of_lt (Nat.lt_of_lt_of_le (by have := World.block_lt_of_cell? _ _ hw216_5; first | rwa [add_block] at this | exact this) GW217.out) | ((first | rw [add_block] | (show (Addr.add _ _).block ≠ _; rw [add_block]) | dsimp only); exact Nat.ne_of_lt (Nat.lt_of_lt_of_le (by have := World.block_lt_of_cell? _ _ hw216_5; first | rwa [add_block] at this | exact this) GW217.out))) _).trans (((cell_far (p := ⟨gb217, _, none⟩) (by first | exact Nat.ne_of_lt (Nat.lt_of_lt_of_le (by have := World.block_lt_of_cell? _ _ hw216_5; first | rwa [add_block] at this | exact this) GW217.out) | ((first | rw [add_block] | (show (Addr.add _ _).block ≠ _; rw [add_block]) | dsimp only); exact Nat.ne_of_lt (Nat.lt_of_lt_of_le (by have := World.block_lt_of_cell? _ _ hw216_5; first | rwa [add_block] at this | exact this) GW217.out))) _).trans (((cell_far (p := ⟨gb217, _, none⟩) (by first | exact Nat.ne_of_lt (Nat.lt_of_lt_of_le (by have := World.block_lt_of_cell? _ _ hw216_5; first | rwa [add_block] at this | exact this) GW217.out) | ((first | rw [add_block] | (show (Addr.add _ _).block ≠ _; rw [add_block]) | dsimp only); exact Nat.ne_of_lt (Nat.lt_of_lt_of_le (by have := World.block_lt_of_cell? _ _ hw216_5; first | rwa [add_block] at this | exact this) GW217.out))) _).trans (((cell_far (p := ⟨gb217, _, none⟩) (by first | exact Nat.ne_of_lt (Nat.lt_of_lt_of_le (by have := World.block_lt_of_cell? _ _ hw216_5; first | rwa [add_block] at this | exact this) GW217.out) | ((first | rw [add_block] | (show (Addr.add _ _).block ≠ _; rw [add_block]) | dsimp only); exact Nat.ne_of_lt (Nat.lt_of_lt_of_le (by have := World.block_lt_of_cell? _ _ hw216_5; first | rwa [add_block] at this | exact this) GW217.out))) _).trans (hHeld.2.2.2.2.2.2.2.2.2.2.2.2.2.2.2.2.2.2.2.1)))))))))))))), ((cell_far (p := ⟨gb217, _, none⟩) (by first | exact Nat.ne_of_lt (Nat.lt_of_lt_of_le (by have := World.block_lt_of_cell? _ _ hw216_6; first | rwa [add_block] at this | exact this) GW217.out) | ((first | rw [add_block] | (show (Addr.add _ _).block ≠ _; rw [add_block]) | dsimp only); exact Nat.ne_of_lt (Nat.lt_of_lt_of_le (by have := World.block_lt_of_cell? _ _ hw216_6; first | rwa [add_block] at this | exact this) GW217.out))) _).trans (((cell_far (p := ⟨gb217, _, none⟩) (by first | exact Nat.ne_of_lt (Nat.lt_of_lt_of_le (by have := World.block_lt_of_cell? _ _ hw216_6; first | rwa [add_block] at this | exact this) GW217.out) | ((first | rw [add_block] | (show (Addr.add _ _).block ≠ _; rw [add_block]) | dsimp only); exact Nat.ne_of_lt (Nat.lt_of_lt_of_le (by have := World.block_lt_of_cell? _ _ hw216_6; first | rwa [add_block] at this | exact this) GW217.out))) _).trans (((cell_far (p := ⟨gb217, _, none⟩) (by first | exact Nat.ne_of_lt (Nat.lt_of_lt_of_le (by have := World.block_lt_of_cell? _ _ hw216_6; first | rwa [add_block] at this | exact this) GW217.out) | ((first | rw [add_block] | (show (Addr.add _ _).block ≠ _; rw [add_block]) | dsimp only); exact Nat.ne_of_lt (Nat.lt_of_lt_of_le (by have := World.block_lt_of_cell? _ _ hw216_6; first | rwa [add_block] at this | exact this) GW217.out))) _).trans (((cell_far (p := ⟨gb217, _, none⟩) (by first | exact Nat.ne_of_lt (Nat.lt_of_lt_of_le (by have := World.block_lt_of_cell? _ _ hw216_6; first | rwa [add_block] at this | exact this) GW217.out) | ((first | rw [add_block] | (show (Addr.add _ _).block ≠ _; rw [add_block]) | dsimp only); exact Nat.ne_of_lt (Nat.lt_of_lt_of_le (by have := World.block_lt_of_cell? _ _ hw216_6; first | rwa [add_block] at this | exact this) GW217.out))) _).trans (((cell_far (p := ⟨gb217, _, none⟩) (by first | exact Nat.ne_of_lt (Nat.lt_of_lt_of_le (by have := World.block_lt_of_cell? _ _ hw216_6; first | rwa [add_block] at this | exact this) GW217.out) | ((first | rw [add_block] | (show (Addr.add _ _).block ≠ _; rw [add_block]) | dsimp only); exact Nat.ne_of_lt (Nat.lt_of_lt_of_le (by have := World.block_lt_of_cell? _ _ hw216_6; first | rwa [add_block] at this | exact this) GW217.out))) _).trans (((cell_far (p := ⟨gb217, _, none⟩) (by first | exact Nat.ne_of_lt (Nat.lt_of_lt_of_le (by have := World.block_lt_of_cell? _ _ hw216_6; first | rwa [add_block] at this | exact this) GW217.out) | ((first | rw [add_block] | (show (Addr.add _ _).block ≠ _; rw [add_block]) | dsimp only); exact Nat.ne_of_lt (Nat.lt_of_lt_of_le (by have := World.block_lt_of_cell? _ _ hw216_6; first | rwa [add_block] at this | exact this) GW217.out))) _).trans (((cell_far (p := ⟨gb217, _, none⟩) (by first | exact Nat.ne_of_lt (Nat.lt_of_lt_of_le (by have := World.block_lt_of_cell? _ _ hw216_6; first | rwa [add_block] at this | exact this) GW217.out) | ((first | rw [add_block] | (show (Addr.add _ _).block ≠ _; rw [add_block]) | dsimp only); exact Nat.ne_of_lt (Nat.lt_of_lt_of_le (by have := World.block_lt_of_cell? _ _ hw216_6; first | rwa [add_block] at this | exact this) GW217.out))) _).trans (hHeld.2.2.2.2.2.2.2.2.2.2.2.2.2.2.2.2.2.2.2.2))))))))))))))⟩ (fun hHeld => ?_)
                 clear hK K
                 refine done_ (done_of HT_.out (by kernel_rfl)) ?_
                 have hcz54_0 : w46.cell? ⟨gb217, 0, none⟩ = some (.int .i64 0) := (blk_cell BK217.out 0).trans rfl
                 have hcz54_1 : w46.cell? ⟨gb217, 1, none⟩ = some (.int .i64 0) := (blk_cell BK217.out 1).trans rfl
                 have hcz54_2 : w46.cell? ⟨gb217, 2, none⟩ = some (.int .i64 0) := (blk_cell BK217.out 2).trans rfl
                 have hcz54_3 : w46.cell? ⟨gb217, 3, none⟩ = some (.int .i64 0) := (blk_cell BK217.out 3).trans rfl
                 have hcz54_4 : w46.cell? ⟨gb217, 4, none⟩ = some (.bool false) := (blk_cell BK217.out 4).trans rfl
                 have hcz54_5 : w46.cell? ⟨gb217, 5, none⟩ = some (.bool false) := (blk_cell BK217.out 5).trans rfl
                 have hcz54_6 : w46.cell? ⟨gb217, 6, none⟩ = some (.bool false) := (blk_cell BK217.out 6).trans rfl
                 have hfz54_0 := blk_frozen BK217.out 0
                 have hfz54_1 := blk_frozen BK217.out 1
                 have hfz54_2 := blk_frozen BK217.out 2
                 have hfz54_3 := blk_frozen BK217.out 3
                 have hfz54_4 := blk_frozen BK217.out 4
                 have hfz54_5 := blk_frozen BK217.out 5
                 have hfz54_6 := blk_frozen BK217.out 6
                 go_upto_region 18 with (first | ((with_reducible refine gate_builtin (b := .append) (xs := #[.tmp 86, .tmp 88]) rfl ?_); (try (refine gate_guard (by rfl) ?_; dsimp only)); at_builtin; refine Kd.R_append k29 (w0 := w) w.heap.size rfl (.tmp 86) (.tmp 88) 22 29 (.agg #[(.int .i64 0), (.int .i64 0), (.int .i64 0), (.int .i64 0), (.bool false), (.bool false), (.bool false)]) 40 rfl Try.underlying22 info29 rfl (by decide) (by omega) u7 x7_2 (⟨(rd_T29 l0 x9_2).f0, (rd_T29 l0 x9_2).f1, (rd_T29 l0 x9_2).f2, 0, false, false, false⟩ : S29) [.int .i64 ((rd_T29 l0 x9_2).f0), .int .i64 ((rd_T29 l0 x9_2).f1), .int .i64 ((rd_T29 l0 x9_2).f2), .int .i64 0, .bool false, .bool false, .bool false] (fun k_ => k_ ≠ gb217) (fun _ => False) rfl (by first | (go_simp; done) | (go_simp; rfl)) ?aP (fun _ hk => hk.elim) ?aF ?aO ?aB ?aS ?aL ?_; (case aP => exact k29_mkM _ _ _ (⟨(rd_T29 l0 x9_2).f0, (rd_T29 l0 x9_2).f1, (rd_T29 l0 x9_2).f2, 0, false, false, false⟩ : S29)); (case aB => exact (by repeat (first | (with_reducible first | exact HB.out | apply below_alloc | apply pw_below_drewN | apply below_drew1 | refine below_set ?_ GE217.out) | exact HB.out))); (case aF => exact (fun k_ hk => Kd.freshB (g := gb217) (o := .cells #[.int .i64 ((rd_T29 l0 x9_2).f0), .int .i64 ((rd_T29 l0 x9_2).f1), .int .i64 ((rd_T29 l0 x9_2).f2), .int .i64 0, .bool false, .bool false, .bool false] 29 (0, 0)) (by (with_reducible repeat (first | refine blk_drewN ?_ _ | refine blk_drew ?_ | refine blk_alloc ?_ _)); refine blk_put (cs := #[.int .i64 ((rd_T29 l0 x9_2).f0), .int .i64 ((rd_T29 l0 x9_2).f1), .int .i64 ((rd_T29 l0 x9_2).f2), .int .i64 0, .bool false, .bool false, .bool false]) ?_ 6 _ rfl; (with_reducible repeat (first | refine blk_drewN ?_ _ | refine blk_drew ?_ | refine blk_alloc ?_ _)); refine blk_put (cs := #[.int .i64 ((rd_T29 l0 x9_2).f0), .int .i64 ((rd_T29 l0 x9_2).f1), .int .i64 ((rd_T29 l0 x9_2).f2), .int .i64 0, .bool false, .bool false, .bool false]) ?_ 5 _ rfl; (with_reducible repeat (first | refine blk_drewN ?_ _ | refine blk_drew ?_ | refine blk_alloc ?_ _)); refine blk_put (cs := #[.int .i64 ((rd_T29 l0 x9_2).f0), .int .i64 ((rd_T29 l0 x9_2).f1), .int .i64 ((rd_T29 l0 x9_2).f2), .int .i64 0, .bool false, .bool false, .bool false]) ?_ 4 _ rfl; (with_reducible repeat (first | refine blk_drewN ?_ _ | refine blk_drew ?_ | refine blk_alloc ?_ _)); refine blk_put (cs := #[.int .i64 ((rd_T29 l0 x9_2).f0), .int .i64 ((rd_T29 l0 x9_2).f1), .int .i64 ((rd_T29 l0 x9_2).f2), .int .i64 0, .bool false, .bool false, .bool false]) ?_ 3 _ rfl; (with_reducible repeat (first | refine blk_drewN ?_ _ | refine blk_drew ?_ | refine blk_alloc ?_ _)); refine blk_put (cs := #[.int .i64 ((rd_T29 l0 x9_2).f0), .int .i64 ((rd_T29 l0 x9_2).f1), .int .i64 0, .int .i64 0, .bool false, .bool false, .bool false]) ?_ 2 _ rfl; (with_reducible repeat (first | refine blk_drewN ?_ _ | refine blk_drew ?_ | refine blk_alloc ?_ _)); refine blk_put (cs := #[.int .i64 ((rd_T29 l0 x9_2).f0), .int .i64 0, .int .i64 0, .int .i64 0, .bool false, .bool false, .bool false]) ?_ 1 _ rfl; (with_reducible repeat (first | refine blk_drewN ?_ _ | refine blk_drew ?_ | refine blk_alloc ?_ _)); refine blk_put (cs := #[.int .i64 0, .int .i64 0, .int .i64 0, .int .i64 0, .bool false, .bool false, .bool false]) ?_ 0 _ rfl; (with_reducible repeat (first | refine blk_drewN ?_ _ | refine blk_drew ?_ | refine blk_alloc ?_ _)); exact BK217.out) k_ hk)); (case aO => exact (by (with_reducible repeat (first | apply Kd.R_alloc | apply Kd.R_drewN | apply Kd.R_drew)); exact Kd.R_mono (Kd.R_far (p := ⟨gb217, 6, none⟩) (Kd.R_far (p := ⟨gb217, 5, none⟩) (Kd.R_far (p := ⟨gb217, 4, none⟩) (Kd.R_far (p := ⟨gb217, 3, none⟩) (Kd.R_far (p := ⟨gb217, 2, none⟩) (Kd.R_far (p := ⟨gb217, 1, none⟩) (Kd.R_far (p := ⟨gb217, 0, none⟩) (Kd.R_mono HO_7.out (fun k_ hk => (⟨hk, hk.2⟩ : _ ∧ k_ ≠ gb217))) (fun _ hk => hk.2) (.int .i64 ((rd_T29 l0 x9_2).f0))) (fun _ hk => hk.2) (.int .i64 ((rd_T29 l0 x9_2).f1))) (fun _ hk => hk.2) (.int .i64 ((rd_T29 l0 x9_2).f2))) (fun _ hk => hk.2) (.int .i64 0)) (fun _ hk => hk.2) (.bool false)) (fun _ hk => hk.2) (.bool false)) (fun _ hk => hk.2) (.bool false)) (fun _ hk => hk.1.2))); (case aS => exact (below_size (by repeat (first | (with_reducible first | exact HB.out | apply below_alloc | apply pw_below_drewN | apply below_drew1 | refine below_set ?_ GE217.out) | exact HB.out)))); (case aL => have := LMc42.out; omega); intro v219 w55 ho hb hg hat; rw [← Ny218.out] at ho; have n0_ := Aside0.mk (Kd.R_over' (by (with_reducible repeat (first | apply Kd.R_alloc | apply Kd.R_drewN | apply Kd.R_drew)); exact (Kd.R_mono (Kd.R_far (p := ⟨gb217, 6, none⟩) (Kd.R_far (p := ⟨gb217, 5, none⟩) (Kd.R_far (p := ⟨gb217, 4, none⟩) (Kd.R_far (p := ⟨gb217, 3, none⟩) (Kd.R_far (p := ⟨gb217, 2, none⟩) (Kd.R_far (p := ⟨gb217, 1, none⟩) (Kd.R_far (p := ⟨gb217, 0, none⟩) (Kd.R_types HO_5.out BK217.out (by decide)) (fun _ hk => hk.2) (.int .i64 ((rd_T29 l0 x9_2).f0))) (fun _ hk => hk.2) (.int .i64 ((rd_T29 l0 x9_2).f1))) (fun _ hk => hk.2) (.int .i64 ((rd_T29 l0 x9_2).f2))) (fun _ hk => hk.2) (.int .i64 0)) (fun _ hk => hk.2) (.bool false)) (fun _ hk => hk.2) (.bool false)) (fun _ hk => hk.2) (.bool false)) (fun _ h_ => h_.1))) (Kd.R_typed (by (with_reducible repeat (first | apply Kd.R_alloc | apply Kd.R_drewN | apply Kd.R_drew)); exact (Kd.R_mono (Kd.R_far (p := ⟨gb217, 6, none⟩) (Kd.R_far (p := ⟨gb217, 5, none⟩) (Kd.R_far (p := ⟨gb217, 4, none⟩) (Kd.R_far (p := ⟨gb217, 3, none⟩) (Kd.R_far (p := ⟨gb217, 2, none⟩) (Kd.R_far (p := ⟨gb217, 1, none⟩) (Kd.R_far (p := ⟨gb217, 0, none⟩) (Kd.R_mono HO_7.out (fun k_ hk => (⟨hk, hk.2⟩ : _ ∧ k_ ≠ gb217))) (fun _ hk => hk.2) (.int .i64 ((rd_T29 l0 x9_2).f0))) (fun _ hk => hk.2) (.int .i64 ((rd_T29 l0 x9_2).f1))) (fun _ hk => hk.2) (.int .i64 ((rd_T29 l0 x9_2).f2))) (fun _ hk => hk.2) (.int .i64 0)) (fun _ hk => hk.2) (.bool false)) (fun _ hk => hk.2) (.bool false)) (fun _ hk => hk.2) (.bool false)) (fun _ h_ => h_.1)))) (by decide) hg); have n1_ := Aside0.mk (Kd.R_over' (by (with_reducible repeat (first | apply Kd.R_alloc | apply Kd.R_drewN | apply Kd.R_drew)); exact (Kd.R_mono (Kd.R_far (p := ⟨gb217, 6, none⟩) (Kd.R_far (p := ⟨gb217, 5, none⟩) (Kd.R_far (p := ⟨gb217, 4, none⟩) (Kd.R_far (p := ⟨gb217, 3, none⟩) (Kd.R_far (p := ⟨gb217, 2, none⟩) (Kd.R_far (p := ⟨gb217, 1, none⟩) (Kd.R_far (p := ⟨gb217, 0, none⟩) (Kd.R_types HO_8.out BK217.out (by decide)) (fun _ hk => hk.2) (.int .i64 ((rd_T29 l0 x9_2).f0))) (fun _ hk => hk.2) (.int .i64 ((rd_T29 l0 x9_2).f1))) (fun _ hk => hk.2) (.int .i64 ((rd_T29 l0 x9_2).f2))) (fun _ hk => hk.2) (.int .i64 0)) (fun _ hk => hk.2) (.bool false)) (fun _ hk => hk.2) (.bool false)) (fun _ hk => hk.2) (.bool false)) (fun _ h_ => h_.1))) (Kd.R_typed (by (with_reducible repeat (first | apply Kd.R_alloc | apply Kd.R_drewN | apply Kd.R_drew)); exact (Kd.R_mono (Kd.R_far (p := ⟨gb217, 6, none⟩) (Kd.R_far (p := ⟨gb217, 5, none⟩) (Kd.R_far (p := ⟨gb217, 4, none⟩) (Kd.R_far (p := ⟨gb217, 3, none⟩) (Kd.R_far (p := ⟨gb217, 2, none⟩) (Kd.R_far (p := ⟨gb217, 1, none⟩) (Kd.R_far (p := ⟨gb217, 0, none⟩) (Kd.R_mono HO_7.out (fun k_ hk => (⟨hk, hk.2⟩ : _ ∧ k_ ≠ gb217))) (fun _ hk => hk.2) (.int .i64 ((rd_T29 l0 x9_2).f0))) (fun _ hk => hk.2) (.int .i64 ((rd_T29 l0 x9_2).f1))) (fun _ hk => hk.2) (.int .i64 ((rd_T29 l0 x9_2).f2))) (fun _ hk => hk.2) (.int .i64 0)) (fun _ hk => hk.2) (.bool false)) (fun _ hk => hk.2) (.bool false)) (fun _ hk => hk.2) (.bool false)) (fun _ h_ => h_.1)))) (by decide) hg); have n2_ := Aside0.mk (blk_grown (g := gb217) (o := .cells #[.int .i64 ((rd_T29 l0 x9_2).f0), .int .i64 ((rd_T29 l0 x9_2).f1), .int .i64 ((rd_T29 l0 x9_2).f2), .int .i64 0, .bool false, .bool false, .bool false] 29 (0, 0)) (by (with_reducible repeat (first | refine blk_drewN ?_ _ | refine blk_drew ?_ | refine blk_alloc ?_ _)); refine blk_put (cs := #[.int .i64 ((rd_T29 l0 x9_2).f0), .int .i64 ((rd_T29 l0 x9_2).f1), .int .i64 ((rd_T29 l0 x9_2).f2), .int .i64 0, .bool false, .bool false, .bool false]) ?_ 6 _ rfl; (with_reducible repeat (first | refine blk_drewN ?_ _ | refine blk_drew ?_ | refine blk_alloc ?_ _)); refine blk_put (cs := #[.int .i64 ((rd_T29 l0 x9_2).f0), .int .i64 ((rd_T29 l0 x9_2).f1), .int .i64 ((rd_T29 l0 x9_2).f2), .int .i64 0, .bool false, .bool false, .bool false]) ?_ 5 _ rfl; (with_reducible repeat (first | refine blk_drewN ?_ _ | refine blk_drew ?_ | refine blk_alloc ?_ _)); refine blk_put (cs := #[.int .i64 ((rd_T29 l0 x9_2).f0), .int .i64 ((rd_T29 l0 x9_2).f1), .int .i64 ((rd_T29 l0 x9_2).f2), .int .i64 0, .bool false, .bool false, .bool false]) ?_ 4 _ rfl; (with_reducible repeat (first | refine blk_drewN ?_ _ | refine blk_drew ?_ | refine blk_alloc ?_ _)); refine blk_put (cs := #[.int .i64 ((rd_T29 l0 x9_2).f0), .int .i64 ((rd_T29 l0 x9_2).f1), .int .i64 ((rd_T29 l0 x9_2).f2), .int .i64 0, .bool false, .bool false, .bool false]) ?_ 3 _ rfl; (with_reducible repeat (first | refine blk_drewN ?_ _ | refine blk_drew ?_ | refine blk_alloc ?_ _)); refine blk_put (cs := #[.int .i64 ((rd_T29 l0 x9_2).f0), .int .i64 ((rd_T29 l0 x9_2).f1), .int .i64 0, .int .i64 0, .bool false, .bool false, .bool false]) ?_ 2 _ rfl; (with_reducible repeat (first | refine blk_drewN ?_ _ | refine blk_drew ?_ | refine blk_alloc ?_ _)); refine blk_put (cs := #[.int .i64 ((rd_T29 l0 x9_2).f0), .int .i64 0, .int .i64 0, .int .i64 0, .bool false, .bool false, .bool false]) ?_ 1 _ rfl; (with_reducible repeat (first | refine blk_drewN ?_ _ | refine blk_drew ?_ | refine blk_alloc ?_ _)); refine blk_put (cs := #[.int .i64 0, .int .i64 0, .int .i64 0, .int .i64 0, .bool false, .bool false, .bool false]) ?_ 0 _ rfl; (with_reducible repeat (first | refine blk_drewN ?_ _ | refine blk_drew ?_ | refine blk_alloc ?_ _)); exact BK217.out) hg (Kd.R_away HO_7.out (fun _ hk => hk.2))); have n3_ := Aside0.mk (hb); have n4_ := Aside0.mk (ho); clear HO_5; clear HO_8; clear BK217; clear HB; clear HO_7; have HO_5 := n0_; have HO_8 := n1_; have BK217 := n2_; have HB := n3_; have HO220 := n4_; clear n0_ n1_ n2_ n3_ n4_; clear ho hb hg hat) | ((with_reducible refine gate_builtin (b := .append) (xs := #[.tmp 90, .tmp 93]) rfl ?_); (try (refine gate_guard (by rfl) ?_; dsimp only)); at_builtin; refine Kd.R_append k31 (w0 := w) w.heap.size rfl (.tmp 90) (.tmp 93) 23 31 (.agg #[(.int .i64 0), (.int .i64 0)]) 16 rfl Try.underlying23 info31 rfl (by decide) (by omega) u8 x8_2 (⟨wrap64 (x6_37 + 1), 0⟩ : S31) [.int .i64 (wrap64 (x6_37 + 1)), .int .i64 0] (fun k_ => some k_ ≠ (v195 : Value).ownBlock) (fun _ => False) rfl rfl ?aP (fun _ hk => hk.elim) ?aF ?aO ?aB ?aS ?aL ?_; (case aP => exact k31_mkM _ _ _ (⟨wrap64 (x6_37 + 1), 0⟩ : S31)); (case aB => exact (by repeat (first | (with_reducible first | exact HB.out | apply below_alloc | apply pw_below_drewN | apply below_drew1 | refine below_set ?_ GE217.out) | exact HB.out))); (case aF => exact (fun k_ hk => Kd.fresh' (Kd.R_lt (by (with_reducible repeat (first | apply Kd.R_alloc | apply Kd.R_drewN | apply Kd.R_drew)); exact HO_5.out)) k_ hk)); (case aO => exact (by (with_reducible repeat (first | apply Kd.R_alloc | apply Kd.R_drewN | apply Kd.R_drew)); exact HO_8.out)); (case aS => exact (below_size (by repeat (first | (with_reducible first | exact HB.out | apply below_alloc | apply pw_below_drewN | apply below_drew1 | refine below_set ?_ GE217.out) | exact HB.out)))); (case aL => have := LMc43.out; omega); intro v222 w56 ho hb hg hat; rw [← Ny221.out] at ho; have n0_ := Aside0.mk (Kd.R_after (ok := (fun _ => True)) (by (with_reducible repeat (first | apply Kd.R_alloc | apply Kd.R_drewN | apply Kd.R_drew)); exact Kd.R_mono HO_5.out (fun _ hk => ⟨trivial, hk⟩)) hg hat); have n1_ := Aside0.mk (blk_grown (g := gb217) (o := .cells #[.int .i64 ((rd_T29 l0 x9_2).f0), .int .i64 ((rd_T29 l0 x9_2).f1), .int .i64 ((rd_T29 l0 x9_2).f2), .int .i64 0, .bool false, .bool false, .bool false] 29 (0, 0)) (by (with_reducible repeat (first | refine blk_drewN ?_ _ | refine blk_drew ?_ | refine blk_alloc ?_ _)); exact BK217.out) hg (Kd.R_ne HO_8.out BK217.out (by decide))); have n2_ := Aside0.mk (Kd.R_over' (by (with_reducible repeat (first | apply Kd.R_alloc | apply Kd.R_drewN | apply Kd.R_drew)); exact HO220.out) (Kd.R_typed (by (with_reducible repeat (first | apply Kd.R_alloc | apply Kd.R_drewN | apply Kd.R_drew)); exact HO_8.out)) (by decide) hg); have n3_ := Aside0.mk (hb); have n4_ := Aside0.mk (ho); clear HO_5; clear BK217; clear HO220; clear HB; clear HO_8; have HO_5 := n0_; have BK217 := n1_; have HO220 := n2_; have HB := n3_; have HO223 := n4_; clear n0_ n1_ n2_ n3_ n4_; clear ho hb hg hat))
                 (try simp only [Act.put, List.setIfInBounds_toArray, List.set_cons_zero, List.set_cons_succ])
                 go_cut [122] (fun v122 wc => ∃ (kq : Nat) (x122_43 : Bool), v122 = .bool x122_43 ∧ Aside0 (variorumlaw16_LinenoCounts.j4 kq l0 a1 t194 (wrap64 (x6_37 + 1)) y218 y221 x9_2 x122_43 = some r) ∧ Aside0 (kq ≤ kj37) ∧ Aside0 (Kd.R k31 31 wc w.heap.size (fun k_ => some k_ ≠ (v222 : Value).ownBlock) v195 t194) ∧ Aside0 (Kd.R k29 29 wc w.heap.size (fun k_ => k_ ≠ gb217) v219 y218) ∧ Aside0 (Kd.R k31 31 wc w.heap.size (fun k_ => some k_ ≠ (v195 : Value).ownBlock) v222 y221) ∧ Aside0 (wc.heap[gb217]? = some (.cells #[.int .i64 ((rd_T29 l0 x9_2).f0), .int .i64 ((rd_T29 l0 x9_2).f1), .int .i64 ((rd_T29 l0 x9_2).f2), .int .i64 0, .bool false, .bool false, .bool false] 29 (0, 0))) ∧ Aside0 (Below w.heap.size w wc))
                 case first =>
                  have H := HC44.out
                  clear HC44
                  by_cases c57 : x9_2 < (t194.length : Int)
                  ·rw [if_pos c57] at H
                   have c57b0 : decide (x9_2 < (t194.length : Int)) = true := decide_eq_true c57
                   clear c57
                   (first | rw [c57b0] | (simp only [i64_w, i32_w]; rw [c57b0]) | skip)
                   by_cases c58 : ((rd_T31 t194 x9_2).f0) < 0
                   ·rw [if_pos c58] at H
                    have c58b0 : decide (((rd_T31 t194 x9_2).f0) < 0) = true := decide_eq_true c58
                    clear c58
                    have H' := Aside0.mk H
                    clear H
                    try go_wp2
                    have n0_ := Aside0.mk (Kd.R_drew HO_5.out)
                    have n1_ := Aside0.mk (Kd.R_drew HO220.out)
                    have n2_ := Aside0.mk (Kd.R_drew HO223.out)
                    have n3_ := Aside0.mk (blk_drew BK217.out)
                    have n4_ := Aside0.mk (below_drew1 HB.out)
                    clear HO_5
                    clear HO220
                    clear HO223
                    clear BK217
                    clear HB
                    have HO_5 := n0_
                    have HO220 := n1_
                    have HO223 := n2_
                    have BK217 := n3_
                    have HB := n4_
                    clear n0_ n1_ n2_ n3_ n4_
                    obtain ⟨Ao60, co60, eo60⟩ := Kd.R_slice HO_5.out
                    (first | subst eo60 | (injection eo60 with f1_ f2_ f3_; have f4_ := f1_.symm; have f5_ := f3_.symm; clear f1_ f2_ f3_; subst f4_; subst f5_))
                    have p224 : 0 ≤ (x9_2 : Int) := of_decide_eq_true (by first | (with_reducible assumption) | assumption)
                    have q224 : x9_2 < (t194.length : Int) := of_decide_eq_true (by first | (with_reducible assumption) | assumption)
                    obtain ⟨ad224, e224, hx224_0, hx224_1⟩ := at_T31 (Kd.R_reads' HO_5.out).2.2 x9_2 p224 q224
                    cases e224
                    replace p224 := eq_true p224
                    replace q224 := eq_true q224
                    refine start_ (n := 28) (S := fun w' => w'.cell? (ad224.add ((x9_2).toNat * 2)) = some (.int .i64 ((rd_T31 t194 x9_2).f0)) ∧ w'.cell? ⟨(ad224.add ((x9_2).toNat * 2)).block, (ad224.add ((x9_2).toNat * 2)).off + 1, none⟩ = some (.int .i64 ((rd_T31 t194 x9_2).f1))) (ds := []) #[false, false, false, false, false, false, false, false, false, false, false, false, false, false, false, false, false, false, false, false, false, false, false, false, false, false, false, false] (by kernel_rfl) rfl rfl ⟨hx224_0, hx224_1⟩ (fun hHeld => ?_); refine with_tabW variorumlaw16_LinenoCounts.tab18 variorumlaw16_LinenoCounts.bits18 (fun HT_ HW_ => ?_)
                    generalize w56.drew = w59 at HO_5 HO220 HO223 BK217 HB hx224_0 hx224_1 hHeld ⊢
                    refine pure_ (i := 0) (N := some 95) (v := ?_) (a' := ?_) #[true, false, false, false, false, false, false, false, false, false, false, false, false, false, false, false, false, false, false, false, false, false, false, false, false, false, false, false] rfl rfl (any_of HT_.out (by kernel_rfl)) (fun _ _ _ h => h) (Or.inl ⟨by rfl, ?_⟩) ?_ ?_
                    rotate_left
                    ·intro w'
                     go_simp
                     with_reducible rfl
                    rotate_left
                    ·simp only [Act.put, List.setIfInBounds_toArray, List.set_cons_zero, List.set_cons_succ, i64_w, i32_w]
                     rfl
                    refine pure_ (i := 1) (N := some 96) (v := ?_) (a' := ?_) #[true, true, false, false, false, false, false, false, false, false, false, false, false, false, false, false, false, false, false, false, false, false, false, false, false, false, false, false] rfl rfl (any_of HT_.out (by kernel_rfl)) (fun _ _ _ h => h) (Or.inl ⟨by rfl, ?_⟩) ?_ ?_
                    rotate_left
                    ·intro w'
                     go_simp
                     with_reducible rfl
                    rotate_left
                    ·simp only [Act.put, List.setIfInBounds_toArray, List.set_cons_zero, List.set_cons_succ, i64_w, i32_w]
                     rfl
                    refine pure_ (i := 2) (N := some 97) (v := ?_) (a' := ?_) #[true, true, true, false, false, false, false, false, false, false, false, false, false, false, false, false, false, false, false, false, false, false, false, false, false, false, false, false] rfl rfl (any_of HT_.out (by kernel_rfl)) (fun _ _ _ h => h) (Or.inl ⟨by rfl, ?_⟩) ?_ ?_
                    rotate_left
                    ·intro w'
                     go_simp
                     with_reducible rfl
                    rotate_left
                    ·simp only [Act.put, List.setIfInBounds_toArray, List.set_cons_zero, List.set_cons_succ, i64_w, i32_w]
                     rfl
                    refine pure_ (i := 3) (N := some 98) (v := ?_) (a' := ?_) #[true, true, true, true, false, false, false, false, false, false, false, false, false, false, false, false, false, false, false, false, false, false, false, false, false, false, false, false] rfl rfl (any_of HT_.out (by kernel_rfl)) (fun _ _ _ h => h) (Or.inl ⟨by rfl, ?_⟩) ?_ ?_
                    rotate_left
                    ·intro w'
                     go_simp
                     with_reducible rfl
                    rotate_left
                    ·simp only [Act.put, List.setIfInBounds_toArray, List.set_cons_zero, List.set_cons_succ, i64_w, i32_w]
                     rfl
                    refine take_ (i := 4) (N := some 99) (v := ?_) (a' := ?_) #[true, true, true, true, true, false, false, false, false, false, false, false, false, false, false, false, false, false, false, false, false, false, false, false, false, false, false, false] rfl rfl (take_ofW HT_.out HW_.out (by kernel_rfl)) (fun _ _ _ h => h) (Or.inl ⟨by rfl, ?_⟩) hHeld ?_ ?_
                    rotate_left
                    ·rintro w' ⟨s0, s1⟩
                     go_simp
                     with_reducible rfl
                    rotate_left
                    ·simp only [Act.put, List.setIfInBounds_toArray, List.set_cons_zero, List.set_cons_succ, i64_w, i32_w]
                     rfl
                    refine pure_ (i := 5) (N := some 100) (v := ?_) (a' := ?_) #[true, true, true, true, true, true, false, false, false, false, false, false, false, false, false, false, false, false, false, false, false, false, false, false, false, false, false, false] rfl rfl (any_of HT_.out (by kernel_rfl)) (fun _ _ _ h => h) (Or.inl ⟨by rfl, ?_⟩) ?_ ?_
                    rotate_left
                    ·intro w'
                     go_simp
                     with_reducible rfl
                    rotate_left
                    ·simp only [Act.put, List.setIfInBounds_toArray, List.set_cons_zero, List.set_cons_succ, i64_w, i32_w]
                     rfl
                    refine pure_ (i := 6) (N := some 101) (v := ?_) (a' := ?_) #[true, true, true, true, true, true, true, false, false, false, false, false, false, false, false, false, false, false, false, false, false, false, false, false, false, false, false, false] rfl rfl (any_of HT_.out (by kernel_rfl)) (fun _ _ _ h => h) (Or.inl ⟨by rfl, ?_⟩) ?_ ?_
                    rotate_left
                    ·intro w'
                     go_simp
                     with_reducible rfl
                    rotate_left
                    ·simp only [Act.put, List.setIfInBounds_toArray, List.set_cons_zero, List.set_cons_succ, i64_w, i32_w]
                     rfl
                    refine pure_ (i := 7) (N := some 102) (v := undef) (a' := ?_) #[true, true, true, true, true, true, true, true, false, false, false, false, false, false, false, false, false, false, false, false, false, false, false, false, false, false, false, false] rfl rfl (any_of HT_.out (by kernel_rfl)) (fun _ _ _ h => h) (Or.inr ⟨by rfl, rfl⟩) ?_ ?_
                    rotate_left
                    ·simp only [Act.put, List.setIfInBounds_toArray, List.set_cons_zero, List.set_cons_succ, i64_w, i32_w]
                     rfl
                    refine pure_ (i := 8) (N := some 103) (v := undef) (a' := ?_) #[true, true, true, true, true, true, true, true, true, false, false, false, false, false, false, false, false, false, false, false, false, false, false, false, false, false, false, false] rfl rfl (any_of HT_.out (by kernel_rfl)) (fun _ _ _ h => h) (Or.inr ⟨by rfl, rfl⟩) ?_ ?_
                    rotate_left
                    ·simp only [Act.put, List.setIfInBounds_toArray, List.set_cons_zero, List.set_cons_succ, i64_w, i32_w]
                     rfl
                    refine pure_ (i := 9) (N := some 104) (v := undef) (a' := ?_) #[true, true, true, true, true, true, true, true, true, true, false, false, false, false, false, false, false, false, false, false, false, false, false, false, false, false, false, false] rfl rfl (any_of HT_.out (by kernel_rfl)) (fun _ _ _ h => h) (Or.inr ⟨by rfl, rfl⟩) ?_ ?_
                    rotate_left
                    ·simp only [Act.put, List.setIfInBounds_toArray, List.set_cons_zero, List.set_cons_succ, i64_w, i32_w]
                     rfl
                    refine pure_ (i := 10) (N := some 105) (v := undef) (a' := ?_) #[true, true, true, true, true, true, true, true, true, true, true, false, false, false, false, false, false, false, false, false, false, false, false, false, false, false, false, false] rfl rfl (any_of HT_.out (by kernel_rfl)) (fun _ _ _ h => h) (Or.inr ⟨by rfl, rfl⟩) ?_ ?_
                    rotate_left
                    ·simp only [Act.put, List.setIfInBounds_toArray, List.set_cons_zero, List.set_cons_succ, i64_w, i32_w]
                     rfl
                    refine pure_ (i := 11) (N := some 106) (v := undef) (a' := ?_) #[true, true, true, true, true, true, true, true, true, true, true, true, false, false, false, false, false, false, false, false, false, false, false, false, false, false, false, false] rfl rfl (any_of HT_.out (by kernel_rfl)) (fun _ _ _ h => h) (Or.inr ⟨by rfl, rfl⟩) ?_ ?_
                    rotate_left
                    ·simp only [Act.put, List.setIfInBounds_toArray, List.set_cons_zero, List.set_cons_succ, i64_w, i32_w]
                     rfl
                    refine pure_ (i := 12) (N := some 107) (v := undef) (a' := ?_) #[true, true, true, true, true, true, true, true, true, true, true, true, true, false, false, false, false, false, false, false, false, false, false, false, false, false, false, false] rfl rfl (any_of HT_.out (by kernel_rfl)) (fun _ _ _ h => h) (Or.inr ⟨by rfl, rfl⟩) ?_ ?_
                    rotate_left
                    ·simp only [Act.put, List.setIfInBounds_toArray, List.set_cons_zero, List.set_cons_succ, i64_w, i32_w]
                     rfl
                    refine pure_ (i := 13) (N := some 108) (v := ?_) (a' := ?_) #[true, true, true, true, true, true, true, true, true, true, true, true, true, true, false, false, false, false, false, false, false, false, false, false, false, false, false, false] rfl rfl (any_of HT_.out (by kernel_rfl)) (fun _ _ _ h => h) (Or.inl ⟨by rfl, ?_⟩) ?_ ?_
                    rotate_left
                    ·intro w'
                     go_simp
                     with_reducible rfl
                    rotate_left
                    ·simp only [Act.put, List.setIfInBounds_toArray, List.set_cons_zero, List.set_cons_succ, i64_w, i32_w]
                     rfl
                    refine pure_ (i := 14) (N := some 109) (v := ?_) (a' := ?_) #[true, true, true, true, true, true, true, true, true, true, true, true, true, true, true, false, false, false, false, false, false, false, false, false, false, false, false, false] rfl rfl (any_of HT_.out (by kernel_rfl)) (fun _ _ _ h => h) (Or.inl ⟨by rfl, ?_⟩) ?_ ?_
                    rotate_left
                    ·intro w'
                     go_simp
                     with_reducible rfl
                    rotate_left
                    ·simp only [Act.put, List.setIfInBounds_toArray, List.set_cons_zero, List.set_cons_succ, i64_w, i32_w]
                     rfl
                    refine pure_ (i := 15) (N := some 110) (v := undef) (a' := ?_) #[true, true, true, true, true, true, true, true, true, true, true, true, true, true, true, true, false, false, false, false, false, false, false, false, false, false, false, false] rfl rfl (any_of HT_.out (by kernel_rfl)) (fun _ _ _ h => h) (Or.inr ⟨by rfl, rfl⟩) ?_ ?_
                    rotate_left
                    ·simp only [Act.put, List.setIfInBounds_toArray, List.set_cons_zero, List.set_cons_succ, i64_w, i32_w]
                     rfl
                    refine pure_ (i := 16) (N := some 111) (v := undef) (a' := ?_) #[true, true, true, true, true, true, true, true, true, true, true, true, true, true, true, true, true, false, false, false, false, false, false, false, false, false, false, false] rfl rfl (any_of HT_.out (by kernel_rfl)) (fun _ _ _ h => h) (Or.inr ⟨by rfl, rfl⟩) ?_ ?_
                    rotate_left
                    ·simp only [Act.put, List.setIfInBounds_toArray, List.set_cons_zero, List.set_cons_succ, i64_w, i32_w]
                     rfl
                    refine pure_ (i := 17) (N := some 112) (v := undef) (a' := ?_) #[true, true, true, true, true, true, true, true, true, true, true, true, true, true, true, true, true, true, false, false, false, false, false, false, false, false, false, false] rfl rfl (any_of HT_.out (by kernel_rfl)) (fun _ _ _ h => h) (Or.inr ⟨by rfl, rfl⟩) ?_ ?_
                    rotate_left
                    ·simp only [Act.put, List.setIfInBounds_toArray, List.set_cons_zero, List.set_cons_succ, i64_w, i32_w]
                     rfl
                    refine pure_ (i := 18) (N := some 113) (v := undef) (a' := ?_) #[true, true, true, true, true, true, true, true, true, true, true, true, true, true, true, true, true, true, true, false, false, false, false, false, false, false, false, false] rfl rfl (any_of HT_.out (by kernel_rfl)) (fun _ _ _ h => h) (Or.inr ⟨by rfl, rfl⟩) ?_ ?_
                    rotate_left
                    ·simp only [Act.put, List.setIfInBounds_toArray, List.set_cons_zero, List.set_cons_succ, i64_w, i32_w]
                     rfl
                    refine pure_ (i := 19) (N := some 114) (v := undef) (a' := ?_) #[true, true, true, true, true, true, true, true, true, true, true, true, true, true, true, true, true, true, true, true, false, false, false, false, false, false, false, false] rfl rfl (any_of HT_.out (by kernel_rfl)) (fun _ _ _ h => h) (Or.inr ⟨by rfl, rfl⟩) ?_ ?_
                    rotate_left
                    ·simp only [Act.put, List.setIfInBounds_toArray, List.set_cons_zero, List.set_cons_succ, i64_w, i32_w]
                     rfl
                    refine pure_ (i := 20) (N := some 115) (v := undef) (a' := ?_) #[true, true, true, true, true, true, true, true, true, true, true, true, true, true, true, true, true, true, true, true, true, false, false, false, false, false, false, false] rfl rfl (any_of HT_.out (by kernel_rfl)) (fun _ _ _ h => h) (Or.inr ⟨by rfl, rfl⟩) ?_ ?_
                    rotate_left
                    ·simp only [Act.put, List.setIfInBounds_toArray, List.set_cons_zero, List.set_cons_succ, i64_w, i32_w]
                     rfl
                    refine pure_ (i := 21) (N := some 116) (v := undef) (a' := ?_) #[true, true, true, true, true, true, true, true, true, true, true, true, true, true, true, true, true, true, true, true, true, true, false, false, false, false, false, false] rfl rfl (any_of HT_.out (by kernel_rfl)) (fun _ _ _ h => h) (Or.inr ⟨by rfl, rfl⟩) ?_ ?_
                    rotate_left
                    ·simp only [Act.put, List.setIfInBounds_toArray, List.set_cons_zero, List.set_cons_succ, i64_w, i32_w]
                     rfl
                    refine pure_ (i := 22) (N := some 117) (v := undef) (a' := ?_) #[true, true, true, true, true, true, true, true, true, true, true, true, true, true, true, true, true, true, true, true, true, true, true, false, false, false, false, false] rfl rfl (any_of HT_.out (by kernel_rfl)) (fun _ _ _ h => h) (Or.inr ⟨by rfl, rfl⟩) ?_ ?_
                    rotate_left
                    ·simp only [Act.put, List.setIfInBounds_toArray, List.set_cons_zero, List.set_cons_succ, i64_w, i32_w]
                     rfl
                    refine pure_ (i := 23) (N := some 118) (v := undef) (a' := ?_) #[true, true, true, true, true, true, true, true, true, true, true, true, true, true, true, true, true, true, true, true, true, true, true, true, false, false, false, false] rfl rfl (any_of HT_.out (by kernel_rfl)) (fun _ _ _ h => h) (Or.inr ⟨by rfl, rfl⟩) ?_ ?_
                    rotate_left
                    ·simp only [Act.put, List.setIfInBounds_toArray, List.set_cons_zero, List.set_cons_succ, i64_w, i32_w]
                     rfl
                    refine pure_ (i := 24) (N := some 119) (v := undef) (a' := ?_) #[true, true, true, true, true, true, true, true, true, true, true, true, true, true, true, true, true, true, true, true, true, true, true, true, true, false, false, false] rfl rfl (any_of HT_.out (by kernel_rfl)) (fun _ _ _ h => h) (Or.inr ⟨by rfl, rfl⟩) ?_ ?_
                    rotate_left
                    ·simp only [Act.put, List.setIfInBounds_toArray, List.set_cons_zero, List.set_cons_succ, i64_w, i32_w]
                     rfl
                    refine pure_ (i := 25) (N := some 120) (v := undef) (a' := ?_) #[true, true, true, true, true, true, true, true, true, true, true, true, true, true, true, true, true, true, true, true, true, true, true, true, true, true, false, false] rfl rfl (any_of HT_.out (by kernel_rfl)) (fun _ _ _ h => h) (Or.inr ⟨by rfl, rfl⟩) ?_ ?_
                    rotate_left
                    ·simp only [Act.put, List.setIfInBounds_toArray, List.set_cons_zero, List.set_cons_succ, i64_w, i32_w]
                     rfl
                    refine pure_ (i := 26) (N := some 121) (v := undef) (a' := ?_) #[true, true, true, true, true, true, true, true, true, true, true, true, true, true, true, true, true, true, true, true, true, true, true, true, true, true, true, false] rfl rfl (any_of HT_.out (by kernel_rfl)) (fun _ _ _ h => h) (Or.inr ⟨by rfl, rfl⟩) ?_ ?_
                    rotate_left
                    ·simp only [Act.put, List.setIfInBounds_toArray, List.set_cons_zero, List.set_cons_succ, i64_w, i32_w]
                     rfl
                    refine pure_ (i := 27) (N := some 122) (v := ?_) (a' := ?_) #[true, true, true, true, true, true, true, true, true, true, true, true, true, true, true, true, true, true, true, true, true, true, true, true, true, true, true, true] rfl rfl (any_of HT_.out (by kernel_rfl)) (fun _ _ _ h => h) (Or.inl ⟨by rfl, ?_⟩) ?_ ?_
                    rotate_left
                    ·intro w'
                     go_simp
                     with_reducible rfl
                    rotate_left
                    ·simp only [Act.put, List.setIfInBounds_toArray, List.set_cons_zero, List.set_cons_succ, i64_w, i32_w]
                     rfl
                    refine done_ (done_of HT_.out (by kernel_rfl)) ?_
                    try go_wp2
                    go_meet
                    case rel => exact ⟨_, (true), (by first | rfl | (simp; done) | (simp [*]; done)), H', ⟨by have := HJ3.out; have := HK2.out; have := HJ26.out; have := HJ37.out; first | omega | exact Nat.le_refl _⟩, ⟨by (with_reducible repeat (first | apply Kd.R_alloc | apply Kd.R_drewN | apply Kd.R_drew)); exact Kd.R_mono HO_5.out (fun _ hk => hk.2)⟩, ⟨by (with_reducible repeat (first | apply Kd.R_alloc | apply Kd.R_drewN | apply Kd.R_drew)); exact HO220.out⟩, ⟨by (with_reducible repeat (first | apply Kd.R_alloc | apply Kd.R_drewN | apply Kd.R_drew)); exact HO223.out⟩, ⟨by (with_reducible repeat (first | refine blk_drewN ?_ _ | refine blk_drew ?_ | refine blk_alloc ?_ _)); exact BK217.out⟩, ⟨by repeat (first | (with_reducible first | exact HB.out | apply below_alloc | apply pw_below_drewN | apply below_drew1 | refine below_set ?_ GE217.out) | exact HB.out)⟩⟩
                   ·rw [if_neg c58] at H
                    have c58b0 : decide (((rd_T31 t194 x9_2).f0) < 0) = false := decide_eq_false c58
                    clear c58
                    by_cases c61 : ((rd_T31 t194 x9_2).f1) < 0
                    ·rw [if_pos c61] at H
                     have c61b0 : decide (((rd_T31 t194 x9_2).f1) < 0) = true := decide_eq_true c61
                     clear c61
                     have H' := Aside0.mk H
                     clear H
                     try go_wp2
                     have n0_ := Aside0.mk (Kd.R_drew HO_5.out)
                     have n1_ := Aside0.mk (Kd.R_drew HO220.out)
                     have n2_ := Aside0.mk (Kd.R_drew HO223.out)
                     have n3_ := Aside0.mk (blk_drew BK217.out)
                     have n4_ := Aside0.mk (below_drew1 HB.out)
                     clear HO_5
                     clear HO220
                     clear HO223
                     clear BK217
                     clear HB
                     have HO_5 := n0_
                     have HO220 := n1_
                     have HO223 := n2_
                     have BK217 := n3_
                     have HB := n4_
                     clear n0_ n1_ n2_ n3_ n4_
                     obtain ⟨Ao63, co63, eo63⟩ := Kd.R_slice HO_5.out
                     (first | subst eo63 | (injection eo63 with f1_ f2_ f3_; have f4_ := f1_.symm; have f5_ := f3_.symm; clear f1_ f2_ f3_; subst f4_; subst f5_))
                     have p224 : 0 ≤ (x9_2 : Int) := of_decide_eq_true (by first | (with_reducible assumption) | assumption)
                     have q224 : x9_2 < (t194.length : Int) := of_decide_eq_true (by first | (with_reducible assumption) | assumption)
                     obtain ⟨ad224, e224, hx224_0, hx224_1⟩ := at_T31 (Kd.R_reads' HO_5.out).2.2 x9_2 p224 q224
                     cases e224
                     replace p224 := eq_true p224
                     replace q224 := eq_true q224
                     have p225 : 0 ≤ (x9_2 : Int) := of_decide_eq_true (by first | (with_reducible assumption) | assumption)
                     have q225 : x9_2 < (t194.length : Int) := of_decide_eq_true (by first | (with_reducible assumption) | assumption)
                     obtain ⟨ad225, e225, hx225_0, hx225_1⟩ := at_T31 (Kd.R_reads' HO_5.out).2.2 x9_2 p225 q225
                     obtain rfl : ad224 = ad225 := (by injection e225)
                     replace p225 := eq_true p225
                     replace q225 := eq_true q225
                     refine start_ (n := 28) (S := fun w' => w'.cell? (ad224.add ((x9_2).toNat * 2)) = some (.int .i64 ((rd_T31 t194 x9_2).f0)) ∧ w'.cell? ⟨(ad224.add ((x9_2).toNat * 2)).block, (ad224.add ((x9_2).toNat * 2)).off + 1, none⟩ = some (.int .i64 ((rd_T31 t194 x9_2).f1)) ∧ w'.cell? (ad224.add ((x9_2).toNat * 2)) = some (.int .i64 ((rd_T31 t194 x9_2).f0)) ∧ w'.cell? ⟨(ad224.add ((x9_2).toNat * 2)).block, (ad224.add ((x9_2).toNat * 2)).off + 1, none⟩ = some (.int .i64 ((rd_T31 t194 x9_2).f1))) (ds := []) #[false, false, false, false, false, false, false, false, false, false, false, false, false, false, false, false, false, false, false, false, false, false, false, false, false, false, false, false] (by kernel_rfl) rfl rfl ⟨hx224_0, hx224_1, hx225_0, hx225_1⟩ (fun hHeld => ?_); refine with_tabW variorumlaw16_LinenoCounts.tab18 variorumlaw16_LinenoCounts.bits18 (fun HT_ HW_ => ?_)
                     generalize w56.drew = w62 at HO_5 HO220 HO223 BK217 HB hx224_0 hx224_1 hx225_0 hx225_1 hHeld ⊢
                     refine pure_ (i := 0) (N := some 95) (v := ?_) (a' := ?_) #[true, false, false, false, false, false, false, false, false, false, false, false, false, false, false, false, false, false, false, false, false, false, false, false, false, false, false, false] rfl rfl (any_of HT_.out (by kernel_rfl)) (fun _ _ _ h => h) (Or.inl ⟨by rfl, ?_⟩) ?_ ?_
                     rotate_left
                     ·intro w'
                      go_simp
                      with_reducible rfl
                     rotate_left
                     ·simp only [Act.put, List.setIfInBounds_toArray, List.set_cons_zero, List.set_cons_succ, i64_w, i32_w]
                      rfl
                     refine pure_ (i := 1) (N := some 96) (v := ?_) (a' := ?_) #[true, true, false, false, false, false, false, false, false, false, false, false, false, false, false, false, false, false, false, false, false, false, false, false, false, false, false, false] rfl rfl (any_of HT_.out (by kernel_rfl)) (fun _ _ _ h => h) (Or.inl ⟨by rfl, ?_⟩) ?_ ?_
                     rotate_left
                     ·intro w'
                      go_simp
                      with_reducible rfl
                     rotate_left
                     ·simp only [Act.put, List.setIfInBounds_toArray, List.set_cons_zero, List.set_cons_succ, i64_w, i32_w]
                      rfl
                     refine pure_ (i := 2) (N := some 97) (v := ?_) (a' := ?_) #[true, true, true, false, false, false, false, false, false, false, false, false, false, false, false, false, false, false, false, false, false, false, false, false, false, false, false, false] rfl rfl (any_of HT_.out (by kernel_rfl)) (fun _ _ _ h => h) (Or.inl ⟨by rfl, ?_⟩) ?_ ?_
                     rotate_left
                     ·intro w'
                      go_simp
                      with_reducible rfl
                     rotate_left
                     ·simp only [Act.put, List.setIfInBounds_toArray, List.set_cons_zero, List.set_cons_succ, i64_w, i32_w]
                      rfl
                     refine pure_ (i := 3) (N := some 98) (v := ?_) (a' := ?_) #[true, true, true, true, false, false, false, false, false, false, false, false, false, false, false, false, false, false, false, false, false, false, false, false, false, false, false, false] rfl rfl (any_of HT_.out (by kernel_rfl)) (fun _ _ _ h => h) (Or.inl ⟨by rfl, ?_⟩) ?_ ?_
                     rotate_left
                     ·intro w'
                      go_simp
                      with_reducible rfl
                     rotate_left
                     ·simp only [Act.put, List.setIfInBounds_toArray, List.set_cons_zero, List.set_cons_succ, i64_w, i32_w]
                      rfl
                     refine take_ (i := 4) (N := some 99) (v := ?_) (a' := ?_) #[true, true, true, true, true, false, false, false, false, false, false, false, false, false, false, false, false, false, false, false, false, false, false, false, false, false, false, false] rfl rfl (take_ofW HT_.out HW_.out (by kernel_rfl)) (fun _ _ _ h => h) (Or.inl ⟨by rfl, ?_⟩) hHeld ?_ ?_
                     rotate_left
                     ·rintro w' ⟨s0, s1, s2, s3⟩
                      go_simp
                      with_reducible rfl
                     rotate_left
                     ·simp only [Act.put, List.setIfInBounds_toArray, List.set_cons_zero, List.set_cons_succ, i64_w, i32_w]
                      rfl
                     refine pure_ (i := 5) (N := some 100) (v := ?_) (a' := ?_) #[true, true, true, true, true, true, false, false, false, false, false, false, false, false, false, false, false, false, false, false, false, false, false, false, false, false, false, false] rfl rfl (any_of HT_.out (by kernel_rfl)) (fun _ _ _ h => h) (Or.inl ⟨by rfl, ?_⟩) ?_ ?_
                     rotate_left
                     ·intro w'
                      go_simp
                      with_reducible rfl
                     rotate_left
                     ·simp only [Act.put, List.setIfInBounds_toArray, List.set_cons_zero, List.set_cons_succ, i64_w, i32_w]
                      rfl
                     refine pure_ (i := 6) (N := some 101) (v := ?_) (a' := ?_) #[true, true, true, true, true, true, true, false, false, false, false, false, false, false, false, false, false, false, false, false, false, false, false, false, false, false, false, false] rfl rfl (any_of HT_.out (by kernel_rfl)) (fun _ _ _ h => h) (Or.inl ⟨by rfl, ?_⟩) ?_ ?_
                     rotate_left
                     ·intro w'
                      go_simp
                      with_reducible rfl
                     rotate_left
                     ·simp only [Act.put, List.setIfInBounds_toArray, List.set_cons_zero, List.set_cons_succ, i64_w, i32_w]
                      rfl
                     refine pure_ (i := 7) (N := some 102) (v := ?_) (a' := ?_) #[true, true, true, true, true, true, true, true, false, false, false, false, false, false, false, false, false, false, false, false, false, false, false, false, false, false, false, false] rfl rfl (any_of HT_.out (by kernel_rfl)) (fun _ _ _ h => h) (Or.inl ⟨by rfl, ?_⟩) ?_ ?_
                     rotate_left
                     ·intro w'
                      go_simp
                      with_reducible rfl
                     rotate_left
                     ·simp only [Act.put, List.setIfInBounds_toArray, List.set_cons_zero, List.set_cons_succ, i64_w, i32_w]
                      rfl
                     refine pure_ (i := 8) (N := some 103) (v := ?_) (a' := ?_) #[true, true, true, true, true, true, true, true, true, false, false, false, false, false, false, false, false, false, false, false, false, false, false, false, false, false, false, false] rfl rfl (any_of HT_.out (by kernel_rfl)) (fun _ _ _ h => h) (Or.inl ⟨by rfl, ?_⟩) ?_ ?_
                     rotate_left
                     ·intro w'
                      go_simp
                      with_reducible rfl
                     rotate_left
                     ·simp only [Act.put, List.setIfInBounds_toArray, List.set_cons_zero, List.set_cons_succ, i64_w, i32_w]
                      rfl
                     refine pure_ (i := 9) (N := some 104) (v := ?_) (a' := ?_) #[true, true, true, true, true, true, true, true, true, true, false, false, false, false, false, false, false, false, false, false, false, false, false, false, false, false, false, false] rfl rfl (any_of HT_.out (by kernel_rfl)) (fun _ _ _ h => h) (Or.inl ⟨by rfl, ?_⟩) ?_ ?_
                     rotate_left
                     ·intro w'
                      go_simp
                      with_reducible rfl
                     rotate_left
                     ·simp only [Act.put, List.setIfInBounds_toArray, List.set_cons_zero, List.set_cons_succ, i64_w, i32_w]
                      rfl
                     refine pure_ (i := 10) (N := some 105) (v := ?_) (a' := ?_) #[true, true, true, true, true, true, true, true, true, true, true, false, false, false, false, false, false, false, false, false, false, false, false, false, false, false, false, false] rfl rfl (any_of HT_.out (by kernel_rfl)) (fun _ _ _ h => h) (Or.inl ⟨by rfl, ?_⟩) ?_ ?_
                     rotate_left
                     ·intro w'
                      go_simp
                      with_reducible rfl
                     rotate_left
                     ·simp only [Act.put, List.setIfInBounds_toArray, List.set_cons_zero, List.set_cons_succ, i64_w, i32_w]
                      rfl
                     refine take_ (i := 11) (N := some 106) (v := ?_) (a' := ?_) #[true, true, true, true, true, true, true, true, true, true, true, true, false, false, false, false, false, false, false, false, false, false, false, false, false, false, false, false] rfl rfl (take_ofW HT_.out HW_.out (by kernel_rfl)) (fun _ _ _ h => h) (Or.inl ⟨by rfl, ?_⟩) hHeld ?_ ?_
                     rotate_left
                     ·rintro w' ⟨s0, s1, s2, s3⟩
                      go_simp
                      with_reducible rfl
                     rotate_left
                     ·simp only [Act.put, List.setIfInBounds_toArray, List.set_cons_zero, List.set_cons_succ, i64_w, i32_w]
                      rfl
                     refine pure_ (i := 12) (N := some 107) (v := ?_) (a' := ?_) #[true, true, true, true, true, true, true, true, true, true, true, true, true, false, false, false, false, false, false, false, false, false, false, false, false, false, false, false] rfl rfl (any_of HT_.out (by kernel_rfl)) (fun _ _ _ h => h) (Or.inl ⟨by rfl, ?_⟩) ?_ ?_
                     rotate_left
                     ·intro w'
                      go_simp
                      with_reducible rfl
                     rotate_left
                     ·simp only [Act.put, List.setIfInBounds_toArray, List.set_cons_zero, List.set_cons_succ, i64_w, i32_w]
                      rfl
                     refine pure_ (i := 13) (N := some 108) (v := ?_) (a' := ?_) #[true, true, true, true, true, true, true, true, true, true, true, true, true, true, false, false, false, false, false, false, false, false, false, false, false, false, false, false] rfl rfl (any_of HT_.out (by kernel_rfl)) (fun _ _ _ h => h) (Or.inl ⟨by rfl, ?_⟩) ?_ ?_
                     rotate_left
                     ·intro w'
                      go_simp
                      with_reducible rfl
                     rotate_left
                     ·simp only [Act.put, List.setIfInBounds_toArray, List.set_cons_zero, List.set_cons_succ, i64_w, i32_w]
                      rfl
                     refine pure_ (i := 14) (N := some 109) (v := ?_) (a' := ?_) #[true, true, true, true, true, true, true, true, true, true, true, true, true, true, true, false, false, false, false, false, false, false, false, false, false, false, false, false] rfl rfl (any_of HT_.out (by kernel_rfl)) (fun _ _ _ h => h) (Or.inl ⟨by rfl, ?_⟩) ?_ ?_
                     rotate_left
                     ·intro w'
                      go_simp
                      with_reducible rfl
                     rotate_left
                     ·simp only [Act.put, List.setIfInBounds_toArray, List.set_cons_zero, List.set_cons_succ, i64_w, i32_w]
                      rfl
                     refine pure_ (i := 15) (N := some 110) (v := undef) (a' := ?_) #[true, true, true, true, true, true, true, true, true, true, true, true, true, true, true, true, false, false, false, false, false, false, false, false, false, false, false, false] rfl rfl (any_of HT_.out (by kernel_rfl)) (fun _ _ _ h => h) (Or.inr ⟨by rfl, rfl⟩) ?_ ?_
                     rotate_left
                     ·simp only [Act.put, List.setIfInBounds_toArray, List.set_cons_zero, List.set_cons_succ, i64_w, i32_w]
                      rfl
                     refine pure_ (i := 16) (N := some 111) (v := undef) (a' := ?_) #[true, true, true, true, true, true, true, true, true, true, true, true, true, true, true, true, true, false, false, false, false, false, false, false, false, false, false, false] rfl rfl (any_of HT_.out (by kernel_rfl)) (fun _ _ _ h => h) (Or.inr ⟨by rfl, rfl⟩) ?_ ?_
                     rotate_left
                     ·simp only [Act.put, List.setIfInBounds_toArray, List.set_cons_zero, List.set_cons_succ, i64_w, i32_w]
                      rfl
                     refine pure_ (i := 17) (N := some 112) (v := undef) (a' := ?_) #[true, true, true, true, true, true, true, true, true, true, true, true, true, true, true, true, true, true, false, false, false, false, false, false, false, false, false, false] rfl rfl (any_of HT_.out (by kernel_rfl)) (fun _ _ _ h => h) (Or.inr ⟨by rfl, rfl⟩) ?_ ?_
                     rotate_left
                     ·simp only [Act.put, List.setIfInBounds_toArray, List.set_cons_zero, List.set_cons_succ, i64_w, i32_w]
                      rfl
                     refine pure_ (i := 18) (N := some 113) (v := undef) (a' := ?_) #[true, true, true, true, true, true, true, true, true, true, true, true, true, true, true, true, true, true, true, false, false, false, false, false, false, false, false, false] rfl rfl (any_of HT_.out (by kernel_rfl)) (fun _ _ _ h => h) (Or.inr ⟨by rfl, rfl⟩) ?_ ?_
                     rotate_left
                     ·simp only [Act.put, List.setIfInBounds_toArray, List.set_cons_zero, List.set_cons_succ, i64_w, i32_w]
                      rfl
                     refine pure_ (i := 19) (N := some 114) (v := undef) (a' := ?_) #[true, true, true, true, true, true, true, true, true, true, true, true, true, true, true, true, true, true, true, true, false, false, false, false, false, false, false, false] rfl rfl (any_of HT_.out (by kernel_rfl)) (fun _ _ _ h => h) (Or.inr ⟨by rfl, rfl⟩) ?_ ?_
                     rotate_left
                     ·simp only [Act.put, List.setIfInBounds_toArray, List.set_cons_zero, List.set_cons_succ, i64_w, i32_w]
                      rfl
                     refine pure_ (i := 20) (N := some 115) (v := undef) (a' := ?_) #[true, true, true, true, true, true, true, true, true, true, true, true, true, true, true, true, true, true, true, true, true, false, false, false, false, false, false, false] rfl rfl (any_of HT_.out (by kernel_rfl)) (fun _ _ _ h => h) (Or.inr ⟨by rfl, rfl⟩) ?_ ?_
                     rotate_left
                     ·simp only [Act.put, List.setIfInBounds_toArray, List.set_cons_zero, List.set_cons_succ, i64_w, i32_w]
                      rfl
                     refine pure_ (i := 21) (N := some 116) (v := undef) (a' := ?_) #[true, true, true, true, true, true, true, true, true, true, true, true, true, true, true, true, true, true, true, true, true, true, false, false, false, false, false, false] rfl rfl (any_of HT_.out (by kernel_rfl)) (fun _ _ _ h => h) (Or.inr ⟨by rfl, rfl⟩) ?_ ?_
                     rotate_left
                     ·simp only [Act.put, List.setIfInBounds_toArray, List.set_cons_zero, List.set_cons_succ, i64_w, i32_w]
                      rfl
                     refine pure_ (i := 22) (N := some 117) (v := undef) (a' := ?_) #[true, true, true, true, true, true, true, true, true, true, true, true, true, true, true, true, true, true, true, true, true, true, true, false, false, false, false, false] rfl rfl (any_of HT_.out (by kernel_rfl)) (fun _ _ _ h => h) (Or.inr ⟨by rfl, rfl⟩) ?_ ?_
                     rotate_left
                     ·simp only [Act.put, List.setIfInBounds_toArray, List.set_cons_zero, List.set_cons_succ, i64_w, i32_w]
                      rfl
                     refine pure_ (i := 23) (N := some 118) (v := undef) (a' := ?_) #[true, true, true, true, true, true, true, true, true, true, true, true, true, true, true, true, true, true, true, true, true, true, true, true, false, false, false, false] rfl rfl (any_of HT_.out (by kernel_rfl)) (fun _ _ _ h => h) (Or.inr ⟨by rfl, rfl⟩) ?_ ?_
                     rotate_left
                     ·simp only [Act.put, List.setIfInBounds_toArray, List.set_cons_zero, List.set_cons_succ, i64_w, i32_w]
                      rfl
                     refine pure_ (i := 24) (N := some 119) (v := undef) (a' := ?_) #[true, true, true, true, true, true, true, true, true, true, true, true, true, true, true, true, true, true, true, true, true, true, true, true, true, false, false, false] rfl rfl (any_of HT_.out (by kernel_rfl)) (fun _ _ _ h => h) (Or.inr ⟨by rfl, rfl⟩) ?_ ?_
                     rotate_left
                     ·simp only [Act.put, List.setIfInBounds_toArray, List.set_cons_zero, List.set_cons_succ, i64_w, i32_w]
                      rfl
                     refine pure_ (i := 25) (N := some 120) (v := undef) (a' := ?_) #[true, true, true, true, true, true, true, true, true, true, true, true, true, true, true, true, true, true, true, true, true, true, true, true, true, true, false, false] rfl rfl (any_of HT_.out (by kernel_rfl)) (fun _ _ _ h => h) (Or.inr ⟨by rfl, rfl⟩) ?_ ?_
                     rotate_left
                     ·simp only [Act.put, List.setIfInBounds_toArray, List.set_cons_zero, List.set_cons_succ, i64_w, i32_w]
                      rfl
                     refine pure_ (i := 26) (N := some 121) (v := undef) (a' := ?_) #[true, true, true, true, true, true, true, true, true, true, true, true, true, true, true, true, true, true, true, true, true, true, true, true, true, true, true, false] rfl rfl (any_of HT_.out (by kernel_rfl)) (fun _ _ _ h => h) (Or.inr ⟨by rfl, rfl⟩) ?_ ?_
                     rotate_left
                     ·simp only [Act.put, List.setIfInBounds_toArray, List.set_cons_zero, List.set_cons_succ, i64_w, i32_w]
                      rfl
                     refine pure_ (i := 27) (N := some 122) (v := ?_) (a' := ?_) #[true, true, true, true, true, true, true, true, true, true, true, true, true, true, true, true, true, true, true, true, true, true, true, true, true, true, true, true] rfl rfl (any_of HT_.out (by kernel_rfl)) (fun _ _ _ h => h) (Or.inl ⟨by rfl, ?_⟩) ?_ ?_
                     rotate_left
                     ·intro w'
                      go_simp
                      with_reducible rfl
                     rotate_left
                     ·simp only [Act.put, List.setIfInBounds_toArray, List.set_cons_zero, List.set_cons_succ, i64_w, i32_w]
                      rfl
                     refine done_ (done_of HT_.out (by kernel_rfl)) ?_
                     try go_wp2
                     go_meet
                     case rel => exact ⟨_, (true), (by first | rfl | (simp; done) | (simp [*]; done)), H', ⟨by have := HJ3.out; have := HK2.out; have := HJ26.out; have := HJ37.out; first | omega | exact Nat.le_refl _⟩, ⟨by (with_reducible repeat (first | apply Kd.R_alloc | apply Kd.R_drewN | apply Kd.R_drew)); exact Kd.R_mono HO_5.out (fun _ hk => hk.2)⟩, ⟨by (with_reducible repeat (first | apply Kd.R_alloc | apply Kd.R_drewN | apply Kd.R_drew)); exact HO220.out⟩, ⟨by (with_reducible repeat (first | apply Kd.R_alloc | apply Kd.R_drewN | apply Kd.R_drew)); exact HO223.out⟩, ⟨by (with_reducible repeat (first | refine blk_drewN ?_ _ | refine blk_drew ?_ | refine blk_alloc ?_ _)); exact BK217.out⟩, ⟨by repeat (first | (with_reducible first | exact HB.out | apply below_alloc | apply pw_below_drewN | apply below_drew1 | refine below_set ?_ GE217.out) | exact HB.out)⟩⟩
                    ·rw [if_neg c61] at H
                     have c61b0 : decide (((rd_T31 t194 x9_2).f1) < 0) = false := decide_eq_false c61
                     clear c61
                     have H' := Aside0.mk H
                     clear H
                     try go_wp2
                     have n0_ := Aside0.mk (Kd.R_drew HO_5.out)
                     have n1_ := Aside0.mk (Kd.R_drew HO220.out)
                     have n2_ := Aside0.mk (Kd.R_drew HO223.out)
                     have n3_ := Aside0.mk (blk_drew BK217.out)
                     have n4_ := Aside0.mk (below_drew1 HB.out)
                     clear HO_5
                     clear HO220
                     clear HO223
                     clear BK217
                     clear HB
                     have HO_5 := n0_
                     have HO220 := n1_
                     have HO223 := n2_
                     have BK217 := n3_
                     have HB := n4_
                     clear n0_ n1_ n2_ n3_ n4_
                     obtain ⟨Ao65, co65, eo65⟩ := Kd.R_slice HO_5.out
                     (first | subst eo65 | (injection eo65 with f1_ f2_ f3_; have f4_ := f1_.symm; have f5_ := f3_.symm; clear f1_ f2_ f3_; subst f4_; subst f5_))
                     have p224 : 0 ≤ (x9_2 : Int) := of_decide_eq_true (by first | (with_reducible assumption) | assumption)
                     have q224 : x9_2 < (t194.length : Int) := of_decide_eq_true (by first | (with_reducible assumption) | assumption)
                     obtain ⟨ad224, e224, hx224_0, hx224_1⟩ := at_T31 (Kd.R_reads' HO_5.out).2.2 x9_2 p224 q224
                     cases e224
                     replace p224 := eq_true p224
                     replace q224 := eq_true q224
                     have p225 : 0 ≤ (x9_2 : Int) := of_decide_eq_true (by first | (with_reducible assumption) | assumption)
                     have q225 : x9_2 < (t194.length : Int) := of_decide_eq_true (by first | (with_reducible assumption) | assumption)
                     obtain ⟨ad225, e225, hx225_0, hx225_1⟩ := at_T31 (Kd.R_reads' HO_5.out).2.2 x9_2 p225 q225
                     obtain rfl : ad224 = ad225 := (by injection e225)
                     replace p225 := eq_true p225
                     replace q225 := eq_true q225
                     have p226 : 0 ≤ (x9_2 : Int) := of_decide_eq_true (by first | (with_reducible assumption) | assumption)
                     have q226 : x9_2 < (l0.length : Int) := of_decide_eq_true (by first | (with_reducible assumption) | assumption)
                     obtain ⟨ad226, e226, hx226_0, hx226_1, hx226_2, hx226_3, hx226_4, hx226_5, hx226_6⟩ := at_T29 HR0.out x9_2 p226 q226
                     have hw226_6 := hx226_6
                     have hw226_5 := hx226_5
                     have hw226_4 := hx226_4
                     have hw226_3 := hx226_3
                     have hw226_2 := hx226_2
                     have hw226_1 := hx226_1
                     have hw226_0 := hx226_0
                     obtain rfl : ad205 = ad226 := (by injection e226)
                     replace hx226_0 := (HB.out.cell (World.block_lt_of_cell? w _ hx226_0)).trans hx226_0
                     replace hx226_1 := (HB.out.cell (World.block_lt_of_cell? w _ hx226_1)).trans hx226_1
                     replace hx226_2 := (HB.out.cell (World.block_lt_of_cell? w _ hx226_2)).trans hx226_2
                     replace hx226_3 := (HB.out.cell (World.block_lt_of_cell? w _ hx226_3)).trans hx226_3
                     replace hx226_4 := (HB.out.cell (World.block_lt_of_cell? w _ hx226_4)).trans hx226_4
                     replace hx226_5 := (HB.out.cell (World.block_lt_of_cell? w _ hx226_5)).trans hx226_5
                     replace hx226_6 := (HB.out.cell (World.block_lt_of_cell? w _ hx226_6)).trans hx226_6
                     replace p226 := eq_true p226
                     replace q226 := eq_true q226
                     have p227 : 0 ≤ (x9_2 : Int) := of_decide_eq_true (by first | (with_reducible assumption) | assumption)
                     have q227 : x9_2 < (t194.length : Int) := of_decide_eq_true (by first | (with_reducible assumption) | assumption)
                     obtain ⟨ad227, e227, hx227_0, hx227_1⟩ := at_T31 (Kd.R_reads' HO_5.out).2.2 x9_2 p227 q227
                     obtain rfl : ad224 = ad227 := (by injection e227)
                     replace p227 := eq_true p227
                     replace q227 := eq_true q227
                     refine start_ (n := 28) (S := fun w' => w'.cell? (ad224.add ((x9_2).toNat * 2)) = some (.int .i64 ((rd_T31 t194 x9_2).f0)) ∧ w'.cell? ⟨(ad224.add ((x9_2).toNat * 2)).block, (ad224.add ((x9_2).toNat * 2)).off + 1, none⟩ = some (.int .i64 ((rd_T31 t194 x9_2).f1)) ∧ w'.cell? (ad224.add ((x9_2).toNat * 2)) = some (.int .i64 ((rd_T31 t194 x9_2).f0)) ∧ w'.cell? ⟨(ad224.add ((x9_2).toNat * 2)).block, (ad224.add ((x9_2).toNat * 2)).off + 1, none⟩ = some (.int .i64 ((rd_T31 t194 x9_2).f1)) ∧ w'.cell? (ad205.add ((x9_2).toNat * 7)) = some (.int .i64 ((rd_T29 l0 x9_2).f0)) ∧ w'.cell? ⟨(ad205.add ((x9_2).toNat * 7)).block, (ad205.add ((x9_2).toNat * 7)).off + 1, none⟩ = some (.int .i64 ((rd_T29 l0 x9_2).f1)) ∧ w'.cell? ⟨(ad205.add ((x9_2).toNat * 7)).block, (ad205.add ((x9_2).toNat * 7)).off + 2, none⟩ = some (.int .i64 ((rd_T29 l0 x9_2).f2)) ∧ w'.cell? ⟨(ad205.add ((x9_2).toNat * 7)).block, (ad205.add ((x9_2).toNat * 7)).off + 3, none⟩ = some (.int .i64 ((rd_T29 l0 x9_2).f3)) ∧ w'.cell? ⟨(ad205.add ((x9_2).toNat * 7)).block, (ad205.add ((x9_2).toNat * 7)).off + 4, none⟩ = some (.bool ((rd_T29 l0 x9_2).f4)) ∧ w'.cell? ⟨(ad205.add ((x9_2).toNat * 7)).block, (ad205.add ((x9_2).toNat * 7)).off + 5, none⟩ = some (.bool ((rd_T29 l0 x9_2).f5)) ∧ w'.cell? ⟨(ad205.add ((x9_2).toNat * 7)).block, (ad205.add ((x9_2).toNat * 7)).off + 6, none⟩ = some (.bool ((rd_T29 l0 x9_2).f6)) ∧ w'.cell? (ad224.add ((x9_2).toNat * 2)) = some (.int .i64 ((rd_T31 t194 x9_2).f0)) ∧ w'.cell? ⟨(ad224.add ((x9_2).toNat * 2)).block, (ad224.add ((x9_2).toNat * 2)).off + 1, none⟩ = some (.int .i64 ((rd_T31 t194 x9_2).f1))) (ds := []) #[false, false, false, false, false, false, false, false, false, false, false, false, false, false, false, false, false, false, false, false, false, false, false, false, false, false, false, false] (by kernel_rfl) rfl rfl ⟨hx224_0, hx224_1, hx225_0, hx225_1, ((HB.out.cell (World.block_lt_of_cell? w _ hw226_0)).trans hw226_0), ((HB.out.cell (World.block_lt_of_cell? w _ hw226_1)).trans hw226_1), ((HB.out.cell (World.block_lt_of_cell? w _ hw226_2)).trans hw226_2), ((HB.out.cell (World.block_lt_of_cell? w _ hw226_3)).trans hw226_3), ((HB.out.cell (World.block_lt_of_cell? w _ hw226_4)).trans hw226_4), ((HB.out.cell (World.block_lt_of_cell? w _ hw226_5)).trans hw226_5), ((HB.out.cell (World.block_lt_of_cell? w _ hw226_6)).trans hw226_6), hx227_0, hx227_1⟩ (fun hHeld => ?_); refine with_tabW variorumlaw16_LinenoCounts.tab18 variorumlaw16_LinenoCounts.bits18 (fun HT_ HW_ => ?_)
                     generalize w56.drew = w64 at HO_5 HO220 HO223 BK217 HB hx224_0 hx224_1 hx225_0 hx225_1 hx226_0 hx226_1 hx226_2 hx226_3 hx226_4 hx226_5 hx226_6 hx227_0 hx227_1 hHeld ⊢
                     refine pure_ (i := 0) (N := some 95) (v := ?_) (a' := ?_) #[true, false, false, false, false, false, false, false, false, false, false, false, false, false, false, false, false, false, false, false, false, false, false, false, false, false, false, false] rfl rfl (any_of HT_.out (by kernel_rfl)) (fun _ _ _ h => h) (Or.inl ⟨by rfl, ?_⟩) ?_ ?_
                     rotate_left
                     ·intro w'
                      go_simp
                      with_reducible rfl
                     rotate_left
                     ·simp only [Act.put, List.setIfInBounds_toArray, List.set_cons_zero, List.set_cons_succ, i64_w, i32_w]
                      rfl
                     refine pure_ (i := 1) (N := some 96) (v := ?_) (a' := ?_) #[true, true, false, false, false, false, false, false, false, false, false, false, false, false, false, false, false, false, false, false, false, false, false, false, false, false, false, false] rfl rfl (any_of HT_.out (by kernel_rfl)) (fun _ _ _ h => h) (Or.inl ⟨by rfl, ?_⟩) ?_ ?_
                     rotate_left
                     ·intro w'
                      go_simp
                      with_reducible rfl
                     rotate_left
                     ·simp only [Act.put, List.setIfInBounds_toArray, List.set_cons_zero, List.set_cons_succ, i64_w, i32_w]
                      rfl
                     refine pure_ (i := 2) (N := some 97) (v := ?_) (a' := ?_) #[true, true, true, false, false, false, false, false, false, false, false, false, false, false, false, false, false, false, false, false, false, false, false, false, false, false, false, false] rfl rfl (any_of HT_.out (by kernel_rfl)) (fun _ _ _ h => h) (Or.inl ⟨by rfl, ?_⟩) ?_ ?_
                     rotate_left
                     ·intro w'
                      go_simp
                      with_reducible rfl
                     rotate_left
                     ·simp only [Act.put, List.setIfInBounds_toArray, List.set_cons_zero, List.set_cons_succ, i64_w, i32_w]
                      rfl
                     refine pure_ (i := 3) (N := some 98) (v := ?_) (a' := ?_) #[true, true, true, true, false, false, false, false, false, false, false, false, false, false, false, false, false, false, false, false, false, false, false, false, false, false, false, false] rfl rfl (any_of HT_.out (by kernel_rfl)) (fun _ _ _ h => h) (Or.inl ⟨by rfl, ?_⟩) ?_ ?_
                     rotate_left
                     ·intro w'
                      go_simp
                      with_reducible rfl
                     rotate_left
                     ·simp only [Act.put, List.setIfInBounds_toArray, List.set_cons_zero, List.set_cons_succ, i64_w, i32_w]
                      rfl
                     refine take_ (i := 4) (N := some 99) (v := ?_) (a' := ?_) #[true, true, true, true, true, false, false, false, false, false, false, false, false, false, false, false, false, false, false, false, false, false, false, false, false, false, false, false] rfl rfl (take_ofW HT_.out HW_.out (by kernel_rfl)) (fun _ _ _ h => h) (Or.inl ⟨by rfl, ?_⟩) hHeld ?_ ?_
                     rotate_left
                     ·rintro w' ⟨s0, s1, s2, s3, s4, s5, s6, s7, s8, s9, s10, s11, s12⟩
                      go_simp
                      with_reducible rfl
                     rotate_left
                     ·simp only [Act.put, List.setIfInBounds_toArray, List.set_cons_zero, List.set_cons_succ, i64_w, i32_w]
                      rfl
                     refine pure_ (i := 5) (N := some 100) (v := ?_) (a' := ?_) #[true, true, true, true, true, true, false, false, false, false, false, false, false, false, false, false, false, false, false, false, false, false, false, false, false, false, false, false] rfl rfl (any_of HT_.out (by kernel_rfl)) (fun _ _ _ h => h) (Or.inl ⟨by rfl, ?_⟩) ?_ ?_
                     rotate_left
                     ·intro w'
                      go_simp
                      with_reducible rfl
                     rotate_left
                     ·simp only [Act.put, List.setIfInBounds_toArray, List.set_cons_zero, List.set_cons_succ, i64_w, i32_w]
                      rfl
                     refine pure_ (i := 6) (N := some 101) (v := ?_) (a' := ?_) #[true, true, true, true, true, true, true, false, false, false, false, false, false, false, false, false, false, false, false, false, false, false, false, false, false, false, false, false] rfl rfl (any_of HT_.out (by kernel_rfl)) (fun _ _ _ h => h) (Or.inl ⟨by rfl, ?_⟩) ?_ ?_
                     rotate_left
                     ·intro w'
                      go_simp
                      with_reducible rfl
                     rotate_left
                     ·simp only [Act.put, List.setIfInBounds_toArray, List.set_cons_zero, List.set_cons_succ, i64_w, i32_w]
                      rfl
                     refine pure_ (i := 7) (N := some 102) (v := ?_) (a' := ?_) #[true, true, true, true, true, true, true, true, false, false, false, false, false, false, false, false, false, false, false, false, false, false, false, false, false, false, false, false] rfl rfl (any_of HT_.out (by kernel_rfl)) (fun _ _ _ h => h) (Or.inl ⟨by rfl, ?_⟩) ?_ ?_
                     rotate_left
                     ·intro w'
                      go_simp
                      with_reducible rfl
                     rotate_left
                     ·simp only [Act.put, List.setIfInBounds_toArray, List.set_cons_zero, List.set_cons_succ, i64_w, i32_w]
                      rfl
                     refine pure_ (i := 8) (N := some 103) (v := ?_) (a' := ?_) #[true, true, true, true, true, true, true, true, true, false, false, false, false, false, false, false, false, false, false, false, false, false, false, false, false, false, false, false] rfl rfl (any_of HT_.out (by kernel_rfl)) (fun _ _ _ h => h) (Or.inl ⟨by rfl, ?_⟩) ?_ ?_
                     rotate_left
                     ·intro w'
                      go_simp
                      with_reducible rfl
                     rotate_left
                     ·simp only [Act.put, List.setIfInBounds_toArray, List.set_cons_zero, List.set_cons_succ, i64_w, i32_w]
                      rfl
                     refine pure_ (i := 9) (N := some 104) (v := ?_) (a' := ?_) #[true, true, true, true, true, true, true, true, true, true, false, false, false, false, false, false, false, false, false, false, false, false, false, false, false, false, false, false] rfl rfl (any_of HT_.out (by kernel_rfl)) (fun _ _ _ h => h) (Or.inl ⟨by rfl, ?_⟩) ?_ ?_
                     rotate_left
                     ·intro w'
                      go_simp
                      with_reducible rfl
                     rotate_left
                     ·simp only [Act.put, List.setIfInBounds_toArray, List.set_cons_zero, List.set_cons_succ, i64_w, i32_w]
                      rfl
                     refine pure_ (i := 10) (N := some 105) (v := ?_) (a' := ?_) #[true, true, true, true, true, true, true, true, true, true, true, false, false, false, false, false, false, false, false, false, false, false, false, false, false, false, false, false] rfl rfl (any_of HT_.out (by kernel_rfl)) (fun _ _ _ h => h) (Or.inl ⟨by rfl, ?_⟩) ?_ ?_
                     rotate_left
                     ·intro w'
                      go_simp
                      with_reducible rfl
                     rotate_left
                     ·simp only [Act.put, List.setIfInBounds_toArray, List.set_cons_zero, List.set_cons_succ, i64_w, i32_w]
                      rfl
                     refine take_ (i := 11) (N := some 106) (v := ?_) (a' := ?_) #[true, true, true, true, true, true, true, true, true, true, true, true, false, false, false, false, false, false, false, false, false, false, false, false, false, false, false, false] rfl rfl (take_ofW HT_.out HW_.out (by kernel_rfl)) (fun _ _ _ h => h) (Or.inl ⟨by rfl, ?_⟩) hHeld ?_ ?_
                     rotate_left
                     ·rintro w' ⟨s0, s1, s2, s3, s4, s5, s6, s7, s8, s9, s10, s11, s12⟩
                      go_simp
                      with_reducible rfl
                     rotate_left
                     ·simp only [Act.put, List.setIfInBounds_toArray, List.set_cons_zero, List.set_cons_succ, i64_w, i32_w]
                      rfl
                     refine pure_ (i := 12) (N := some 107) (v := ?_) (a' := ?_) #[true, true, true, true, true, true, true, true, true, true, true, true, true, false, false, false, false, false, false, false, false, false, false, false, false, false, false, false] rfl rfl (any_of HT_.out (by kernel_rfl)) (fun _ _ _ h => h) (Or.inl ⟨by rfl, ?_⟩) ?_ ?_
                     rotate_left
                     ·intro w'
                      go_simp
                      with_reducible rfl
                     rotate_left
                     ·simp only [Act.put, List.setIfInBounds_toArray, List.set_cons_zero, List.set_cons_succ, i64_w, i32_w]
                      rfl
                     refine pure_ (i := 13) (N := some 108) (v := ?_) (a' := ?_) #[true, true, true, true, true, true, true, true, true, true, true, true, true, true, false, false, false, false, false, false, false, false, false, false, false, false, false, false] rfl rfl (any_of HT_.out (by kernel_rfl)) (fun _ _ _ h => h) (Or.inl ⟨by rfl, ?_⟩) ?_ ?_
                     rotate_left
                     ·intro w'
                      go_simp
                      with_reducible rfl
                     rotate_left
                     ·simp only [Act.put, List.setIfInBounds_toArray, List.set_cons_zero, List.set_cons_succ, i64_w, i32_w]
                      rfl
                     refine pure_ (i := 14) (N := some 109) (v := ?_) (a' := ?_) #[true, true, true, true, true, true, true, true, true, true, true, true, true, true, true, false, false, false, false, false, false, false, false, false, false, false, false, false] rfl rfl (any_of HT_.out (by kernel_rfl)) (fun _ _ _ h => h) (Or.inl ⟨by rfl, ?_⟩) ?_ ?_
                     rotate_left
                     ·intro w'
                      go_simp
                      with_reducible rfl
                     rotate_left
                     ·simp only [Act.put, List.setIfInBounds_toArray, List.set_cons_zero, List.set_cons_succ, i64_w, i32_w]
                      rfl
                     refine pure_ (i := 15) (N := some 110) (v := ?_) (a' := ?_) #[true, true, true, true, true, true, true, true, true, true, true, true, true, true, true, true, false, false, false, false, false, false, false, false, false, false, false, false] rfl rfl (any_of HT_.out (by kernel_rfl)) (fun _ _ _ h => h) (Or.inl ⟨by rfl, ?_⟩) ?_ ?_
                     rotate_left
                     ·intro w'
                      go_simp
                      with_reducible rfl
                     rotate_left
                     ·simp only [Act.put, List.setIfInBounds_toArray, List.set_cons_zero, List.set_cons_succ, i64_w, i32_w]
                      rfl
                     refine pure_ (i := 16) (N := some 111) (v := ?_) (a' := ?_) #[true, true, true, true, true, true, true, true, true, true, true, true, true, true, true, true, true, false, false, false, false, false, false, false, false, false, false, false] rfl rfl (any_of HT_.out (by kernel_rfl)) (fun _ _ _ h => h) (Or.inl ⟨by rfl, ?_⟩) ?_ ?_
                     rotate_left
                     ·intro w'
                      go_simp
                      with_reducible rfl
                     rotate_left
                     ·simp only [Act.put, List.setIfInBounds_toArray, List.set_cons_zero, List.set_cons_succ, i64_w, i32_w]
                      rfl
                     refine pure_ (i := 17) (N := some 112) (v := ?_) (a' := ?_) #[true, true, true, true, true, true, true, true, true, true, true, true, true, true, true, true, true, true, false, false, false, false, false, false, false, false, false, false] rfl rfl (any_of HT_.out (by kernel_rfl)) (fun _ _ _ h => h) (Or.inl ⟨by rfl, ?_⟩) ?_ ?_
                     rotate_left
                     ·intro w'
                      go_simp
                      with_reducible rfl
                     rotate_left
                     ·simp only [Act.put, List.setIfInBounds_toArray, List.set_cons_zero, List.set_cons_succ, i64_w, i32_w]
                      rfl
                     refine pure_ (i := 18) (N := some 113) (v := ?_) (a' := ?_) #[true, true, true, true, true, true, true, true, true, true, true, true, true, true, true, true, true, true, true, false, false, false, false, false, false, false, false, false] rfl rfl (any_of HT_.out (by kernel_rfl)) (fun _ _ _ h => h) (Or.inl ⟨by rfl, ?_⟩) ?_ ?_
                     rotate_left
                     ·intro w'
                      go_simp
                      with_reducible rfl
                     rotate_left
                     ·simp only [Act.put, List.setIfInBounds_toArray, List.set_cons_zero, List.set_cons_succ, i64_w, i32_w]
                      rfl
                     refine pure_ (i := 20) (N := some 115) (v := ?_) (a' := ?_) #[true, true, true, true, true, true, true, true, true, true, true, true, true, true, true, true, true, true, true, false, true, false, false, false, false, false, false, false] rfl rfl (any_of HT_.out (by kernel_rfl)) (fun _ _ _ h => h) (Or.inl ⟨by rfl, ?_⟩) ?_ ?_
                     rotate_left
                     ·intro w'
                      go_simp
                      with_reducible rfl
                     rotate_left
                     ·simp only [Act.put, List.setIfInBounds_toArray, List.set_cons_zero, List.set_cons_succ, i64_w, i32_w]
                      rfl
                     refine pure_ (i := 21) (N := some 116) (v := ?_) (a' := ?_) #[true, true, true, true, true, true, true, true, true, true, true, true, true, true, true, true, true, true, true, false, true, true, false, false, false, false, false, false] rfl rfl (any_of HT_.out (by kernel_rfl)) (fun _ _ _ h => h) (Or.inl ⟨by rfl, ?_⟩) ?_ ?_
                     rotate_left
                     ·intro w'
                      go_simp
                      with_reducible rfl
                     rotate_left
                     ·simp only [Act.put, List.setIfInBounds_toArray, List.set_cons_zero, List.set_cons_succ, i64_w, i32_w]
                      rfl
                     refine pure_ (i := 22) (N := some 117) (v := ?_) (a' := ?_) #[true, true, true, true, true, true, true, true, true, true, true, true, true, true, true, true, true, true, true, false, true, true, true, false, false, false, false, false] rfl rfl (any_of HT_.out (by kernel_rfl)) (fun _ _ _ h => h) (Or.inl ⟨by rfl, ?_⟩) ?_ ?_
                     rotate_left
                     ·intro w'
                      go_simp
                      with_reducible rfl
                     rotate_left
                     ·simp only [Act.put, List.setIfInBounds_toArray, List.set_cons_zero, List.set_cons_succ, i64_w, i32_w]
                      rfl
                     refine pure_ (i := 23) (N := some 118) (v := ?_) (a' := ?_) #[true, true, true, true, true, true, true, true, true, true, true, true, true, true, true, true, true, true, true, false, true, true, true, true, false, false, false, false] rfl rfl (any_of HT_.out (by kernel_rfl)) (fun _ _ _ h => h) (Or.inl ⟨by rfl, ?_⟩) ?_ ?_
                     rotate_left
                     ·intro w'
                      go_simp
                      with_reducible rfl
                     rotate_left
                     ·simp only [Act.put, List.setIfInBounds_toArray, List.set_cons_zero, List.set_cons_succ, i64_w, i32_w]
                      rfl
                     refine take_ (i := 19) (N := some 114) (v := ?_) (a' := ?_) #[true, true, true, true, true, true, true, true, true, true, true, true, true, true, true, true, true, true, true, true, true, true, true, true, false, false, false, false] rfl rfl (take_ofW HT_.out HW_.out (by kernel_rfl)) (fun _ _ _ h => h) (Or.inl ⟨by rfl, ?_⟩) hHeld ?_ ?_
                     rotate_left
                     ·rintro w' ⟨s0, s1, s2, s3, s4, s5, s6, s7, s8, s9, s10, s11, s12⟩
                      go_simp
                      with_reducible rfl
                     rotate_left
                     ·simp only [Act.put, List.setIfInBounds_toArray, List.set_cons_zero, List.set_cons_succ, i64_w, i32_w]
                      rfl
                     refine take_ (i := 24) (N := some 119) (v := ?_) (a' := ?_) #[true, true, true, true, true, true, true, true, true, true, true, true, true, true, true, true, true, true, true, true, true, true, true, true, true, false, false, false] rfl rfl (take_ofW HT_.out HW_.out (by kernel_rfl)) (fun _ _ _ h => h) (Or.inl ⟨by rfl, ?_⟩) hHeld ?_ ?_
                     rotate_left
                     ·rintro w' ⟨s0, s1, s2, s3, s4, s5, s6, s7, s8, s9, s10, s11, s12⟩
                      go_simp
                      with_reducible rfl
                     rotate_left
                     ·simp only [Act.put, List.setIfInBounds_toArray, List.set_cons_zero, List.set_cons_succ, i64_w, i32_w]
                      rfl
                     refine pure_ (i := 25) (N := some 120) (v := ?_) (a' := ?_) #[true, true, true, true, true, true, true, true, true, true, true, true, true, true, true, true, true, true, true, true, true, true, true, true, true, true, false, false] rfl rfl (any_of HT_.out (by kernel_rfl)) (fun _ _ _ h => h) (Or.inl ⟨by rfl, ?_⟩) ?_ ?_
                     rotate_left
                     ·intro w'
                      go_simp
                      with_reducible rfl
                     rotate_left
                     ·simp only [Act.put, List.setIfInBounds_toArray, List.set_cons_zero, List.set_cons_succ, i64_w, i32_w]
                      rfl
                     refine pure_ (i := 26) (N := some 121) (v := ?_) (a' := ?_) #[true, true, true, true, true, true, true, true, true, true, true, true, true, true, true, true, true, true, true, true, true, true, true, true, true, true, true, false] rfl rfl (any_of HT_.out (by kernel_rfl)) (fun _ _ _ h => h) (Or.inl ⟨by rfl, ?_⟩) ?_ ?_
                     rotate_left
                     ·intro w'
                      go_simp
                      with_reducible rfl
                     rotate_left
                     ·simp only [Act.put, List.setIfInBounds_toArray, List.set_cons_zero, List.set_cons_succ, i64_w, i32_w]
                      rfl
                     refine pure_ (i := 27) (N := some 122) (v := ?_) (a' := ?_) #[true, true, true, true, true, true, true, true, true, true, true, true, true, true, true, true, true, true, true, true, true, true, true, true, true, true, true, true] rfl rfl (any_of HT_.out (by kernel_rfl)) (fun _ _ _ h => h) (Or.inl ⟨by rfl, ?_⟩) ?_ ?_
                     rotate_left
                     ·intro w'
                      go_simp
                      with_reducible rfl
                     rotate_left
                     ·simp only [Act.put, List.setIfInBounds_toArray, List.set_cons_zero, List.set_cons_succ, i64_w, i32_w]
                      rfl
                     refine done_ (done_of HT_.out (by kernel_rfl)) ?_
                     try go_wp2
                     go_meet
                     case rel => exact ⟨_, ((((rd_T29 l0 x9_2).f5) != (((rd_T31 t194 x9_2).f0) == 0))), (by first | rfl | (simp; done) | (simp [*]; done)), H', ⟨by have := HJ3.out; have := HK2.out; have := HJ26.out; have := HJ37.out; first | omega | exact Nat.le_refl _⟩, ⟨by (with_reducible repeat (first | apply Kd.R_alloc | apply Kd.R_drewN | apply Kd.R_drew)); exact Kd.R_mono HO_5.out (fun _ hk => hk.2)⟩, ⟨by (with_reducible repeat (first | apply Kd.R_alloc | apply Kd.R_drewN | apply Kd.R_drew)); exact HO220.out⟩, ⟨by (with_reducible repeat (first | apply Kd.R_alloc | apply Kd.R_drewN | apply Kd.R_drew)); exact HO223.out⟩, ⟨by (with_reducible repeat (first | refine blk_drewN ?_ _ | refine blk_drew ?_ | refine blk_alloc ?_ _)); exact BK217.out⟩, ⟨by repeat (first | (with_reducible first | exact HB.out | apply below_alloc | apply pw_below_drewN | apply below_drew1 | refine below_set ?_ GE217.out) | exact HB.out)⟩⟩
                  ·rw [if_neg c57] at H
                   exact absurd H (by simp)
                 case rest =>
                  clear HC44
                  try clear p2
                  try clear q2
                  try clear hx2
                  try clear c5
                  try clear c6
                  try clear p22
                  try clear q22
                  try clear hx22
                  try clear c57
                  try clear c58
                  try clear c58b0
                  try clear c61
                  try clear c61b0
                  try clear hx224_0
                  try clear hx224_1
                  try clear hx225_0
                  try clear hx225_1
                  try clear hx226_0
                  try clear hx226_1
                  try clear hx226_2
                  try clear hx226_3
                  try clear hx226_4
                  try clear hx226_5
                  try clear hx226_6
                  try clear hx227_0
                  try clear hx227_1
                  try clear p224
                  try clear p225
                  try clear p226
                  try clear p227
                  try clear q224
                  try clear q225
                  try clear q226
                  try clear q227
                  obtain ⟨kq, x122_43, rfl, HA, HJ43, HO_5, HO_7, HO_8, BK217, HB⟩ := hcut
                  cases kq with
                  | zero => exact absurd HA.out (by simp [variorumlaw16_LinenoCounts.j4])
                  | succ kj43 =>
                   have H := HA.out
                   clear HA
                   simp only [variorumlaw16_LinenoCounts.j4] at H
                   by_cases c66 : x122_43 = true
                   ·subst c66
                    have H1 : (some false) = some r := by rw [if_pos rfl] at H; exact H
                    clear H
                    have H := H1
                    clear H1
                    obtain rfl := Option.some.inj H
                    go_wp2
                    go_ret
                    exact ⟨by first | rfl | (simp [errW_none, errW_some] <;> rfl) | (simp [*, errW_none, errW_some] <;> rfl), by repeat (first | (with_reducible first | exact HB.out | apply below_alloc | apply pw_below_drewN | apply below_drew1 | refine below_set ?_ GE217.out) | exact HB.out)⟩
                   ·replace c66 := Bool.eq_false_iff.mpr c66
                    subst c66
                    have H1 : (variorumlaw16_LinenoCounts.l0 kj43 l0 a1 t194 (wrap64 (x6_37 + 1)) y218 y221 (wrap64 (x9_2 + 1))) = some r := by rw [if_neg (show ¬ (false = true) by decide)] at H; exact H
                    clear H
                    have H := H1
                    clear H1
                    have H' := Aside0.mk H
                    clear H
                    go_wp2
                    go_roundg kj43
                    case measure => have := HJ3.out; have := HK2.out; have := HJ26.out; have := HJ37.out; have := HJ43.out; omega
                    case rel => exact ⟨((wrap64 (x6_37 + 1))), (y218), (y221), (wrap64 (x9_2 + 1)), (by first | rfl | (simp; done) | (simp [*]; done)), (by first | rfl | (simp; done) | (simp [*]; done)), H', ⟨by have := HJ3.out; have := HK2.out; have := HJ26.out; have := HJ37.out; have := HJ43.out; omega⟩, ⟨by (with_reducible repeat (first | apply Kd.R_alloc | apply Kd.R_drewN | apply Kd.R_drew)); exact HO_5.out⟩, ⟨by (with_reducible repeat (first | apply Kd.R_alloc | apply Kd.R_drewN | apply Kd.R_drew)); exact Kd.R_mono HO_7.out (fun _ hk => trivial)⟩, ⟨by (with_reducible repeat (first | apply Kd.R_alloc | apply Kd.R_drewN | apply Kd.R_drew)); exact HO_8.out⟩, ⟨by repeat (first | (with_reducible first | exact HB.out | apply below_alloc | apply pw_below_drewN | apply below_drew1 | refine below_set ?_ GE217.out) | exact HB.out)⟩⟩
                ·rw [if_neg c43] at H
                 exact absurd H (by simp)
               ·rw [if_neg c42] at H
                exact absurd H (by simp)
              ·rw [if_neg c41] at H
               exact absurd H (by simp)
             ·rw [if_neg c40] at H
              exact absurd H (by simp)
       ·rw [if_neg c25] at H
        exact absurd H (by simp)
      ·rw [if_neg c24] at H
       have c24b0 : decide (x9_2 < (l0.length : Int)) = false := decide_eq_false c24
       clear c24
       replace H := Option.bind_eq_some_iff.mp H
       obtain ⟨t228, A670, H⟩ := H
       replace H : ((variorumref16_Nums.f k2 t228 x8_2).bind fun t231 => (some t231)) = some r := H
       have A67 := Aside0.mk A670
       clear A670
       replace H := Option.bind_eq_some_iff.mp H
       obtain ⟨t231, A680, H⟩ := H
       replace H : (some t231) = some r := H
       have A68 := Aside0.mk A680
       clear A680
       obtain rfl := Option.some.inj H
       obtain ⟨Ao69, co69, eo69⟩ := Kd.R_slice HO_7.out
       subst eo69
       go_wp2_with (first | ((with_reducible refine gate_callee (f := 7) rfl ?_); refine goesL_ (some 125) rfl rfl Try.func7 (by kernel_rfl) rfl #[.slice Ao69 x7_2.length co69, .int .i64 a1] rfl (by (try simp only [List.map_toArray, List.map_cons, List.map_nil]); first | done | rfl | (simp only [List.length_drop, List.length_take]; rfl) | (simp only [*]; first | done | rfl)) ?_; (with_reducible refine (lineno_Number.calls k2 _ _ x7_2 a1 t228 _ ?side1 ?side2 A67.out).mono ?_); (case side1 => repeat (first | exact (Kd.R_reads' HO_7.out).2.2 | (with_reducible refine Kd.C_alloc ?_ _) | (with_reducible refine Kd.C_drewN ?_ _) | (with_reducible refine Kd.C_drew ?_))); (case side2 => exact (Kd.R_reads' HO_7.out).2.1); rintro e w70 ⟨v229, rfl, ho0, hb⟩; refine ⟨_, rfl, ?_⟩; have n0_ := Aside0.mk (Kd.R_elder' (by (with_reducible repeat (first | apply Kd.R_alloc | apply Kd.R_drewN | apply Kd.R_drew)); exact HO_5.out) (Kd.R_base ho0) hb); have n1_ := Aside0.mk (Kd.R_below (by (with_reducible repeat (first | apply Kd.R_alloc | apply Kd.R_drewN | apply Kd.R_drew)); exact HO_7.out) hb); have n2_ := Aside0.mk (Kd.R_elder' (by (with_reducible repeat (first | apply Kd.R_alloc | apply Kd.R_drewN | apply Kd.R_drew)); exact HO_8.out) (Kd.R_base ho0) hb); have n3_ := Aside0.mk (Kd.R_lower (Kd.R_new' (Kd.R_new' ho0 (Kd.R_lt (by (with_reducible repeat (first | apply Kd.R_alloc | apply Kd.R_drewN | apply Kd.R_drew)); exact HO_5.out))) (Kd.R_lt (by (with_reducible repeat (first | apply Kd.R_alloc | apply Kd.R_drewN | apply Kd.R_drew)); exact HO_8.out))) (below_size (by repeat (first | (with_reducible first | exact HB.out | apply below_alloc | apply pw_below_drewN | apply below_drew1) | exact HB.out)))); have n4_ := Aside0.mk (below_step (by repeat (first | (with_reducible first | exact HB.out | apply below_alloc | apply pw_below_drewN | apply below_drew1) | exact HB.out)) hb); clear HO_5; clear HO_7; clear HO_8; clear HB; have HO_5 := n0_; have HO_7 := n1_; have HO_8 := n2_; have HO230 := n3_; have HB := n4_; clear n0_ n1_ n2_ n3_ n4_; (try clear hb); (try clear hb2); (try clear hk); (try clear hi); (try clear ho0); obtain ⟨Ao71, co71, eo71⟩ := Kd.R_slice HO230.out; subst eo71; obtain ⟨Ao72, co72, eo72⟩ := Kd.R_slice HO_8.out; subst eo72) | ((with_reducible refine gate_callee (f := 10) rfl ?_); refine goesL_ (some 127) rfl rfl Try.func10 (by kernel_rfl) rfl #[.slice Ao71 t228.length co71, .slice Ao72 x8_2.length co72] rfl (by (try simp only [List.map_toArray, List.map_cons, List.map_nil]); first | done | rfl | (simp only [List.length_drop, List.length_take]; rfl) | (simp only [*]; first | done | rfl)) ?_; (with_reducible refine (variorumref16_Nums.calls k2 _ _ t228 _ _ x8_2 t231 _ ?side1 ?side2 ?side3 ?side4 A68.out).mono ?_); (case side1 => repeat (first | exact (Kd.R_reads' HO230.out).2.2 | (with_reducible refine Kd.C_alloc ?_ _) | (with_reducible refine Kd.C_drewN ?_ _) | (with_reducible refine Kd.C_drew ?_))); (case side2 => exact (Kd.R_reads' HO230.out).2.1); (case side3 => repeat (first | exact (Kd.R_reads' HO_8.out).2.2 | (with_reducible refine Kd.C_alloc ?_ _) | (with_reducible refine Kd.C_drewN ?_ _) | (with_reducible refine Kd.C_drew ?_))); (case side4 => exact (Kd.R_reads' HO_8.out).2.1); rintro e w' ⟨rfl, ⟨nd, rfl⟩⟩; refine ⟨_, rfl, ?_⟩))
       go_ret
       exact ⟨by first | rfl | (simp [errW_none, errW_some] <;> rfl) | (simp [*, errW_none, errW_some] <;> rfl), by repeat (first | (with_reducible first | exact HB.out | apply below_alloc | apply pw_below_drewN | apply below_drew1) | exact HB.out)⟩

/-- The one statement about numbers and lists that is left of the law. -/
def variorumlaw16_LinenoCounts.Pure : Prop := ∀ (x0 : List (S29)) (x1 : Int), (x0.length * 40 ≤ 140737488351232 ∧ ∀ y0 ∈ x0, ((Lit.int .i64 y0.f0).wf = true ∧ ((Lit.int .i64 y0.f1).wf = true ∧ ((Lit.int .i64 y0.f2).wf = true ∧ ((Lit.int .i64 y0.f3).wf = true ∧ (True ∧ (True ∧ (True)))))))) → (Lit.int .i64 x1).wf = true → ∃ k, variorumlaw16_LinenoCounts.f k x0 x1 = some true

end Go.Proofs.Ytbpomibholcpfaa.PAll

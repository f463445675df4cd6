/- Written by a program of this session: functions of the given program as plain Lean functions, the walks that show it, and the row of each law, for every input that its statement speaks of. -/
import Derived.Test.YtpfnfofaajpdmaaPWix0
import Derived.Test.YtpfnfofaajpdmaaPWix18
namespace Go.Proofs.Ytpfnfofaajpdmaa.PWi
open Go.RowKit Go.Proofs.YtpfnfofaajpdmaaW.PrintWords Go.Proofs.YtpfnfofaajpdmaaW.PrintLast Go.Proofs.YtpfnfofaajpdmaaW.PrintMore
attribute [local go_sem] max2_int min2_int max_two min_two max_three min_three max_four min_four   -- for this text's walks alone
set_option linter.unusedVariables false
set_option linter.unusedSimpArgs false

/-! ### variorumref10_Cost: function 39 -/
mutual
def variorumref10_Cost.j0 : Nat → List (S40) → Int → Int → Bool → Int → Int → Int → Int → Option (Int × Int × Bool)
 | 0, _, _, _, _, _, _, _, _ => none
 | k + 1, x0, x1, x2, x39, x405000, x405001, x405002, x405003 => if x39 = true then (some (0, 0, false)) else (if 0 ≤ x2 then (if x2 < (x0.length : Int) then (if ((rd_T40 x0 x2).f0) = 2 then (variorumref10_Cost.j1 k x0 x1 x2 x405003 (wrap64 ((wrap64 (x405003 + 10)) * (wrap64 (x405003 + 10)))) ((rd_T40 x0 x2).f2) (decide (((rd_T40 x0 x2).f2) > 0)) x405000 x405001 x405002 x405003) else (variorumref10_Cost.j1 k x0 x1 x2 x405003 (wrap64 ((wrap64 (x405003 + 10)) * (wrap64 (x405003 + 10)))) ((rd_T40 x0 x2).f2) false x405000 x405001 x405002 x405003)) else (none)) else (none))
def variorumref10_Cost.j1 : Nat → List (S40) → Int → Int → Int → Int → Int → Bool → Int → Int → Int → Int → Option (Int × Int × Bool)
 | 0, _, _, _, _, _, _, _, _, _, _, _ => none
 | k + 1, x0, x1, x2, x15, x16, x17, x61, x405000, x405001, x405002, x405003 => if x61 = true then (variorumref10_Cost.j2 k x0 x1 x2 x15 (wrap64 (x16 + (wrap64 (x17 * x17)))) x17 x405000 x405001 x405002 x405003) else (variorumref10_Cost.j2 k x0 x1 x2 x15 x16 x17 x405000 x405001 x405002 x405003)
def variorumref10_Cost.j2 : Nat → List (S40) → Int → Int → Int → Int → Int → Int → Int → Int → Int → Option (Int × Int × Bool)
 | 0, _, _, _, _, _, _, _, _, _, _ => none
 | k + 1, x0, x1, x2, x15, x16, x17, x405000, x405001, x405002, x405003 => if 0 ≤ x2 then (if x2 < (x0.length : Int) then (if ((rd_T40 x0 x2).f0) = 2 then (if x17 < 0 then (variorumref10_Cost.j3 k x0 x1 x2 x15 x16 x17 (x17 != (-10000)) x405000 x405001 x405002 x405003) else (variorumref10_Cost.j3 k x0 x1 x2 x15 x16 x17 false x405000 x405001 x405002 x405003)) else (variorumref10_Cost.j3 k x0 x1 x2 x15 x16 x17 false x405000 x405001 x405002 x405003)) else (none)) else (none)
def variorumref10_Cost.j3 : Nat → List (S40) → Int → Int → Int → Int → Int → Bool → Int → Int → Int → Int → Option (Int × Int × Bool)
 | 0, _, _, _, _, _, _, _, _, _, _, _ => none
 | k + 1, x0, x1, x2, x15, x16, x17, x80, x405000, x405001, x405002, x405003 => if x80 = true then (variorumref10_Cost.j4 k x0 x1 x2 x15 (wrap64 (x16 - (wrap64 (x17 * x17)))) x405000 x405001 x405002 x405003) else (variorumref10_Cost.j4 k x0 x1 x2 x15 x16 x405000 x405001 x405002 x405003)
def variorumref10_Cost.j4 : Nat → List (S40) → Int → Int → Int → Int → Int → Int → Int → Int → Option (Int × Int × Bool)
 | 0, _, _, _, _, _, _, _, _, _ => none
 | k + 1, x0, x1, x2, x15, x16, x405000, x405001, x405002, x405003 => if x1 ≥ 0 then (if 0 ≤ x1 then (if x1 < (x0.length : Int) then (if (rd_T40 x0 x1).f3 = true then (if 0 ≤ x2 then (if x2 < (x0.length : Int) then (variorumref10_Cost.j5 k x15 x16 ((rd_T40 x0 x2).f3) x405000 x405001 x405002 x405003) else (none)) else (none)) else (variorumref10_Cost.j5 k x15 x16 false x405000 x405001 x405002 x405003)) else (none)) else (none)) else (variorumref10_Cost.j5 k x15 x16 false x405000 x405001 x405002 x405003)
def variorumref10_Cost.j5 : Nat → Int → Int → Bool → Int → Int → Int → Int → Option (Int × Int × Bool)
 | 0, _, _, _, _, _, _, _ => none
 | k + 1, x15, x16, x101, x405000, x405001, x405002, x405003 => if x101 = true then (variorumref10_Cost.j6 k x15 (wrap64 (x16 + 10000)) x405000 x405001 x405002 x405003) else (variorumref10_Cost.j6 k x15 x16 x405000 x405001 x405002 x405003)
def variorumref10_Cost.j6 : Nat → Int → Int → Int → Int → Int → Int → Option (Int × Int × Bool)
 | 0, _, _, _, _, _, _ => none
 | k + 1, x15, x16, x405000, x405001, x405002, x405003 => if x15 < 100 then (variorumref10_Cost.j7 k x15 x16 1 x405000 x405001 x405002 x405003) else (variorumref10_Cost.j7 k x15 x16 0 x405000 x405001 x405002 x405003)
def variorumref10_Cost.j7 : Nat → Int → Int → Int → Int → Int → Int → Int → Option (Int × Int × Bool)
 | 0, _, _, _, _, _, _, _ => none
 | k + 1, x15, x16, x18, x405000, x405001, x405002, x405003 => if x405000 = (-1) then (if x15 ≤ 12 then (some (x16, 2, true)) else (some (x16, 3, true))) else (if x15 ≤ 12 then (some (x16, 2, true)) else (some (x16, x18, true)))
end
def variorumref10_Cost.f (k : Nat) (l0 : List (S40)) (a1 : Int) (a2 : Int) (a3 : Int) (a4 : Int) : Option (Int × Int × Bool) := (variorumref10_Line.f k l0 a1 a2 a3).bind fun bt399 => (if bt399.2.2.2.2 = true then (if bt399.2.2.2.1 > a4 then (variorumref10_Cost.j0 k l0 a1 a2 true bt399.1 bt399.2.1 bt399.2.2.1 bt399.2.2.2.1) else (variorumref10_Cost.j0 k l0 a1 a2 (decide (bt399.2.2.2.1 > 10000)) bt399.1 bt399.2.1 bt399.2.2.1 bt399.2.2.2.1)) else (variorumref10_Cost.j0 k l0 a1 a2 true bt399.1 bt399.2.1 bt399.2.2.1 bt399.2.2.2.1))
theorem variorumref10_Cost.mono_l : ∀ k, (∀ y0 y1 y2 y3 y4 y5 y6 y7, LeO (variorumref10_Cost.j0 k y0 y1 y2 y3 y4 y5 y6 y7) (variorumref10_Cost.j0 (k + 1) y0 y1 y2 y3 y4 y5 y6 y7)) ∧ (∀ y0 y1 y2 y3 y4 y5 y6 y7 y8 y9 y10, LeO (variorumref10_Cost.j1 k y0 y1 y2 y3 y4 y5 y6 y7 y8 y9 y10) (variorumref10_Cost.j1 (k + 1) y0 y1 y2 y3 y4 y5 y6 y7 y8 y9 y10)) ∧ (∀ y0 y1 y2 y3 y4 y5 y6 y7 y8 y9, LeO (variorumref10_Cost.j2 k y0 y1 y2 y3 y4 y5 y6 y7 y8 y9) (variorumref10_Cost.j2 (k + 1) y0 y1 y2 y3 y4 y5 y6 y7 y8 y9)) ∧ (∀ y0 y1 y2 y3 y4 y5 y6 y7 y8 y9 y10, LeO (variorumref10_Cost.j3 k y0 y1 y2 y3 y4 y5 y6 y7 y8 y9 y10) (variorumref10_Cost.j3 (k + 1) y0 y1 y2 y3 y4 y5 y6 y7 y8 y9 y10)) ∧ (∀ y0 y1 y2 y3 y4 y5 y6 y7 y8, LeO (variorumref10_Cost.j4 k y0 y1 y2 y3 y4 y5 y6 y7 y8) (variorumref10_Cost.j4 (k + 1) y0 y1 y2 y3 y4 y5 y6 y7 y8)) ∧ (∀ y0 y1 y2 y3 y4 y5 y6, LeO (variorumref10_Cost.j5 k y0 y1 y2 y3 y4 y5 y6) (variorumref10_Cost.j5 (k + 1) y0 y1 y2 y3 y4 y5 y6)) ∧ (∀ y0 y1 y2 y3 y4 y5, LeO (variorumref10_Cost.j6 k y0 y1 y2 y3 y4 y5) (variorumref10_Cost.j6 (k + 1) y0 y1 y2 y3 y4 y5)) ∧ (∀ y0 y1 y2 y3 y4 y5 y6, LeO (variorumref10_Cost.j7 k y0 y1 y2 y3 y4 y5 y6) (variorumref10_Cost.j7 (k + 1) y0 y1 y2 y3 y4 y5 y6))
 | 0 => ⟨fun _ _ _ _ _ _ _ _ r h => by simp [variorumref10_Cost.j0] at h, fun _ _ _ _ _ _ _ _ _ _ _ r h => by simp [variorumref10_Cost.j1] at h, fun _ _ _ _ _ _ _ _ _ _ r h => by simp [variorumref10_Cost.j2] at h, fun _ _ _ _ _ _ _ _ _ _ _ r h => by simp [variorumref10_Cost.j3] at h, fun _ _ _ _ _ _ _ _ _ r h => by simp [variorumref10_Cost.j4] at h, fun _ _ _ _ _ _ _ r h => by simp [variorumref10_Cost.j5] at h, fun _ _ _ _ _ _ r h => by simp [variorumref10_Cost.j6] at h, fun _ _ _ _ _ _ _ r h => by simp [variorumref10_Cost.j7] at h⟩
 | k + 1 => by
  obtain ⟨ih0, ih1, ih2, ih3, ih4, ih5, ih6, ih7⟩ := variorumref10_Cost.mono_l k
  refine ⟨?_, ?_, ?_, ?_, ?_, ?_, ?_, ?_⟩
  ·intro y0 y1 y2 y3 y4 y5 y6 y7
   unfold variorumref10_Cost.j0
   repeat' first | (with_reducible first | exact ih0 _ _ _ _ _ _ _ _ | exact ih1 _ _ _ _ _ _ _ _ _ _ _ | exact ih2 _ _ _ _ _ _ _ _ _ _ | exact ih3 _ _ _ _ _ _ _ _ _ _ _ | exact ih4 _ _ _ _ _ _ _ _ _ | exact ih5 _ _ _ _ _ _ _ | exact ih6 _ _ _ _ _ _ | exact ih7 _ _ _ _ _ _ _ | exact variorumref10_Line.mono _ _ _ _ _ | exact LeO.refl _ | exact LeO.none _ | refine LeO.ite ?_ ?_ | refine LeO.bind ?_ (fun _ => ?_)) | exact LeO.none _ | refine LeO.ite ?_ ?_ | refine LeO.bind ?_ (fun _ => ?_)
  ·intro y0 y1 y2 y3 y4 y5 y6 y7 y8 y9 y10
   unfold variorumref10_Cost.j1
   repeat' first | (with_reducible first | exact ih0 _ _ _ _ _ _ _ _ | exact ih1 _ _ _ _ _ _ _ _ _ _ _ | exact ih2 _ _ _ _ _ _ _ _ _ _ | exact ih3 _ _ _ _ _ _ _ _ _ _ _ | exact ih4 _ _ _ _ _ _ _ _ _ | exact ih5 _ _ _ _ _ _ _ | exact ih6 _ _ _ _ _ _ | exact ih7 _ _ _ _ _ _ _ | exact variorumref10_Line.mono _ _ _ _ _ | exact LeO.refl _ | exact LeO.none _ | refine LeO.ite ?_ ?_ | refine LeO.bind ?_ (fun _ => ?_)) | exact LeO.none _ | refine LeO.ite ?_ ?_ | refine LeO.bind ?_ (fun _ => ?_)
  ·intro y0 y1 y2 y3 y4 y5 y6 y7 y8 y9
   unfold variorumref10_Cost.j2
   repeat' first | (with_reducible first | exact ih0 _ _ _ _ _ _ _ _ | exact ih1 _ _ _ _ _ _ _ _ _ _ _ | exact ih2 _ _ _ _ _ _ _ _ _ _ | exact ih3 _ _ _ _ _ _ _ _ _ _ _ | exact ih4 _ _ _ _ _ _ _ _ _ | exact ih5 _ _ _ _ _ _ _ | exact ih6 _ _ _ _ _ _ | exact ih7 _ _ _ _ _ _ _ | exact variorumref10_Line.mono _ _ _ _ _ | exact LeO.refl _ | exact LeO.none _ | refine LeO.ite ?_ ?_ | refine LeO.bind ?_ (fun _ => ?_)) | exact LeO.none _ | refine LeO.ite ?_ ?_ | refine LeO.bind ?_ (fun _ => ?_)
  ·intro y0 y1 y2 y3 y4 y5 y6 y7 y8 y9 y10
   unfold variorumref10_Cost.j3
   repeat' first | (with_reducible first | exact ih0 _ _ _ _ _ _ _ _ | exact ih1 _ _ _ _ _ _ _ _ _ _ _ | exact ih2 _ _ _ _ _ _ _ _ _ _ | exact ih3 _ _ _ _ _ _ _ _ _ _ _ | exact ih4 _ _ _ _ _ _ _ _ _ | exact ih5 _ _ _ _ _ _ _ | exact ih6 _ _ _ _ _ _ | exact ih7 _ _ _ _ _ _ _ | exact variorumref10_Line.mono _ _ _ _ _ | exact LeO.refl _ | exact LeO.none _ | refine LeO.ite ?_ ?_ | refine LeO.bind ?_ (fun _ => ?_)) | exact LeO.none _ | refine LeO.ite ?_ ?_ | refine LeO.bind ?_ (fun _ => ?_)
  ·intro y0 y1 y2 y3 y4 y5 y6 y7 y8
   unfold variorumref10_Cost.j4
   repeat' first | (with_reducible first | exact ih0 _ _ _ _ _ _ _ _ | exact ih1 _ _ _ _ _ _ _ _ _ _ _ | exact ih2 _ _ _ _ _ _ _ _ _ _ | exact ih3 _ _ _ _ _ _ _ _ _ _ _ | exact ih4 _ _ _ _ _ _ _ _ _ | exact ih5 _ _ _ _ _ _ _ | exact ih6 _ _ _ _ _ _ | exact ih7 _ _ _ _ _ _ _ | exact variorumref10_Line.mono _ _ _ _ _ | exact LeO.refl _ | exact LeO.none _ | refine LeO.ite ?_ ?_ | refine LeO.bind ?_ (fun _ => ?_)) | exact LeO.none _ | refine LeO.ite ?_ ?_ | refine LeO.bind ?_ (fun _ => ?_)
  ·intro y0 y1 y2 y3 y4 y5 y6
   unfold variorumref10_Cost.j5
   repeat' first | (with_reducible first | exact ih0 _ _ _ _ _ _ _ _ | exact ih1 _ _ _ _ _ _ _ _ _ _ _ | exact ih2 _ _ _ _ _ _ _ _ _ _ | exact ih3 _ _ _ _ _ _ _ _ _ _ _ | exact ih4 _ _ _ _ _ _ _ _ _ | exact ih5 _ _ _ _ _ _ _ | exact ih6 _ _ _ _ _ _ | exact ih7 _ _ _ _ _ _ _ | exact variorumref10_Line.mono _ _ _ _ _ | exact LeO.refl _ | exact LeO.none _ | refine LeO.ite ?_ ?_ | refine LeO.bind ?_ (fun _ => ?_)) | exact LeO.none _ | refine LeO.ite ?_ ?_ | refine LeO.bind ?_ (fun _ => ?_)
  ·intro y0 y1 y2 y3 y4 y5
   unfold variorumref10_Cost.j6
   repeat' first | (with_reducible first | exact ih0 _ _ _ _ _ _ _ _ | exact ih1 _ _ _ _ _ _ _ _ _ _ _ | exact ih2 _ _ _ _ _ _ _ _ _ _ | exact ih3 _ _ _ _ _ _ _ _ _ _ _ | exact ih4 _ _ _ _ _ _ _ _ _ | exact ih5 _ _ _ _ _ _ _ | exact ih6 _ _ _ _ _ _ | exact ih7 _ _ _ _ _ _ _ | exact variorumref10_Line.mono _ _ _ _ _ | exact LeO.refl _ | exact LeO.none _ | refine LeO.ite ?_ ?_ | refine LeO.bind ?_ (fun _ => ?_)) | exact LeO.none _ | refine LeO.ite ?_ ?_ | refine LeO.bind ?_ (fun _ => ?_)
  ·intro y0 y1 y2 y3 y4 y5 y6
   unfold variorumref10_Cost.j7
   repeat' first | (with_reducible first | exact ih0 _ _ _ _ _ _ _ _ | exact ih1 _ _ _ _ _ _ _ _ _ _ _ | exact ih2 _ _ _ _ _ _ _ _ _ _ | exact ih3 _ _ _ _ _ _ _ _ _ _ _ | exact ih4 _ _ _ _ _ _ _ _ _ | exact ih5 _ _ _ _ _ _ _ | exact ih6 _ _ _ _ _ _ | exact ih7 _ _ _ _ _ _ _ | exact variorumref10_Line.mono _ _ _ _ _ | exact LeO.refl _ | exact LeO.none _ | refine LeO.ite ?_ ?_ | refine LeO.bind ?_ (fun _ => ?_)) | exact LeO.none _ | refine LeO.ite ?_ ?_ | refine LeO.bind ?_ (fun _ => ?_)
theorem variorumref10_Cost.mono : ∀ a0 a1 a2 a3 a4 k, LeO (variorumref10_Cost.f k a0 a1 a2 a3 a4) (variorumref10_Cost.f (k + 1) a0 a1 a2 a3 a4) := by
 intro a0 a1 a2 a3 a4 k
 obtain ⟨ih0, ih1, ih2, ih3, ih4, ih5, ih6, ih7⟩ := variorumref10_Cost.mono_l k
 unfold variorumref10_Cost.f
 repeat' first
   | (with_reducible exact ih0 _ _ _ _ _ _ _ _)
   | (with_reducible exact ih1 _ _ _ _ _ _ _ _ _ _ _)
   | (with_reducible exact ih2 _ _ _ _ _ _ _ _ _ _)
   | (with_reducible exact ih3 _ _ _ _ _ _ _ _ _ _ _)
   | (with_reducible exact ih4 _ _ _ _ _ _ _ _ _)
   | (with_reducible exact ih5 _ _ _ _ _ _ _)
   | (with_reducible exact ih6 _ _ _ _ _ _)
   | (with_reducible exact ih7 _ _ _ _ _ _ _)
   | (with_reducible exact variorumref10_Line.mono _ _ _ _ _)
   | (with_reducible exact LeO.refl _)
   | (with_reducible exact LeO.none _)
   | (with_reducible refine LeO.ite ?_ ?_)
   | (with_reducible refine LeO.bind ?_ (fun _ => ?_))
   | exact ih0 _ _ _ _ _ _ _ _
   | exact ih1 _ _ _ _ _ _ _ _ _ _ _
   | exact ih2 _ _ _ _ _ _ _ _ _ _
   | exact ih3 _ _ _ _ _ _ _ _ _ _ _
   | exact ih4 _ _ _ _ _ _ _ _ _
   | exact ih5 _ _ _ _ _ _ _
   | exact ih6 _ _ _ _ _ _
   | exact ih7 _ _ _ _ _ _ _
   | exact variorumref10_Line.mono _ _ _ _ _
   | exact LeO.none _
   | refine LeO.ite ?_ ?_
   | refine LeO.bind ?_ (fun _ => ?_)
set_option maxHeartbeats 8000000 in
set_option maxRecDepth 100000 in
theorem variorumref10_Cost.calls (k : Nat) (A0 : Option Addr) (c0 : Nat) (l0 : List (S40)) (a1 : Int) (a2 : Int) (a3 : Int) (a4 : Int) (r1 : Int) (r2 : Int) (r3 : Bool) (w : World) (hr0 : Kd.C k40 w A0 l0.length l0) (hc0 : l0.length ≤ c0) (h : variorumref10_Cost.f k l0 a1 a2 a3 a4 = some (r1, r2, r3)) :
  Calls Try.prog 39 #[.slice A0 l0.length c0, .int .i64 a1, .int .i64 a2, .int .i64 a3, .int .i64 a4] w fun e w' => e = .returned (.tuple #[.int .i64 r1, .int .i64 r2, .bool r3]) ∧ Below w.heap.size w w' := by
 have hu56 := Try.underlying56
 have HR0 := a_ hr0
 have HC0 := a_ hc0
 clear hr0 hc0
 have HB := a_ (Below.refl w.heap.size w)
 have H : ((variorumref10_Line.f k l0 a1 a2 a3).bind fun bt399 => (if bt399.2.2.2.2 = true then (if bt399.2.2.2.1 > a4 then (variorumref10_Cost.j0 k l0 a1 a2 true bt399.1 bt399.2.1 bt399.2.2.1 bt399.2.2.2.1) else (variorumref10_Cost.j0 k l0 a1 a2 (decide (bt399.2.2.2.1 > 10000)) bt399.1 bt399.2.1 bt399.2.2.1 bt399.2.2.2.1)) else (variorumref10_Cost.j0 k l0 a1 a2 true bt399.1 bt399.2.1 bt399.2.2.1 bt399.2.2.2.1))) = some (r1, r2, r3) := h
 clear h
 replace H := Option.bind_eq_some_iff.mp H
 obtain ⟨⟨t399, t400, t401, t402, t403⟩, A60, H⟩ := H
 replace H : (if t403 = true then (if t402 > a4 then (variorumref10_Cost.j0 k l0 a1 a2 true t399 t400 t401 t402) else (variorumref10_Cost.j0 k l0 a1 a2 (decide (t402 > 10000)) t399 t400 t401 t402)) else (variorumref10_Cost.j0 k l0 a1 a2 true t399 t400 t401 t402)) = some (r1, r2, r3) := H
 have A6 := a_ A60
 clear A60
 have HC7 := a_ H
 clear H
 go_enter Try.func39, Try.ntmps39
 go_upto_region 2 with (first | ((with_reducible refine gate_callee (f := 20) rfl ?_); refine gl_ (some 24) Try.func20 (by kernel_rfl) #[.slice A0 l0.length c0, .int .i64 a1, .int .i64 a2, .int .i64 a3] ?_; (with_reducible refine (variorumref10_Line.calls k _ _ l0 a1 a2 a3 t399 t400 t401 t402 t403 _ ?side1 ?side2 A6.out).mono ?_); (case side1 => repeat (first | exact HR0.out | (with_reducible refine Kd.C_alloc ?_ _) | (with_reducible refine Kd.C_drewN ?_ _) | (with_reducible refine Kd.C_drew ?_))); (case side2 => exact HC0.out); rintro e w8 ⟨rfl, hb⟩; refine ⟨_, rfl, ?_⟩; have n0_ := a_ (bs_ HB.out hb); clear HB; have HB := n0_; clear n0_; (try clear hb); (try clear hb2); (try clear hk); (try clear hi)) | ((with_reducible refine gate_dst (N := 13) rfl ?_); refine box_event ?hg (N := 13) ?hd (cs := #[.int .i64 0, .int .i64 0, .int .i64 0, .int .i64 0]) (t := 56) ?hr ?_; (case hd => rfl); (case hg => rfl); (case hr => first | (go_simp; done) | (go_simp; rfl)); intro gb404 hg w9 hbox hb; have n0_ := a_ (bs_ HB.out hb); have n1_ := a_ (hbox); have n2_ := a_ ((by rw [hg]; exact (below_size (bv_ HB.out)) : w.heap.size ≤ gb404)); have n3_ := a_ ((by rw [hg]; exact (below_size (bv_ HB.out)) : w.heap.size ≤ gb404)); clear HB; have HB := n0_; have BK404 := n1_; have GW404 := n2_; have GE404 := n3_; clear n0_ n1_ n2_ n3_; clear hb hbox hg; obtain ⟨⟨Z10_0, Y10_0⟩, ⟨Z10_1, Y10_1⟩, ⟨Z10_2, Y10_2⟩, Z10_3, Y10_3⟩ := cs4_ BK404.out))
 (try simp only [Act.put, List.setIfInBounds_toArray, List.set_cons_zero, List.set_cons_succ])
 go_cut [39] (fun v39 wc => ∃ (kq : Nat) (x39_6 : Bool), v39 = .bool x39_6 ∧ Aside0 (variorumref10_Cost.j0 kq l0 a1 a2 x39_6 t399 t400 t401 t402 = some (r1, r2, r3)) ∧ Aside0 (kq ≤ k) ∧ Aside0 (wc.heap[gb404]? = some (.cells #[.int .i64 t399, .int .i64 t400, .int .i64 t401, .int .i64 t402] 56 (0, 0))) ∧ Aside0 (Below w.heap.size w wc))
 case first =>
  have H := HC7.out
  clear HC7
  by_cases c11 : t403 = true
  ·subst c11
   have H1 : (if t402 > a4 then (variorumref10_Cost.j0 k l0 a1 a2 true t399 t400 t401 t402) else (variorumref10_Cost.j0 k l0 a1 a2 (decide (t402 > 10000)) t399 t400 t401 t402)) = some (r1, r2, r3) := by rw [if_pos rfl] at H; exact H
   clear H
   have H := H1
   clear H1
   by_cases c12 : t402 > a4
   ·rw [if_pos c12] at H
    have c12b0 : decide (a4 < t402) = true := decide_eq_true c12
    clear c12
    (first | rw [c12b0] | (simp only [i64_w, i32_w]; rw [c12b0]) | skip)
    have H' := a_ H
    clear H
    obtain ⟨⟨Z13_0, Y13_0⟩, ⟨Z13_1, Y13_1⟩, ⟨Z13_2, Y13_2⟩, Z13_3, Y13_3⟩ := cs4_ BK404.out
    go_wp2
    go_meet
    case rel => exact ⟨_, (true), (by first | rfl | (simp; done) | (simp [*]; done)), H', ⟨by first | omega | exact Nat.le_refl _⟩, ⟨kp0_ BK404.out⟩, ⟨bS1_ HB.out GE404.out⟩⟩
   ·rw [if_neg c12] at H
    have c12b0 : decide (a4 < t402) = false := decide_eq_false c12
    clear c12
    (first | rw [c12b0] | (simp only [i64_w, i32_w]; rw [c12b0]) | skip)
    have H' := a_ H
    clear H
    obtain ⟨⟨Z14_0, Y14_0⟩, ⟨Z14_1, Y14_1⟩, ⟨Z14_2, Y14_2⟩, Z14_3, Y14_3⟩ := cs4_ BK404.out
    go_wp2
    go_meet
    case rel => exact ⟨_, (decide (t402 > 10000)), (by first | rfl | (simp; done) | (simp [*]; done)), H', ⟨by first | omega | exact Nat.le_refl _⟩, ⟨kp0_ BK404.out⟩, ⟨bS1_ HB.out GE404.out⟩⟩
  ·replace c11 := Bool.eq_false_iff.mpr c11
   subst c11
   have H1 : (variorumref10_Cost.j0 k l0 a1 a2 true t399 t400 t401 t402) = some (r1, r2, r3) := by rw [if_neg (show ¬ (false = true) by decide)] at H; exact H
   clear H
   have H := H1
   clear H1
   have H' := a_ H
   clear H
   go_wp2
   go_meet
   case rel => exact ⟨_, (true), (by first | rfl | (simp; done) | (simp [*]; done)), H', ⟨by first | omega | exact Nat.le_refl _⟩, ⟨kp0_ BK404.out⟩, ⟨bS1_ HB.out GE404.out⟩⟩
 case rest =>
  clear HC7
  try clear c1
  try clear c2
  try clear p2
  try clear c3
  try clear c11
  try clear c12
  try clear c12b0
  try clear Z10_0
  try clear Z10_1
  try clear Z10_2
  try clear Z10_3
  try clear Z13_0
  try clear Z13_1
  try clear Z13_2
  try clear Z13_3
  try clear Z14_0
  try clear Z14_1
  try clear Z14_2
  try clear Z14_3
  try clear Y10_0
  try clear Y10_1
  try clear Y10_2
  try clear Y10_3
  try clear Y13_0
  try clear Y13_1
  try clear Y13_2
  try clear Y13_3
  try clear Y14_0
  try clear Y14_1
  try clear Y14_2
  try clear Y14_3
  obtain ⟨kq, x39_6, rfl, HA, HJ6, BK404, HB⟩ := hcut
  cases kq with
  | zero => exact absurd HA.out (by simp [variorumref10_Cost.j0])
  | succ kj6 =>
   have H := HA.out
   clear HA
   simp only [variorumref10_Cost.j0] at H
   by_cases c15 : x39_6 = true
   ·subst c15
    have H1 : (some (0, 0, false)) = some (r1, r2, r3) := by rw [if_pos rfl] at H; exact H
    clear H
    have H := H1
    clear H1
    simp only [Option.some.injEq, Prod.mk.injEq] at H
    obtain ⟨rfl, rfl, rfl⟩ := H
    go_wp2
    go_ret3
    exact ⟨by first | rfl | (simp [errW_none, errW_some] <;> rfl) | (simp [*, errW_none, errW_some] <;> rfl), bS1_ HB.out GE404.out⟩
   ·replace c15 := Bool.eq_false_iff.mpr c15
    subst c15
    have H1 : (if 0 ≤ a2 then (if a2 < (l0.length : Int) then (if ((rd_T40 l0 a2).f0) = 2 then (variorumref10_Cost.j1 kj6 l0 a1 a2 t402 (wrap64 ((wrap64 (t402 + 10)) * (wrap64 (t402 + 10)))) ((rd_T40 l0 a2).f2) (decide (((rd_T40 l0 a2).f2) > 0)) t399 t400 t401 t402) else (variorumref10_Cost.j1 kj6 l0 a1 a2 t402 (wrap64 ((wrap64 (t402 + 10)) * (wrap64 (t402 + 10)))) ((rd_T40 l0 a2).f2) false t399 t400 t401 t402)) else (none)) else (none)) = some (r1, r2, r3) := by rw [if_neg (show ¬ (false = true) by decide)] at H; exact H
    clear H
    have H := H1
    clear H1
    by_cases c16 : 0 ≤ a2
    ·rw [if_pos c16] at H
     have c16b0 : decide (0 ≤ a2) = true := decide_eq_true c16
     clear c16
     by_cases c17 : a2 < (l0.length : Int)
     ·rw [if_pos c17] at H
      have c17b0 : decide (a2 < (l0.length : Int)) = true := decide_eq_true c17
      clear c17
      have HC18 := a_ H
      clear H
      obtain ⟨⟨Z19_0, Y19_0⟩, ⟨Z19_1, Y19_1⟩, ⟨Z19_2, Y19_2⟩, Z19_3, Y19_3⟩ := cs4_ BK404.out
      have p405 : 0 ≤ (a2 : Int) := od_
      have q405 : a2 < (l0.length : Int) := od_
      obtain ⟨ad405, e405, hx405_0, hx405_1, hx405_2, hx405_3, hx405_4, hx405_5, hx405_6, hx405_7, hx405_8⟩ := at_T40 (Kd.C_below HR0.out HB.out) a2 p405 q405
      cases e405
      replace p405 := eq_true p405
      replace q405 := eq_true q405
      go_upto_region 7 with (fail)
      go_cut [61] (fun v61 wc => ∃ (kq : Nat) (x61_17 : Bool), v61 = .bool x61_17 ∧ Aside0 (variorumref10_Cost.j1 kq l0 a1 a2 t402 (wrap64 ((wrap64 (t402 + 10)) * (wrap64 (t402 + 10)))) ((rd_T40 l0 a2).f2) x61_17 t399 t400 t401 t402 = some (r1, r2, r3)) ∧ Aside0 (kq ≤ kj6) ∧ Aside0 (wc.heap[gb404]? = some (.cells #[.int .i64 t399, .int .i64 t400, .int .i64 t401, .int .i64 t402] 56 (0, 0))) ∧ Aside0 (Below w.heap.size w wc))
      case first =>
       have H := HC18.out
       clear HC18
       by_cases c20 : ((rd_T40 l0 a2).f0) = 2
       ·rw [if_pos c20] at H
        have c20b0 : (((rd_T40 l0 a2).f0) == 2) = true := beq_iff_eq.mpr c20
        have c20b1 : (((rd_T40 l0 a2).f0) != 2) = false := bne_eq_false_iff_eq.mpr c20
        clear c20
        (first | rw [c20b0] | (simp only [i64_w, i32_w]; rw [c20b0]) | skip)
        have H' := a_ H
        clear H
        have p406 : 0 ≤ (a2 : Int) := od_
        have q406 : a2 < (l0.length : Int) := od_
        obtain ⟨ad406, e406, hx406_0, hx406_1, hx406_2, hx406_3, hx406_4, hx406_5, hx406_6, hx406_7, hx406_8⟩ := at_T40 (Kd.C_below HR0.out HB.out) a2 p406 q406
        obtain rfl : ad405 = ad406 := (by injection e406)
        replace p406 := eq_true p406
        replace q406 := eq_true q406
        go_wp2
        go_meet
        case rel => exact ⟨_, (decide (((rd_T40 l0 a2).f2) > 0)), (by first | rfl | (simp; done) | (simp [*]; done)), H', ⟨by have := HJ6.out; first | omega | exact Nat.le_refl _⟩, ⟨kv_ BK404.out⟩, ⟨bS1_ HB.out GE404.out⟩⟩
       ·rw [if_neg c20] at H
        have c20b0 : (((rd_T40 l0 a2).f0) == 2) = false := beq_eq_false_iff_ne.mpr c20
        have c20b1 : (((rd_T40 l0 a2).f0) != 2) = true := bne_iff_ne.mpr c20
        (first | rw [c20b0] | (simp only [i64_w, i32_w]; rw [c20b0]) | skip)
        have H' := a_ H
        clear H
        have p406 : 0 ≤ (a2 : Int) := od_
        have q406 : a2 < (l0.length : Int) := od_
        obtain ⟨ad406, e406, hx406_0, hx406_1, hx406_2, hx406_3, hx406_4, hx406_5, hx406_6, hx406_7, hx406_8⟩ := at_T40 (Kd.C_below HR0.out HB.out) a2 p406 q406
        obtain rfl : ad405 = ad406 := (by injection e406)
        replace p406 := eq_true p406
        replace q406 := eq_true q406
        go_wp2
        go_meet
        case rel => exact ⟨_, (false), (by first | rfl | (simp; done) | (simp [*]; done)), H', ⟨by have := HJ6.out; first | omega | exact Nat.le_refl _⟩, ⟨kv_ BK404.out⟩, ⟨bS1_ HB.out GE404.out⟩⟩
      case rest =>
       clear HC18
       try clear c1
       try clear c2
       try clear p2
       try clear c3
       try clear p4
       try clear q4
       try clear hx4
       try clear p6
       try clear c11
       try clear c12
       try clear c12b0
       try clear c15
       try clear c16
       try clear c16b0
       try clear c17
       try clear c17b0
       try clear c20
       try clear c20b0
       try clear c20b1
       try clear Z10_0
       try clear Z10_1
       try clear Z10_2
       try clear Z10_3
       try clear Z13_0
       try clear Z13_1
       try clear Z13_2
       try clear Z13_3
       try clear Z14_0
       try clear Z14_1
       try clear Z14_2
       try clear Z14_3
       try clear Z19_0
       try clear Z19_1
       try clear Z19_2
       try clear Z19_3
       try clear Y10_0
       try clear Y10_1
       try clear Y10_2
       try clear Y10_3
       try clear Y13_0
       try clear Y13_1
       try clear Y13_2
       try clear Y13_3
       try clear Y14_0
       try clear Y14_1
       try clear Y14_2
       try clear Y14_3
       try clear Y19_0
       try clear Y19_1
       try clear Y19_2
       try clear Y19_3
       try clear hx405_0
       try clear hx405_1
       try clear hx405_2
       try clear hx405_3
       try clear hx405_4
       try clear hx405_5
       try clear hx405_6
       try clear hx405_7
       try clear hx405_8
       try clear hx406_0
       try clear hx406_1
       try clear hx406_2
       try clear hx406_3
       try clear hx406_4
       try clear hx406_5
       try clear hx406_6
       try clear hx406_7
       try clear hx406_8
       try clear p2
       try clear p405
       try clear p406
       try clear q405
       try clear q406
       obtain ⟨kq, x61_17, rfl, HA, HJ17, BK404, HB⟩ := hcut
       cases kq with
       | zero => exact absurd HA.out (by simp [variorumref10_Cost.j1])
       | succ kj17 =>
        have H := HA.out
        clear HA
        simp only [variorumref10_Cost.j1] at H
        have HC21 := a_ H
        clear H
        go_upto_if 61 with (fail)
        go_cut [16] (fun v16 wc => ∃ (kq : Nat) (x16_20 : Int), v16 = .int .i64 x16_20 ∧ Aside0 (variorumref10_Cost.j2 kq l0 a1 a2 t402 x16_20 ((rd_T40 l0 a2).f2) t399 t400 t401 t402 = some (r1, r2, r3)) ∧ Aside0 (kq ≤ kj17) ∧ Aside0 (wc.heap[gb404]? = some (.cells #[.int .i64 t399, .int .i64 t400, .int .i64 t401, .int .i64 t402] 56 (0, 0))) ∧ Aside0 (Below w.heap.size w wc))
        case first =>
         have H := HC21.out
         clear HC21
         by_cases c22 : x61_17 = true
         ·subst c22
          have H1 : (variorumref10_Cost.j2 kj17 l0 a1 a2 t402 (wrap64 ((wrap64 ((wrap64 (t402 + 10)) * (wrap64 (t402 + 10)))) + (wrap64 (((rd_T40 l0 a2).f2) * ((rd_T40 l0 a2).f2))))) ((rd_T40 l0 a2).f2) t399 t400 t401 t402) = some (r1, r2, r3) := by rw [if_pos rfl] at H; exact H
          clear H
          have H := H1
          clear H1
          have H' := a_ H
          clear H
          go_wp2
          go_meet
          case rel => exact ⟨_, (wrap64 ((wrap64 ((wrap64 (t402 + 10)) * (wrap64 (t402 + 10)))) + (wrap64 (((rd_T40 l0 a2).f2) * ((rd_T40 l0 a2).f2))))), (by first | rfl | (simp; done) | (simp [*]; done)), H', ⟨by have := HJ6.out; have := HJ17.out; first | omega | exact Nat.le_refl _⟩, ⟨kv_ BK404.out⟩, ⟨bS1_ HB.out GE404.out⟩⟩
         ·replace c22 := Bool.eq_false_iff.mpr c22
          subst c22
          have H1 : (variorumref10_Cost.j2 kj17 l0 a1 a2 t402 (wrap64 ((wrap64 (t402 + 10)) * (wrap64 (t402 + 10)))) ((rd_T40 l0 a2).f2) t399 t400 t401 t402) = some (r1, r2, r3) := by rw [if_neg (show ¬ (false = true) by decide)] at H; exact H
          clear H
          have H := H1
          clear H1
          have H' := a_ H
          clear H
          go_wp2
          go_meet
          case rel => exact ⟨_, ((wrap64 ((wrap64 (t402 + 10)) * (wrap64 (t402 + 10))))), (by first | rfl | (simp; done) | (simp [*]; done)), H', ⟨by have := HJ6.out; have := HJ17.out; first | omega | exact Nat.le_refl _⟩, ⟨kv_ BK404.out⟩, ⟨bS1_ HB.out GE404.out⟩⟩
        case rest =>
         clear HC21
         try clear c1
         try clear c2
         try clear p2
         try clear c3
         try clear p4
         try clear q4
         try clear hx4
         try clear p6
         try clear c11
         try clear c12
         try clear c12b0
         try clear c15
         try clear c16
         try clear c16b0
         try clear c17
         try clear c17b0
         try clear c20
         try clear c20b0
         try clear c20b1
         try clear c22
         try clear Z10_0
         try clear Z10_1
         try clear Z10_2
         try clear Z10_3
         try clear Z13_0
         try clear Z13_1
         try clear Z13_2
         try clear Z13_3
         try clear Z14_0
         try clear Z14_1
         try clear Z14_2
         try clear Z14_3
         try clear Z19_0
         try clear Z19_1
         try clear Z19_2
         try clear Z19_3
         try clear Y10_0
         try clear Y10_1
         try clear Y10_2
         try clear Y10_3
         try clear Y13_0
         try clear Y13_1
         try clear Y13_2
         try clear Y13_3
         try clear Y14_0
         try clear Y14_1
         try clear Y14_2
         try clear Y14_3
         try clear Y19_0
         try clear Y19_1
         try clear Y19_2
         try clear Y19_3
         try clear hx405_0
         try clear hx405_1
         try clear hx405_2
         try clear hx405_3
         try clear hx405_4
         try clear hx405_5
         try clear hx405_6
         try clear hx405_7
         try clear hx405_8
         try clear hx406_0
         try clear hx406_1
         try clear hx406_2
         try clear hx406_3
         try clear hx406_4
         try clear hx406_5
         try clear hx406_6
         try clear hx406_7
         try clear hx406_8
         try clear p2
         try clear p4
         try clear p405
         try clear p406
         try clear p6
         try clear q4
         try clear q405
         try clear q406
         obtain ⟨kq, x16_20, rfl, HA, HJ20, BK404, HB⟩ := hcut
         cases kq with
         | zero => exact absurd HA.out (by simp [variorumref10_Cost.j2])
         | succ kj20 =>
          have H := HA.out
          clear HA
          simp only [variorumref10_Cost.j2] at H
          have HC23 := a_ H
          clear H
          go_upto_region 9 with (fail)
          go_cut [80] (fun v80 wc => ∃ (kq : Nat) (x80_22 : Bool), v80 = .bool x80_22 ∧ Aside0 (variorumref10_Cost.j3 kq l0 a1 a2 t402 x16_20 ((rd_T40 l0 a2).f2) x80_22 t399 t400 t401 t402 = some (r1, r2, r3)) ∧ Aside0 (kq ≤ kj20) ∧ Aside0 (wc.heap[gb404]? = some (.cells #[.int .i64 t399, .int .i64 t400, .int .i64 t401, .int .i64 t402] 56 (0, 0))) ∧ Aside0 (Below w.heap.size w wc))
          case first =>
           have H := HC23.out
           clear HC23
           by_cases c24 : 0 ≤ a2
           ·rw [if_pos c24] at H
            have c24b0 : decide (0 ≤ a2) = true := decide_eq_true c24
            clear c24
            (first | rw [c24b0] | (simp only [i64_w, i32_w]; rw [c24b0]) | skip)
            by_cases c25 : a2 < (l0.length : Int)
            ·rw [if_pos c25] at H
             have c25b0 : decide (a2 < (l0.length : Int)) = true := decide_eq_true c25
             clear c25
             by_cases c26 : ((rd_T40 l0 a2).f0) = 2
             ·rw [if_pos c26] at H
              have c26b0 : (((rd_T40 l0 a2).f0) == 2) = true := beq_iff_eq.mpr c26
              have c26b1 : (((rd_T40 l0 a2).f0) != 2) = false := bne_eq_false_iff_eq.mpr c26
              clear c26
              by_cases c27 : ((rd_T40 l0 a2).f2) < 0
              ·rw [if_pos c27] at H
               have c27b0 : decide (((rd_T40 l0 a2).f2) < 0) = true := decide_eq_true c27
               clear c27
               have H' := a_ H
               clear H
               have p407 : 0 ≤ (a2 : Int) := od_
               have q407 : a2 < (l0.length : Int) := od_
               obtain ⟨ad407, e407, hx407_0, hx407_1, hx407_2, hx407_3, hx407_4, hx407_5, hx407_6, hx407_7, hx407_8⟩ := at_T40 (Kd.C_below HR0.out HB.out) a2 p407 q407
               obtain rfl : ad405 = ad407 := (by injection e407)
               replace p407 := eq_true p407
               replace q407 := eq_true q407
               go_wp2
               go_meet
               case rel => exact ⟨_, ((((rd_T40 l0 a2).f2) != (-10000))), (by first | rfl | (simp; done) | (simp [*]; done)), H', ⟨by have := HJ6.out; have := HJ17.out; have := HJ20.out; first | omega | exact Nat.le_refl _⟩, ⟨kv_ BK404.out⟩, ⟨bS1_ HB.out GE404.out⟩⟩
              ·rw [if_neg c27] at H
               have c27b0 : decide (((rd_T40 l0 a2).f2) < 0) = false := decide_eq_false c27
               clear c27
               have H' := a_ H
               clear H
               have p407 : 0 ≤ (a2 : Int) := od_
               have q407 : a2 < (l0.length : Int) := od_
               obtain ⟨ad407, e407, hx407_0, hx407_1, hx407_2, hx407_3, hx407_4, hx407_5, hx407_6, hx407_7, hx407_8⟩ := at_T40 (Kd.C_below HR0.out HB.out) a2 p407 q407
               obtain rfl : ad405 = ad407 := (by injection e407)
               replace p407 := eq_true p407
               replace q407 := eq_true q407
               go_wp2
               go_meet
               case rel => exact ⟨_, (false), (by first | rfl | (simp; done) | (simp [*]; done)), H', ⟨by have := HJ6.out; have := HJ17.out; have := HJ20.out; first | omega | exact Nat.le_refl _⟩, ⟨kv_ BK404.out⟩, ⟨bS1_ HB.out GE404.out⟩⟩
             ·rw [if_neg c26] at H
              have c26b0 : (((rd_T40 l0 a2).f0) == 2) = false := beq_eq_false_iff_ne.mpr c26
              have c26b1 : (((rd_T40 l0 a2).f0) != 2) = true := bne_iff_ne.mpr c26
              have H' := a_ H
              clear H
              have p407 : 0 ≤ (a2 : Int) := od_
              have q407 : a2 < (l0.length : Int) := od_
              obtain ⟨ad407, e407, hx407_0, hx407_1, hx407_2, hx407_3, hx407_4, hx407_5, hx407_6, hx407_7, hx407_8⟩ := at_T40 (Kd.C_below HR0.out HB.out) a2 p407 q407
              obtain rfl : ad405 = ad407 := (by injection e407)
              replace p407 := eq_true p407
              replace q407 := eq_true q407
              go_wp2
              go_meet
              case rel => exact ⟨_, (false), (by first | rfl | (simp; done) | (simp [*]; done)), H', ⟨by have := HJ6.out; have := HJ17.out; have := HJ20.out; first | omega | exact Nat.le_refl _⟩, ⟨kv_ BK404.out⟩, ⟨bS1_ HB.out GE404.out⟩⟩
            ·rw [if_neg c25] at H
             exact absurd H (by simp)
           ·rw [if_neg c24] at H
            exact absurd H (by simp)
          case rest =>
           clear HC23
           try clear c1
           try clear c2
           try clear p2
           try clear c3
           try clear p4
           try clear q4
           try clear hx4
           try clear p6
           try clear c11
           try clear c12
           try clear c12b0
           try clear c15
           try clear c16
           try clear c16b0
           try clear c17
           try clear c17b0
           try clear c20
           try clear c20b0
           try clear c20b1
           try clear c22
           try clear c24
           try clear c24b0
           try clear c25
           try clear c25b0
           try clear c26
           try clear c26b0
           try clear c26b1
           try clear c27
           try clear c27b0
           try clear Z10_0
           try clear Z10_1
           try clear Z10_2
           try clear Z10_3
           try clear Z13_0
           try clear Z13_1
           try clear Z13_2
           try clear Z13_3
           try clear Z14_0
           try clear Z14_1
           try clear Z14_2
           try clear Z14_3
           try clear Z19_0
           try clear Z19_1
           try clear Z19_2
           try clear Z19_3
           try clear Y10_0
           try clear Y10_1
           try clear Y10_2
           try clear Y10_3
           try clear Y13_0
           try clear Y13_1
           try clear Y13_2
           try clear Y13_3
           try clear Y14_0
           try clear Y14_1
           try clear Y14_2
           try clear Y14_3
           try clear Y19_0
           try clear Y19_1
           try clear Y19_2
           try clear Y19_3
           try clear hx405_0
           try clear hx405_1
           try clear hx405_2
           try clear hx405_3
           try clear hx405_4
           try clear hx405_5
           try clear hx405_6
           try clear hx405_7
           try clear hx405_8
           try clear hx406_0
           try clear hx406_1
           try clear hx406_2
           try clear hx406_3
           try clear hx406_4
           try clear hx406_5
           try clear hx406_6
           try clear hx406_7
           try clear hx406_8
           try clear hx407_0
           try clear hx407_1
           try clear hx407_2
           try clear hx407_3
           try clear hx407_4
           try clear hx407_5
           try clear hx407_6
           try clear hx407_7
           try clear hx407_8
           try clear p2
           try clear p4
           try clear p405
           try clear p406
           try clear p407
           try clear p6
           try clear q4
           try clear q405
           try clear q406
           try clear q407
           obtain ⟨kq, x80_22, rfl, HA, HJ22, BK404, HB⟩ := hcut
           cases kq with
           | zero => exact absurd HA.out (by simp [variorumref10_Cost.j3])
           | succ kj22 =>
            have H := HA.out
            clear HA
            simp only [variorumref10_Cost.j3] at H
            have HC28 := a_ H
            clear H
            go_upto_if 80 with (fail)
            go_cut [16] (fun v16 wc => ∃ (kq : Nat) (x16_27 : Int), v16 = .int .i64 x16_27 ∧ Aside0 (variorumref10_Cost.j4 kq l0 a1 a2 t402 x16_27 t399 t400 t401 t402 = some (r1, r2, r3)) ∧ Aside0 (kq ≤ kj22) ∧ Aside0 (wc.heap[gb404]? = some (.cells #[.int .i64 t399, .int .i64 t400, .int .i64 t401, .int .i64 t402] 56 (0, 0))) ∧ Aside0 (Below w.heap.size w wc))
            case first =>
             have H := HC28.out
             clear HC28
             by_cases c29 : x80_22 = true
             ·subst c29
              have H1 : (variorumref10_Cost.j4 kj22 l0 a1 a2 t402 (wrap64 (x16_20 - (wrap64 (((rd_T40 l0 a2).f2) * ((rd_T40 l0 a2).f2))))) t399 t400 t401 t402) = some (r1, r2, r3) := by rw [if_pos rfl] at H; exact H
              clear H
              have H := H1
              clear H1
              have H' := a_ H
              clear H
              go_wp2
              go_meet
              case rel => exact ⟨_, (wrap64 (x16_20 - (wrap64 (((rd_T40 l0 a2).f2) * ((rd_T40 l0 a2).f2))))), (by first | rfl | (simp; done) | (simp [*]; done)), H', ⟨by have := HJ6.out; have := HJ17.out; have := HJ20.out; have := HJ22.out; first | omega | exact Nat.le_refl _⟩, ⟨kv_ BK404.out⟩, ⟨bS1_ HB.out GE404.out⟩⟩
             ·replace c29 := Bool.eq_false_iff.mpr c29
              subst c29
              have H1 : (variorumref10_Cost.j4 kj22 l0 a1 a2 t402 x16_20 t399 t400 t401 t402) = some (r1, r2, r3) := by rw [if_neg (show ¬ (false = true) by decide)] at H; exact H
              clear H
              have H := H1
              clear H1
              have H' := a_ H
              clear H
              go_wp2
              go_meet
              case rel => exact ⟨_, (x16_20), (by first | rfl | (simp; done) | (simp [*]; done)), H', ⟨by have := HJ6.out; have := HJ17.out; have := HJ20.out; have := HJ22.out; first | omega | exact Nat.le_refl _⟩, ⟨kv_ BK404.out⟩, ⟨bS1_ HB.out GE404.out⟩⟩
            case rest =>
             clear HC28
             try clear c1
             try clear c2
             try clear p2
             try clear c3
             try clear p4
             try clear q4
             try clear hx4
             try clear p6
             try clear c11
             try clear c12
             try clear c12b0
             try clear c15
             try clear c16
             try clear c16b0
             try clear c17
             try clear c17b0
             try clear c20
             try clear c20b0
             try clear c20b1
             try clear c22
             try clear c24
             try clear c24b0
             try clear c25
             try clear c25b0
             try clear c26
             try clear c26b0
             try clear c26b1
             try clear c27
             try clear c27b0
             try clear c29
             try clear Z10_0
             try clear Z10_1
             try clear Z10_2
             try clear Z10_3
             try clear Z13_0
             try clear Z13_1
             try clear Z13_2
             try clear Z13_3
             try clear Z14_0
             try clear Z14_1
             try clear Z14_2
             try clear Z14_3
             try clear Z19_0
             try clear Z19_1
             try clear Z19_2
             try clear Z19_3
             try clear Y10_0
             try clear Y10_1
             try clear Y10_2
             try clear Y10_3
             try clear Y13_0
             try clear Y13_1
             try clear Y13_2
             try clear Y13_3
             try clear Y14_0
             try clear Y14_1
             try clear Y14_2
             try clear Y14_3
             try clear Y19_0
             try clear Y19_1
             try clear Y19_2
             try clear Y19_3
             try clear hx405_0
             try clear hx405_1
             try clear hx405_2
             try clear hx405_3
             try clear hx405_4
             try clear hx405_5
             try clear hx405_6
             try clear hx405_7
             try clear hx405_8
             try clear hx406_0
             try clear hx406_1
             try clear hx406_2
             try clear hx406_3
             try clear hx406_4
             try clear hx406_5
             try clear hx406_6
             try clear hx406_7
             try clear hx406_8
             try clear hx407_0
             try clear hx407_1
             try clear hx407_2
             try clear hx407_3
             try clear hx407_4
             try clear hx407_5
             try clear hx407_6
             try clear hx407_7
             try clear hx407_8
             try clear p2
             try clear p4
             try clear p405
             try clear p406
             try clear p407
             try clear p6
             try clear q4
             try clear q405
             try clear q406
             try clear q407
             obtain ⟨kq, x16_27, rfl, HA, HJ27, BK404, HB⟩ := hcut
             cases kq with
             | zero => exact absurd HA.out (by simp [variorumref10_Cost.j4])
             | succ kj27 =>
              have H := HA.out
              clear HA
              simp only [variorumref10_Cost.j4] at H
              have HC30 := a_ H
              clear H
              go_upto_region 11 with (fail)
              go_cut [101] (fun v101 wc => ∃ (kq : Nat) (x101_29 : Bool), v101 = .bool x101_29 ∧ Aside0 (variorumref10_Cost.j5 kq t402 x16_27 x101_29 t399 t400 t401 t402 = some (r1, r2, r3)) ∧ Aside0 (kq ≤ kj27) ∧ Aside0 (wc.heap[gb404]? = some (.cells #[.int .i64 t399, .int .i64 t400, .int .i64 t401, .int .i64 t402] 56 (0, 0))) ∧ Aside0 (Below w.heap.size w wc))
              case first =>
               have H := HC30.out
               clear HC30
               by_cases c31 : a1 ≥ 0
               ·rw [if_pos c31] at H
                have c31b0 : decide (0 ≤ a1) = true := decide_eq_true c31
                clear c31
                (first | rw [c31b0] | (simp only [i64_w, i32_w]; rw [c31b0]) | skip)
                by_cases c32 : 0 ≤ a1
                ·rw [if_pos c32] at H
                 have c32b0 : decide (0 ≤ a1) = true := decide_eq_true c32
                 clear c32
                 by_cases c33 : a1 < (l0.length : Int)
                 ·rw [if_pos c33] at H
                  have c33b0 : decide (a1 < (l0.length : Int)) = true := decide_eq_true c33
                  clear c33
                  obtain ⟨bq34, hbq34⟩ : ∃ b_ : Bool, b_ = ((rd_T40 l0 a1).f3) := ⟨_, rfl⟩
                  replace H : (if bq34 = true then (if 0 ≤ a2 then (if a2 < (l0.length : Int) then (variorumref10_Cost.j5 kj27 t402 x16_27 ((rd_T40 l0 a2).f3) t399 t400 t401 t402) else (none)) else (none)) else (variorumref10_Cost.j5 kj27 t402 x16_27 false t399 t400 t401 t402)) = some (r1, r2, r3) := by rw [← hbq34] at H; exact H
                  have Nbq34 := a_ hbq34
                  clear hbq34
                  by_cases c35 : bq34 = true
                  ·subst c35
                   have H1 : (if 0 ≤ a2 then (if a2 < (l0.length : Int) then (variorumref10_Cost.j5 kj27 t402 x16_27 ((rd_T40 l0 a2).f3) t399 t400 t401 t402) else (none)) else (none)) = some (r1, r2, r3) := by rw [if_pos rfl] at H; exact H
                   clear H
                   have H := H1
                   clear H1
                   by_cases c36 : 0 ≤ a2
                   ·rw [if_pos c36] at H
                    have c36b0 : decide (0 ≤ a2) = true := decide_eq_true c36
                    clear c36
                    by_cases c37 : a2 < (l0.length : Int)
                    ·rw [if_pos c37] at H
                     have c37b0 : decide (a2 < (l0.length : Int)) = true := decide_eq_true c37
                     clear c37
                     have H' := a_ H
                     clear H
                     have p408 : 0 ≤ (a1 : Int) := od_
                     have q408 : a1 < (l0.length : Int) := od_
                     obtain ⟨ad408, e408, hx408_0, hx408_1, hx408_2, hx408_3, hx408_4, hx408_5, hx408_6, hx408_7, hx408_8⟩ := at_T40 HR0.out a1 p408 q408
                     (try rw [← Nbq34.out] at hx408_6)
                     obtain rfl : ad405 = ad408 := (by injection e408)
                     try replace hx408_0 := up_ HB.out hx408_0
                     try replace hx408_1 := up_ HB.out hx408_1
                     try replace hx408_2 := up_ HB.out hx408_2
                     try replace hx408_3 := up_ HB.out hx408_3
                     try replace hx408_4 := up_ HB.out hx408_4
                     try replace hx408_5 := up_ HB.out hx408_5
                     try replace hx408_6 := up_ HB.out hx408_6
                     try replace hx408_7 := up_ HB.out hx408_7
                     try replace hx408_8 := up_ HB.out hx408_8
                     replace p408 := eq_true p408
                     replace q408 := eq_true q408
                     have p409 : 0 ≤ (a2 : Int) := od_
                     have q409 : a2 < (l0.length : Int) := od_
                     obtain ⟨ad409, e409, hx409_0, hx409_1, hx409_2, hx409_3, hx409_4, hx409_5, hx409_6, hx409_7, hx409_8⟩ := at_T40 HR0.out a2 p409 q409
                     (try rw [← Nbq34.out] at hx409_6)
                     obtain rfl : ad405 = ad409 := (by injection e409)
                     try replace hx409_0 := up_ HB.out hx409_0
                     try replace hx409_1 := up_ HB.out hx409_1
                     try replace hx409_2 := up_ HB.out hx409_2
                     try replace hx409_3 := up_ HB.out hx409_3
                     try replace hx409_4 := up_ HB.out hx409_4
                     try replace hx409_5 := up_ HB.out hx409_5
                     try replace hx409_6 := up_ HB.out hx409_6
                     try replace hx409_7 := up_ HB.out hx409_7
                     try replace hx409_8 := up_ HB.out hx409_8
                     replace p409 := eq_true p409
                     replace q409 := eq_true q409
                     go_wp2
                     go_meet
                     case rel => exact ⟨_, ((rd_T40 l0 a2).f3), (by first | rfl | (simp; done) | (simp [*]; done)), H', ⟨by have := HJ6.out; have := HJ17.out; have := HJ20.out; have := HJ22.out; have := HJ27.out; first | omega | exact Nat.le_refl _⟩, ⟨kv_ BK404.out⟩, ⟨bS1_ HB.out GE404.out⟩⟩
                    ·rw [if_neg c37] at H
                     exact absurd H (by simp)
                   ·rw [if_neg c36] at H
                    exact absurd H (by simp)
                  ·replace c35 := Bool.eq_false_iff.mpr c35
                   subst c35
                   have H1 : (variorumref10_Cost.j5 kj27 t402 x16_27 false t399 t400 t401 t402) = some (r1, r2, r3) := by rw [if_neg (show ¬ (false = true) by decide)] at H; exact H
                   clear H
                   have H := H1
                   clear H1
                   have H' := a_ H
                   clear H
                   have p408 : 0 ≤ (a1 : Int) := od_
                   have q408 : a1 < (l0.length : Int) := od_
                   obtain ⟨ad408, e408, hx408_0, hx408_1, hx408_2, hx408_3, hx408_4, hx408_5, hx408_6, hx408_7, hx408_8⟩ := at_T40 HR0.out a1 p408 q408
                   (try rw [← Nbq34.out] at hx408_6)
                   obtain rfl : ad405 = ad408 := (by injection e408)
                   try replace hx408_0 := up_ HB.out hx408_0
                   try replace hx408_1 := up_ HB.out hx408_1
                   try replace hx408_2 := up_ HB.out hx408_2
                   try replace hx408_3 := up_ HB.out hx408_3
                   try replace hx408_4 := up_ HB.out hx408_4
                   try replace hx408_5 := up_ HB.out hx408_5
                   try replace hx408_6 := up_ HB.out hx408_6
                   try replace hx408_7 := up_ HB.out hx408_7
                   try replace hx408_8 := up_ HB.out hx408_8
                   replace p408 := eq_true p408
                   replace q408 := eq_true q408
                   go_wp2
                   go_meet
                   case rel => exact ⟨_, (false), (by first | rfl | (simp; done) | (simp [*]; done)), H', ⟨by have := HJ6.out; have := HJ17.out; have := HJ20.out; have := HJ22.out; have := HJ27.out; first | omega | exact Nat.le_refl _⟩, ⟨kv_ BK404.out⟩, ⟨bS1_ HB.out GE404.out⟩⟩
                 ·rw [if_neg c33] at H
                  exact absurd H (by simp)
                ·rw [if_neg c32] at H
                 exact absurd H (by simp)
               ·rw [if_neg c31] at H
                have c31b0 : decide (0 ≤ a1) = false := decide_eq_false c31
                clear c31
                (first | rw [c31b0] | (simp only [i64_w, i32_w]; rw [c31b0]) | skip)
                have H' := a_ H
                clear H
                go_wp2
                go_meet
                case rel => exact ⟨_, (false), (by first | rfl | (simp; done) | (simp [*]; done)), H', ⟨by have := HJ6.out; have := HJ17.out; have := HJ20.out; have := HJ22.out; have := HJ27.out; first | omega | exact Nat.le_refl _⟩, ⟨kv_ BK404.out⟩, ⟨bS1_ HB.out GE404.out⟩⟩
              case rest =>
               clear HC30
               try clear c1
               try clear c2
               try clear p2
               try clear c3
               try clear q3
               try clear p4
               try clear q4
               try clear hx4
               try clear p6
               try clear c11
               try clear c12
               try clear c12b0
               try clear c15
               try clear c16
               try clear c16b0
               try clear c17
               try clear c17b0
               try clear c20
               try clear c20b0
               try clear c20b1
               try clear c22
               try clear c24
               try clear c24b0
               try clear c25
               try clear c25b0
               try clear c26
               try clear c26b0
               try clear c26b1
               try clear c27
               try clear c27b0
               try clear c29
               try clear c31
               try clear c31b0
               try clear c32
               try clear c32b0
               try clear c33
               try clear c33b0
               try clear q34
               try clear c35
               try clear c36
               try clear c36b0
               try clear c37
               try clear c37b0
               try clear Z10_0
               try clear Z10_1
               try clear Z10_2
               try clear Z10_3
               try clear Z13_0
               try clear Z13_1
               try clear Z13_2
               try clear Z13_3
               try clear Z14_0
               try clear Z14_1
               try clear Z14_2
               try clear Z14_3
               try clear Z19_0
               try clear Z19_1
               try clear Z19_2
               try clear Z19_3
               try clear Y10_0
               try clear Y10_1
               try clear Y10_2
               try clear Y10_3
               try clear Y13_0
               try clear Y13_1
               try clear Y13_2
               try clear Y13_3
               try clear Y14_0
               try clear Y14_1
               try clear Y14_2
               try clear Y14_3
               try clear Y19_0
               try clear Y19_1
               try clear Y19_2
               try clear Y19_3
               try clear hx405_0
               try clear hx405_1
               try clear hx405_2
               try clear hx405_3
               try clear hx405_4
               try clear hx405_5
               try clear hx405_6
               try clear hx405_7
               try clear hx405_8
               try clear hx406_0
               try clear hx406_1
               try clear hx406_2
               try clear hx406_3
               try clear hx406_4
               try clear hx406_5
               try clear hx406_6
               try clear hx406_7
               try clear hx406_8
               try clear hx407_0
               try clear hx407_1
               try clear hx407_2
               try clear hx407_3
               try clear hx407_4
               try clear hx407_5
               try clear hx407_6
               try clear hx407_7
               try clear hx407_8
               try clear hx408_0
               try clear hx408_1
               try clear hx408_2
               try clear hx408_3
               try clear hx408_4
               try clear hx408_5
               try clear hx408_6
               try clear hx408_7
               try clear hx408_8
               try clear hx409_0
               try clear hx409_1
               try clear hx409_2
               try clear hx409_3
               try clear hx409_4
               try clear hx409_5
               try clear hx409_6
               try clear hx409_7
               try clear hx409_8
               try clear p2
               try clear p4
               try clear p405
               try clear p406
               try clear p407
               try clear p408
               try clear p409
               try clear p6
               try clear q4
               try clear q405
               try clear q406
               try clear q407
               try clear q408
               try clear q409
               obtain ⟨kq, x101_29, rfl, HA, HJ29, BK404, HB⟩ := hcut
               cases kq with
               | zero => exact absurd HA.out (by simp [variorumref10_Cost.j5])
               | succ kj29 =>
                have H := HA.out
                clear HA
                simp only [variorumref10_Cost.j5] at H
                have HC38 := a_ H
                clear H
                go_upto_if 101 with (fail)
                go_cut [16] (fun v16 wc => ∃ (kq : Nat) (x16_37 : Int), v16 = .int .i64 x16_37 ∧ Aside0 (variorumref10_Cost.j6 kq t402 x16_37 t399 t400 t401 t402 = some (r1, r2, r3)) ∧ Aside0 (kq ≤ kj29) ∧ Aside0 (wc.heap[gb404]? = some (.cells #[.int .i64 t399, .int .i64 t400, .int .i64 t401, .int .i64 t402] 56 (0, 0))) ∧ Aside0 (Below w.heap.size w wc))
                case first =>
                 have H := HC38.out
                 clear HC38
                 by_cases c39 : x101_29 = true
                 ·subst c39
                  have H1 : (variorumref10_Cost.j6 kj29 t402 (wrap64 (x16_27 + 10000)) t399 t400 t401 t402) = some (r1, r2, r3) := by rw [if_pos rfl] at H; exact H
                  clear H
                  have H := H1
                  clear H1
                  have H' := a_ H
                  clear H
                  go_wp2
                  go_meet
                  case rel => exact ⟨_, (wrap64 (x16_27 + 10000)), (by first | rfl | (simp; done) | (simp [*]; done)), H', ⟨by have := HJ6.out; have := HJ17.out; have := HJ20.out; have := HJ22.out; have := HJ27.out; have := HJ29.out; first | omega | exact Nat.le_refl _⟩, ⟨kv_ BK404.out⟩, ⟨bS1_ HB.out GE404.out⟩⟩
                 ·replace c39 := Bool.eq_false_iff.mpr c39
                  subst c39
                  have H1 : (variorumref10_Cost.j6 kj29 t402 x16_27 t399 t400 t401 t402) = some (r1, r2, r3) := by rw [if_neg (show ¬ (false = true) by decide)] at H; exact H
                  clear H
                  have H := H1
                  clear H1
                  have H' := a_ H
                  clear H
                  go_wp2
                  go_meet
                  case rel => exact ⟨_, (x16_27), (by first | rfl | (simp; done) | (simp [*]; done)), H', ⟨by have := HJ6.out; have := HJ17.out; have := HJ20.out; have := HJ22.out; have := HJ27.out; have := HJ29.out; first | omega | exact Nat.le_refl _⟩, ⟨kv_ BK404.out⟩, ⟨bS1_ HB.out GE404.out⟩⟩
                case rest =>
                 clear HC38
                 try clear c1
                 try clear c2
                 try clear p2
                 try clear c3
                 try clear q3
                 try clear p4
                 try clear q4
                 try clear hx4
                 try clear p6
                 try clear c11
                 try clear c12
                 try clear c12b0
                 try clear c15
                 try clear c16
                 try clear c16b0
                 try clear c17
                 try clear c17b0
                 try clear c20
                 try clear c20b0
                 try clear c20b1
                 try clear c22
                 try clear c24
                 try clear c24b0
                 try clear c25
                 try clear c25b0
                 try clear c26
                 try clear c26b0
                 try clear c26b1
                 try clear c27
                 try clear c27b0
                 try clear c29
                 try clear c31
                 try clear c31b0
                 try clear c32
                 try clear c32b0
                 try clear c33
                 try clear c33b0
                 try clear q34
                 try clear c35
                 try clear c36
                 try clear c36b0
                 try clear c37
                 try clear c37b0
                 try clear c39
                 try clear Z10_0
                 try clear Z10_1
                 try clear Z10_2
                 try clear Z10_3
                 try clear Z13_0
                 try clear Z13_1
                 try clear Z13_2
                 try clear Z13_3
                 try clear Z14_0
                 try clear Z14_1
                 try clear Z14_2
                 try clear Z14_3
                 try clear Z19_0
                 try clear Z19_1
                 try clear Z19_2
                 try clear Z19_3
                 try clear Y10_0
                 try clear Y10_1
                 try clear Y10_2
                 try clear Y10_3
                 try clear Y13_0
                 try clear Y13_1
                 try clear Y13_2
                 try clear Y13_3
                 try clear Y14_0
                 try clear Y14_1
                 try clear Y14_2
                 try clear Y14_3
                 try clear Y19_0
                 try clear Y19_1
                 try clear Y19_2
                 try clear Y19_3
                 try clear hx405_0
                 try clear hx405_1
                 try clear hx405_2
                 try clear hx405_3
                 try clear hx405_4
                 try clear hx405_5
                 try clear hx405_6
                 try clear hx405_7
                 try clear hx405_8
                 try clear hx406_0
                 try clear hx406_1
                 try clear hx406_2
                 try clear hx406_3
                 try clear hx406_4
                 try clear hx406_5
                 try clear hx406_6
                 try clear hx406_7
                 try clear hx406_8
                 try clear hx407_0
                 try clear hx407_1
                 try clear hx407_2
                 try clear hx407_3
                 try clear hx407_4
                 try clear hx407_5
                 try clear hx407_6
                 try clear hx407_7
                 try clear hx407_8
                 try clear hx408_0
                 try clear hx408_1
                 try clear hx408_2
                 try clear hx408_3
                 try clear hx408_4
                 try clear hx408_5
                 try clear hx408_6
                 try clear hx408_7
                 try clear hx408_8
                 try clear hx409_0
                 try clear hx409_1
                 try clear hx409_2
                 try clear hx409_3
                 try clear hx409_4
                 try clear hx409_5
                 try clear hx409_6
                 try clear hx409_7
                 try clear hx409_8
                 try clear p2
                 try clear p4
                 try clear p405
                 try clear p406
                 try clear p407
                 try clear p408
                 try clear p409
                 try clear p6
                 try clear q3
                 try clear q34
                 try clear q4
                 try clear q405
                 try clear q406
                 try clear q407
                 try clear q408
                 try clear q409
                 obtain ⟨kq, x16_37, rfl, HA, HJ37, BK404, HB⟩ := hcut
                 cases kq with
                 | zero => exact absurd HA.out (by simp [variorumref10_Cost.j6])
                 | succ kj37 =>
                  have H := HA.out
                  clear HA
                  simp only [variorumref10_Cost.j6] at H
                  have HC40 := a_ H
                  clear H
                  go_upto_if 105 with (fail)
                  go_cut [18] (fun v18 wc => ∃ (kq : Nat) (x18_39 : Int), v18 = .int .i64 x18_39 ∧ Aside0 (variorumref10_Cost.j7 kq t402 x16_37 x18_39 t399 t400 t401 t402 = some (r1, r2, r3)) ∧ Aside0 (kq ≤ kj37) ∧ Aside0 (wc.heap[gb404]? = some (.cells #[.int .i64 t399, .int .i64 t400, .int .i64 t401, .int .i64 t402] 56 (0, 0))) ∧ Aside0 (Below w.heap.size w wc))
                  case first =>
                   have H := HC40.out
                   clear HC40
                   by_cases c41 : t402 < 100
                   ·rw [if_pos c41] at H
                    have c41b0 : decide (t402 < 100) = true := decide_eq_true c41
                    clear c41
                    (first | rw [c41b0] | (simp only [i64_w, i32_w]; rw [c41b0]) | skip)
                    have H' := a_ H
                    clear H
                    go_wp2
                    go_meet
                    case rel => exact ⟨_, (1), (by first | rfl | (simp; done) | (simp [*]; done)), H', ⟨by have := HJ6.out; have := HJ17.out; have := HJ20.out; have := HJ22.out; have := HJ27.out; have := HJ29.out; have := HJ37.out; first | omega | exact Nat.le_refl _⟩, ⟨kv_ BK404.out⟩, ⟨bS1_ HB.out GE404.out⟩⟩
                   ·rw [if_neg c41] at H
                    have c41b0 : decide (t402 < 100) = false := decide_eq_false c41
                    clear c41
                    (first | rw [c41b0] | (simp only [i64_w, i32_w]; rw [c41b0]) | skip)
                    have H' := a_ H
                    clear H
                    go_wp2
                    go_meet
                    case rel => exact ⟨_, (0), (by first | rfl | (simp; done) | (simp [*]; done)), H', ⟨by have := HJ6.out; have := HJ17.out; have := HJ20.out; have := HJ22.out; have := HJ27.out; have := HJ29.out; have := HJ37.out; first | omega | exact Nat.le_refl _⟩, ⟨kv_ BK404.out⟩, ⟨bS1_ HB.out GE404.out⟩⟩
                  case rest =>
                   clear HC40
                   try clear c1
                   try clear c2
                   try clear p2
                   try clear c3
                   try clear q3
                   try clear c4
                   try clear p4
                   try clear q4
                   try clear hx4
                   try clear p6
                   try clear c11
                   try clear c12
                   try clear c12b0
                   try clear c15
                   try clear c16
                   try clear c16b0
                   try clear c17
                   try clear c17b0
                   try clear c20
                   try clear c20b0
                   try clear c20b1
                   try clear c22
                   try clear c24
                   try clear c24b0
                   try clear c25
                   try clear c25b0
                   try clear c26
                   try clear c26b0
                   try clear c26b1
                   try clear c27
                   try clear c27b0
                   try clear c29
                   try clear c31
                   try clear c31b0
                   try clear c32
                   try clear c32b0
                   try clear c33
                   try clear c33b0
                   try clear q34
                   try clear c35
                   try clear c36
                   try clear c36b0
                   try clear c37
                   try clear c37b0
                   try clear c39
                   try clear p40
                   try clear q40
                   try clear hx40
                   try clear c41
                   try clear c41b0
                   try clear Z10_0
                   try clear Z10_1
                   try clear Z10_2
                   try clear Z10_3
                   try clear Z13_0
                   try clear Z13_1
                   try clear Z13_2
                   try clear Z13_3
                   try clear Z14_0
                   try clear Z14_1
                   try clear Z14_2
                   try clear Z14_3
                   try clear Z19_0
                   try clear Z19_1
                   try clear Z19_2
                   try clear Z19_3
                   try clear Y10_0
                   try clear Y10_1
                   try clear Y10_2
                   try clear Y10_3
                   try clear Y13_0
                   try clear Y13_1
                   try clear Y13_2
                   try clear Y13_3
                   try clear Y14_0
                   try clear Y14_1
                   try clear Y14_2
                   try clear Y14_3
                   try clear Y19_0
                   try clear Y19_1
                   try clear Y19_2
                   try clear Y19_3
                   try clear hx405_0
                   try clear hx405_1
                   try clear hx405_2
                   try clear hx405_3
                   try clear hx405_4
                   try clear hx405_5
                   try clear hx405_6
                   try clear hx405_7
                   try clear hx405_8
                   try clear hx406_0
                   try clear hx406_1
                   try clear hx406_2
                   try clear hx406_3
                   try clear hx406_4
                   try clear hx406_5
                   try clear hx406_6
                   try clear hx406_7
                   try clear hx406_8
                   try clear hx407_0
                   try clear hx407_1
                   try clear hx407_2
                   try clear hx407_3
                   try clear hx407_4
                   try clear hx407_5
                   try clear hx407_6
                   try clear hx407_7
                   try clear hx407_8
                   try clear hx408_0
                   try clear hx408_1
                   try clear hx408_2
                   try clear hx408_3
                   try clear hx408_4
                   try clear hx408_5
                   try clear hx408_6
                   try clear hx408_7
                   try clear hx408_8
                   try clear hx409_0
                   try clear hx409_1
                   try clear hx409_2
                   try clear hx409_3
                   try clear hx409_4
                   try clear hx409_5
                   try clear hx409_6
                   try clear hx409_7
                   try clear hx409_8
                   try clear p2
                   try clear p4
                   try clear p405
                   try clear p406
                   try clear p407
                   try clear p408
                   try clear p409
                   try clear p6
                   try clear q3
                   try clear q34
                   try clear q4
                   try clear q405
                   try clear q406
                   try clear q407
                   try clear q408
                   try clear q409
                   obtain ⟨kq, x18_39, rfl, HA, HJ39, BK404, HB⟩ := hcut
                   cases kq with
                   | zero => exact absurd HA.out (by simp [variorumref10_Cost.j7])
                   | succ kj39 =>
                    have H := HA.out
                    clear HA
                    simp only [variorumref10_Cost.j7] at H
                    by_cases c42 : t399 = (-1)
                    ·rw [if_pos c42] at H
                     have c42b0 : (t399 == (-1)) = true := beq_iff_eq.mpr c42
                     have c42b1 : (t399 != (-1)) = false := bne_eq_false_iff_eq.mpr c42
                     clear c42
                     by_cases c43 : t402 ≤ 12
                     ·rw [if_pos c43] at H
                      have c43b0 : decide (t402 ≤ 12) = true := decide_eq_true c43
                      clear c43
                      simp only [Option.some.injEq, Prod.mk.injEq] at H
                      obtain ⟨rfl, rfl, rfl⟩ := H
                      obtain ⟨⟨Z44_0, Y44_0⟩, ⟨Z44_1, Y44_1⟩, ⟨Z44_2, Y44_2⟩, Z44_3, Y44_3⟩ := cs4_ BK404.out
                      go_wp2
                      go_ret3
                      exact ⟨by first | rfl | (simp [errW_none, errW_some] <;> rfl) | (simp [*, errW_none, errW_some] <;> rfl), bS1_ HB.out GE404.out⟩
                     ·rw [if_neg c43] at H
                      have c43b0 : decide (t402 ≤ 12) = false := decide_eq_false c43
                      clear c43
                      simp only [Option.some.injEq, Prod.mk.injEq] at H
                      obtain ⟨rfl, rfl, rfl⟩ := H
                      obtain ⟨⟨Z45_0, Y45_0⟩, ⟨Z45_1, Y45_1⟩, ⟨Z45_2, Y45_2⟩, Z45_3, Y45_3⟩ := cs4_ BK404.out
                      go_wp2
                      go_ret3
                      exact ⟨by first | rfl | (simp [errW_none, errW_some] <;> rfl) | (simp [*, errW_none, errW_some] <;> rfl), bS1_ HB.out GE404.out⟩
                    ·rw [if_neg c42] at H
                     have c42b0 : (t399 == (-1)) = false := beq_eq_false_iff_ne.mpr c42
                     have c42b1 : (t399 != (-1)) = true := bne_iff_ne.mpr c42
                     by_cases c46 : t402 ≤ 12
                     ·rw [if_pos c46] at H
                      have c46b0 : decide (t402 ≤ 12) = true := decide_eq_true c46
                      clear c46
                      simp only [Option.some.injEq, Prod.mk.injEq] at H
                      obtain ⟨rfl, rfl, rfl⟩ := H
                      obtain ⟨⟨Z47_0, Y47_0⟩, ⟨Z47_1, Y47_1⟩, ⟨Z47_2, Y47_2⟩, Z47_3, Y47_3⟩ := cs4_ BK404.out
                      go_wp2
                      go_ret3
                      exact ⟨by first | rfl | (simp [errW_none, errW_some] <;> rfl) | (simp [*, errW_none, errW_some] <;> rfl), bS1_ HB.out GE404.out⟩
                     ·rw [if_neg c46] at H
                      have c46b0 : decide (t402 ≤ 12) = false := decide_eq_false c46
                      clear c46
                      simp only [Option.some.injEq, Prod.mk.injEq] at H
                      obtain ⟨rfl, rfl, rfl⟩ := H
                      obtain ⟨⟨Z48_0, Y48_0⟩, ⟨Z48_1, Y48_1⟩, ⟨Z48_2, Y48_2⟩, Z48_3, Y48_3⟩ := cs4_ BK404.out
                      go_wp2
                      go_ret3
                      exact ⟨by first | rfl | (simp [errW_none, errW_some] <;> rfl) | (simp [*, errW_none, errW_some] <;> rfl), bS1_ HB.out GE404.out⟩
     ·rw [if_neg c17] at H
      exact absurd H (by simp)
    ·rw [if_neg c16] at H
     exact absurd H (by simp)

end Go.Proofs.Ytpfnfofaajpdmaa.PWi

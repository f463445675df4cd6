/- Written by a program of this session: functions of the given program as plain Lean functions, the walks that show it, and the row of each law, for every input that its statement speaks of. -/
import Derived.Test.YtpfnfofaajpdmaaPLnx0
import Derived.Test.YtpfnfofaajpdmaaPLnx17
import Derived.Test.YtpfnfofaajpdmaaPLnx18
namespace Go.Proofs.Ytpfnfofaajpdmaa.PLn
open Go.RowKit Go.Proofs.YtpfnfofaajpdmaaW.PrintWords Go.Proofs.YtpfnfofaajpdmaaW.PrintLast Go.Proofs.YtpfnfofaajpdmaaW.PrintMore
attribute [local go_sem] max2_int min2_int max_two min_two max_three min_three max_four min_four   -- for this text's walks alone
set_option linter.unusedVariables false
set_option linter.unusedSimpArgs false

/-! ### variorumref03_Widths: function 37 -/
mutual
def variorumref03_Widths.j0 : Nat → List (S38) → Int → Int → Bool → Int → Int → Int → Int → Option (List Int × Bool)
 | 0, _, _, _, _, _, _, _, _ => none
 | k + 1, x0, x8, x9, x39, x410000, x410001, x410002, x410003 => if x39 = true then (variorumref03_Widths.j1 k x0 x8 (wrap64 (-x8)) x410000 x410001 x410002 x410003) else (variorumref03_Widths.j1 k x0 x8 x9 x410000 x410001 x410002 x410003)
def variorumref03_Widths.j1 : Nat → List (S38) → Int → Int → Int → Int → Int → Int → Option (List Int × Bool)
 | 0, _, _, _, _, _, _, _ => none
 | k + 1, x0, x8, x9, x410000, x410001, x410002, x410003 => variorumref03_Widths.l0 k x0 x8 x9 (([] : List Int)) 0 0 0 x410000 x410001 0 0
def variorumref03_Widths.l0 : Nat → List (S38) → Int → Int → List Int → Int → Int → Int → Int → Int → Int → Int → Option (List Int × Bool)
 | 0, _, _, _, _, _, _, _, _, _, _, _ => none
 | k + 1, x0, x8, x9, x10, x11, x12, x14, x415000, x415001, x415002, x415003 => if x14 < (x0.length : Int) then (if 0 ≤ x14 then (if x14 ≤ (wrap64 (x14 + 1)) then (if (wrap64 (x14 + 1)) ≤ (x0.length : Int) then ((variorumref03_Gives.f k ((x0.take ((wrap64 (x14 + 1)) : Int).toNat).drop (x14 : Int).toNat) 1 x415000 x415001 x415002 x415003).bind fun t419 => (if x8 > 0 then (if x8 = 0 then (none) else (if x10.length < 17592186044416 then (variorumref03_Widths.l0 k x0 x8 x9 (x10 ++ [wrap64 ((wrap64 (((rd_T38 x0 x14).f0) + (wrap64 (Int.tdiv (wrap64 (x9 * (wrap64 (x11 + t419)))) x8)))) - x12)]) (wrap64 (x11 + t419)) (wrap64 (Int.tdiv (wrap64 (x9 * (wrap64 (x11 + t419)))) x8)) (wrap64 (x14 + 1)) x415000 x415001 x415002 x415003) else (none))) else (if x10.length < 17592186044416 then (variorumref03_Widths.l0 k x0 x8 x9 (x10 ++ [wrap64 ((wrap64 ((rd_T38 x0 x14).f0)) - x12)]) (wrap64 (x11 + t419)) 0 (wrap64 (x14 + 1)) x415000 x415001 x415002 x415003) else (none)))) else (none)) else (none)) else (none)) else (some (x10, true))
end
def variorumref03_Widths.f (k : Nat) (l0 : List (S38)) (a1 : Int) : Option (List Int × Bool) := (variorumref03_Set.f k l0 a1).bind fun bt404 => (if bt404.2.2.2.2 = true then ((variorumref03_Gives.f k l0 (l0.length : Int) bt404.1 bt404.2.1 bt404.2.2.1 bt404.2.2.2.1).bind fun t410 => (if bt404.1 = (-1) then (variorumref03_Widths.j0 k l0 t410 bt404.2.2.1 (decide (bt404.2.2.1 < (wrap64 (-t410)))) bt404.1 bt404.2.1 bt404.2.2.1 bt404.2.2.2.1) else (variorumref03_Widths.j0 k l0 t410 bt404.2.2.1 false bt404.1 bt404.2.1 bt404.2.2.1 bt404.2.2.2.1))) else (some (([] : List Int), false)))
theorem variorumref03_Widths.mono_l : ∀ k, (∀ y0 y1 y2 y3 y4 y5 y6 y7, LeO (variorumref03_Widths.j0 k y0 y1 y2 y3 y4 y5 y6 y7) (variorumref03_Widths.j0 (k + 1) y0 y1 y2 y3 y4 y5 y6 y7)) ∧ (∀ y0 y1 y2 y3 y4 y5 y6, LeO (variorumref03_Widths.j1 k y0 y1 y2 y3 y4 y5 y6) (variorumref03_Widths.j1 (k + 1) y0 y1 y2 y3 y4 y5 y6)) ∧ (∀ y0 y1 y2 y3 y4 y5 y6 y7 y8 y9 y10, LeO (variorumref03_Widths.l0 k y0 y1 y2 y3 y4 y5 y6 y7 y8 y9 y10) (variorumref03_Widths.l0 (k + 1) y0 y1 y2 y3 y4 y5 y6 y7 y8 y9 y10))
 | 0 => ⟨fun _ _ _ _ _ _ _ _ r h => by simp [variorumref03_Widths.j0] at h, fun _ _ _ _ _ _ _ r h => by simp [variorumref03_Widths.j1] at h, fun _ _ _ _ _ _ _ _ _ _ _ r h => by simp [variorumref03_Widths.l0] at h⟩
 | k + 1 => by
  obtain ⟨ih0, ih1, ih2⟩ := variorumref03_Widths.mono_l k
  refine ⟨?_, ?_, ?_⟩
  ·intro y0 y1 y2 y3 y4 y5 y6 y7
   unfold variorumref03_Widths.j0
   repeat' first | (with_reducible first | exact ih0 _ _ _ _ _ _ _ _ | exact ih1 _ _ _ _ _ _ _ | exact ih2 _ _ _ _ _ _ _ _ _ _ _ | exact variorumref03_Gives.mono _ _ _ _ _ _ _ | exact variorumref03_Set.mono _ _ _ | exact LeO.refl _ | exact LeO.none _ | refine LeO.ite ?_ ?_ | refine LeO.bind ?_ (fun _ => ?_)) | exact LeO.none _ | refine LeO.ite ?_ ?_ | refine LeO.bind ?_ (fun _ => ?_)
  ·intro y0 y1 y2 y3 y4 y5 y6
   unfold variorumref03_Widths.j1
   repeat' first | (with_reducible first | exact ih0 _ _ _ _ _ _ _ _ | exact ih1 _ _ _ _ _ _ _ | exact ih2 _ _ _ _ _ _ _ _ _ _ _ | exact variorumref03_Gives.mono _ _ _ _ _ _ _ | exact variorumref03_Set.mono _ _ _ | exact LeO.refl _ | exact LeO.none _ | refine LeO.ite ?_ ?_ | refine LeO.bind ?_ (fun _ => ?_)) | exact LeO.none _ | refine LeO.ite ?_ ?_ | refine LeO.bind ?_ (fun _ => ?_)
  ·intro y0 y1 y2 y3 y4 y5 y6 y7 y8 y9 y10
   unfold variorumref03_Widths.l0
   repeat' first | (with_reducible first | exact ih0 _ _ _ _ _ _ _ _ | exact ih1 _ _ _ _ _ _ _ | exact ih2 _ _ _ _ _ _ _ _ _ _ _ | exact variorumref03_Gives.mono _ _ _ _ _ _ _ | exact variorumref03_Set.mono _ _ _ | exact LeO.refl _ | exact LeO.none _ | refine LeO.ite ?_ ?_ | refine LeO.bind ?_ (fun _ => ?_)) | exact LeO.none _ | refine LeO.ite ?_ ?_ | refine LeO.bind ?_ (fun _ => ?_)
theorem variorumref03_Widths.mono : ∀ a0 a1 k, LeO (variorumref03_Widths.f k a0 a1) (variorumref03_Widths.f (k + 1) a0 a1) := by
 intro a0 a1 k
 obtain ⟨ih0, ih1, ih2⟩ := variorumref03_Widths.mono_l k
 unfold variorumref03_Widths.f
 repeat' first
   | (with_reducible exact ih0 _ _ _ _ _ _ _ _)
   | (with_reducible exact ih1 _ _ _ _ _ _ _)
   | (with_reducible exact ih2 _ _ _ _ _ _ _ _ _ _ _)
   | (with_reducible exact variorumref03_Gives.mono _ _ _ _ _ _ _)
   | (with_reducible exact variorumref03_Set.mono _ _ _)
   | (with_reducible exact LeO.refl _)
   | (with_reducible exact LeO.none _)
   | (with_reducible refine LeO.ite ?_ ?_)
   | (with_reducible refine LeO.bind ?_ (fun _ => ?_))
   | exact ih0 _ _ _ _ _ _ _ _
   | exact ih1 _ _ _ _ _ _ _
   | exact ih2 _ _ _ _ _ _ _ _ _ _ _
   | exact variorumref03_Gives.mono _ _ _ _ _ _ _
   | exact variorumref03_Set.mono _ _ _
   | exact LeO.none _
   | refine LeO.ite ?_ ?_
   | refine LeO.bind ?_ (fun _ => ?_)
def variorumref03_Widths.T14 : Bool × List (List Nat × List Nat) := (true, [([], []), ([], []), ([], []), ([], []), ([3], [3]), ([1, 2, 4], [1, 2, 4]), ([], []), ([5, 6], [5, 6]), ([0, 7], [0, 7]), ([8, 7, 0, 1, 2, 3, 4, 5, 6, 7, 8], [0, 8])])
def variorumref03_Widths.B14 : List Nat := [0, 0, 0, 0, 8, 30, 0, 126, 255, 511]
theorem variorumref03_Widths.tab14 : rtab .any (opsOf Try.f37 14) = variorumref03_Widths.T14 := by kernel_rfl
theorem variorumref03_Widths.bits14 : waitsOk variorumref03_Widths.T14.2 variorumref03_Widths.B14 = true := by kernel_rfl
set_option maxHeartbeats 8000000 in
set_option maxRecDepth 100000 in
theorem variorumref03_Widths.calls (k : Nat) (A0 : Option Addr) (c0 : Nat) (l0 : List (S38)) (a1 : Int) (r1 : List Int) (r2 : Bool) (w : World) (hr0 : Kd.C k38 w A0 l0.length l0) (hc0 : l0.length ≤ c0) (h : variorumref03_Widths.f k l0 a1 = some (r1, r2)) :
  Calls Try.prog 37 #[.slice A0 l0.length c0, .int .i64 a1] w fun e w' => ∃ v0_ : Value, e = .returned (.tuple #[v0_, .bool r2]) ∧ Kd.R (Kd.int .i64) 2 w' w.heap.size (fun _ => True) v0_ r1 ∧ Below w.heap.size w w' := by
 have hu56 := Try.underlying56
 have HR0 := a_ hr0
 have HC0 := a_ hc0
 clear hr0 hc0
 have HB := a_ (Below.refl w.heap.size w)
 have H : ((variorumref03_Set.f k l0 a1).bind fun bt404 => (if bt404.2.2.2.2 = true then ((variorumref03_Gives.f k l0 (l0.length : Int) bt404.1 bt404.2.1 bt404.2.2.1 bt404.2.2.2.1).bind fun t410 => (if bt404.1 = (-1) then (variorumref03_Widths.j0 k l0 t410 bt404.2.2.1 (decide (bt404.2.2.1 < (wrap64 (-t410)))) bt404.1 bt404.2.1 bt404.2.2.1 bt404.2.2.2.1) else (variorumref03_Widths.j0 k l0 t410 bt404.2.2.1 false bt404.1 bt404.2.1 bt404.2.2.1 bt404.2.2.2.1))) else (some (([] : List Int), false)))) = some (r1, r2) := h
 clear h
 replace H := Option.bind_eq_some_iff.mp H
 obtain ⟨⟨t404, t405, t406, t407, t408⟩, A30, H⟩ := H
 replace H : (if t408 = true then ((variorumref03_Gives.f k l0 (l0.length : Int) t404 t405 t406 t407).bind fun t410 => (if t404 = (-1) then (variorumref03_Widths.j0 k l0 t410 t406 (decide (t406 < (wrap64 (-t410)))) t404 t405 t406 t407) else (variorumref03_Widths.j0 k l0 t410 t406 false t404 t405 t406 t407))) else (some (([] : List Int), false))) = some (r1, r2) := H
 have A3 := a_ A30
 clear A30
 by_cases c4 : t408 = true
 ·subst c4
  have H1 : ((variorumref03_Gives.f k l0 (l0.length : Int) t404 t405 t406 t407).bind fun t410 => (if t404 = (-1) then (variorumref03_Widths.j0 k l0 t410 t406 (decide (t406 < (wrap64 (-t410)))) t404 t405 t406 t407) else (variorumref03_Widths.j0 k l0 t410 t406 false t404 t405 t406 t407))) = some (r1, r2) := by rw [if_pos rfl] at H; exact H
  clear H
  have H := H1
  clear H1
  replace H := Option.bind_eq_some_iff.mp H
  obtain ⟨t410, A50, H⟩ := H
  replace H : (if t404 = (-1) then (variorumref03_Widths.j0 k l0 t410 t406 (decide (t406 < (wrap64 (-t410)))) t404 t405 t406 t407) else (variorumref03_Widths.j0 k l0 t410 t406 false t404 t405 t406 t407)) = some (r1, r2) := H
  have A5 := a_ A50
  clear A50
  have HC6 := a_ H
  clear H
  go_enter Try.func37, Try.ntmps37
  go_upto_region 6 with (first | ((with_reducible refine gate_callee (f := 35) rfl ?_); refine gl_ (some 19) Try.func35 (by kernel_rfl) #[.slice A0 l0.length c0, .int .i64 a1] ?_; (with_reducible refine (variorumref03_Set.calls k _ _ l0 a1 t404 t405 t406 t407 true _ ?side1 ?side2 A3.out).mono ?_); (case side1 => repeat (first | exact HR0.out | (with_reducible refine Kd.C_alloc ?_ _) | (with_reducible refine Kd.C_drewN ?_ _) | (with_reducible refine Kd.C_drew ?_))); (case side2 => exact HC0.out); rintro e w7 ⟨rfl, hb⟩; refine ⟨_, rfl, ?_⟩; have n0_ := a_ (bs_ HB.out hb); clear HB; have HB := n0_; clear n0_; (try clear hb); (try clear hb2); (try clear hk); (try clear hi)) | ((with_reducible refine gate_dst (N := 6) rfl ?_); refine box_event ?hg (N := 6) ?hd (cs := #[.int .i64 0, .int .i64 0, .int .i64 0, .int .i64 0]) (t := 56) ?hr ?_; (case hd => rfl); (case hg => rfl); (case hr => first | (go_simp; done) | (go_simp; rfl)); intro gb409 hg w8 hbox hb; have n0_ := a_ (bs_ HB.out hb); have n1_ := a_ (hbox); have n2_ := a_ ((by rw [hg]; exact (below_size (bv_ HB.out)) : w.heap.size ≤ gb409)); have n3_ := a_ ((by rw [hg]; exact (below_size (bv_ HB.out)) : w.heap.size ≤ gb409)); clear HB; have HB := n0_; have BK409 := n1_; have GW409 := n2_; have GE409 := n3_; clear n0_ n1_ n2_ n3_; clear hb hbox hg; obtain ⟨⟨Z9_0, Y9_0⟩, ⟨Z9_1, Y9_1⟩, ⟨Z9_2, Y9_2⟩, Z9_3, Y9_3⟩ := cs4_ BK409.out) | ((with_reducible refine gate_callee (f := 50) rfl ?_); refine gl_ (some 28) Try.func50 (by kernel_rfl) #[.slice A0 l0.length c0, .int .i64 (l0.length : Int), .agg #[.int .i64 t404, .int .i64 t405, .int .i64 t406, .int .i64 t407]] ?_; (with_reducible refine (variorumref03_Gives.calls k _ _ l0 (l0.length : Int) t404 t405 t406 t407 t410 _ ?side1 ?side2 A5.out).mono ?_); (case side1 => exact Kd.C_below HR0.out (bS1_ HB.out GE409.out)); (case side2 => exact HC0.out); rintro e w10 ⟨rfl, hb⟩; refine ⟨_, rfl, ?_⟩; have n0_ := a_ (blk_below (g := gb409) (o := .cells #[.int .i64 t404, .int .i64 t405, .int .i64 t406, .int .i64 t407] 56 (0, 0)) (kp0_ BK409.out) hb); have n1_ := a_ (below_step (bS1_ HB.out GE409.out) hb); clear BK409; clear HB; have BK409 := n0_; have HB := n1_; clear n0_ n1_; (try clear hb); (try clear hb2); (try clear hk); (try clear hi); obtain ⟨⟨Z11_0, Y11_0⟩, ⟨Z11_1, Y11_1⟩, ⟨Z11_2, Y11_2⟩, Z11_3, Y11_3⟩ := cs4_ BK409.out))
  (try simp only [Act.put, List.setIfInBounds_toArray, List.set_cons_zero, List.set_cons_succ])
  go_cut [39] (fun v39 wc => ∃ (kq : Nat) (x39_5 : Bool), v39 = .bool x39_5 ∧ Aside0 (variorumref03_Widths.j0 kq l0 t410 t406 x39_5 t404 t405 t406 t407 = some (r1, r2)) ∧ Aside0 (kq ≤ k) ∧ Aside0 (wc.heap[gb409]? = some (.cells #[.int .i64 t404, .int .i64 t405, .int .i64 t406, .int .i64 t407] 56 (0, 0))) ∧ Aside0 (Below w.heap.size w wc))
  case first =>
   have H := HC6.out
   clear HC6
   by_cases c12 : t404 = (-1)
   ·rw [if_pos c12] at H
    have c12b0 : (t404 == (-1)) = true := beq_iff_eq.mpr c12
    have c12b1 : (t404 != (-1)) = false := bne_eq_false_iff_eq.mpr c12
    clear c12
    (first | rw [c12b0] | (simp only [i64_w, i32_w]; rw [c12b0]) | skip)
    have H' := a_ H
    clear H
    obtain ⟨⟨Z13_0, Y13_0⟩, ⟨Z13_1, Y13_1⟩, ⟨Z13_2, Y13_2⟩, Z13_3, Y13_3⟩ := cs4_ BK409.out
    go_wp2
    go_meet
    case rel => exact ⟨_, (decide (t406 < (wrap64 (-t410)))), (by first | rfl | (simp; done) | (simp [*]; done)), H', ⟨by first | omega | exact Nat.le_refl _⟩, ⟨kv_ BK409.out⟩, ⟨bS1_ HB.out GE409.out⟩⟩
   ·rw [if_neg c12] at H
    have c12b0 : (t404 == (-1)) = false := beq_eq_false_iff_ne.mpr c12
    have c12b1 : (t404 != (-1)) = true := bne_iff_ne.mpr c12
    (first | rw [c12b0] | (simp only [i64_w, i32_w]; rw [c12b0]) | skip)
    have H' := a_ H
    clear H
    obtain ⟨⟨Z14_0, Y14_0⟩, ⟨Z14_1, Y14_1⟩, ⟨Z14_2, Y14_2⟩, Z14_3, Y14_3⟩ := cs4_ BK409.out
    go_wp2
    go_meet
    case rel => exact ⟨_, (false), (by first | rfl | (simp; done) | (simp [*]; done)), H', ⟨by first | omega | exact Nat.le_refl _⟩, ⟨kv_ BK409.out⟩, ⟨bS1_ HB.out GE409.out⟩⟩
  case rest =>
   clear HC6
   try clear c1
   try clear p2
   try clear c3
   try clear c4
   try clear c5
   try clear p6
   try clear c12
   try clear c12b0
   try clear c12b1
   try clear Z11_0
   try clear Z11_1
   try clear Z11_2
   try clear Z11_3
   try clear Z13_0
   try clear Z13_1
   try clear Z13_2
   try clear Z13_3
   try clear Z14_0
   try clear Z14_1
   try clear Z14_2
   try clear Z14_3
   try clear Z9_0
   try clear Z9_1
   try clear Z9_2
   try clear Z9_3
   try clear Y11_0
   try clear Y11_1
   try clear Y11_2
   try clear Y11_3
   try clear Y13_0
   try clear Y13_1
   try clear Y13_2
   try clear Y13_3
   try clear Y14_0
   try clear Y14_1
   try clear Y14_2
   try clear Y14_3
   try clear Y9_0
   try clear Y9_1
   try clear Y9_2
   try clear Y9_3
   obtain ⟨kq, x39_5, rfl, HA, HJ5, BK409, HB⟩ := hcut
   cases kq with
   | zero => exact absurd HA.out (by simp [variorumref03_Widths.j0])
   | succ kj5 =>
    have H := HA.out
    clear HA
    simp only [variorumref03_Widths.j0] at H
    have HC15 := a_ H
    clear H
    go_upto_if 39 with (fail)
    go_cut [9] (fun v9 wc => ∃ (kq : Nat) (x9_14 : Int), v9 = .int .i64 x9_14 ∧ Aside0 (variorumref03_Widths.j1 kq l0 t410 x9_14 t404 t405 t406 t407 = some (r1, r2)) ∧ Aside0 (kq ≤ kj5) ∧ Aside0 (wc.heap[gb409]? = some (.cells #[.int .i64 t404, .int .i64 t405, .int .i64 t406, .int .i64 t407] 56 (0, 0))) ∧ Aside0 (Below w.heap.size w wc))
    case first =>
     have H := HC15.out
     clear HC15
     by_cases c16 : x39_5 = true
     ·subst c16
      have H1 : (variorumref03_Widths.j1 kj5 l0 t410 (wrap64 (-t410)) t404 t405 t406 t407) = some (r1, r2) := by rw [if_pos rfl] at H; exact H
      clear H
      have H := H1
      clear H1
      have H' := a_ H
      clear H
      go_wp2
      go_meet
      case rel => exact ⟨_, (wrap64 (-t410)), (by first | rfl | (simp; done) | (simp [*]; done)), H', ⟨by have := HJ5.out; first | omega | exact Nat.le_refl _⟩, ⟨kv_ BK409.out⟩, ⟨bS1_ HB.out GE409.out⟩⟩
     ·replace c16 := Bool.eq_false_iff.mpr c16
      subst c16
      have H1 : (variorumref03_Widths.j1 kj5 l0 t410 t406 t404 t405 t406 t407) = some (r1, r2) := by rw [if_neg (show ¬ (false = true) by decide)] at H; exact H
      clear H
      have H := H1
      clear H1
      have H' := a_ H
      clear H
      go_wp2
      go_meet
      case rel => exact ⟨_, (t406), (by first | rfl | (simp; done) | (simp [*]; done)), H', ⟨by have := HJ5.out; first | omega | exact Nat.le_refl _⟩, ⟨kv_ BK409.out⟩, ⟨bS1_ HB.out GE409.out⟩⟩
    case rest =>
     clear HC15
     try clear c1
     try clear p2
     try clear c3
     try clear c4
     try clear c5
     try clear p6
     try clear c12
     try clear c12b0
     try clear c12b1
     try clear c16
     try clear Z11_0
     try clear Z11_1
     try clear Z11_2
     try clear Z11_3
     try clear Z13_0
     try clear Z13_1
     try clear Z13_2
     try clear Z13_3
     try clear Z14_0
     try clear Z14_1
     try clear Z14_2
     try clear Z14_3
     try clear Z9_0
     try clear Z9_1
     try clear Z9_2
     try clear Z9_3
     try clear Y11_0
     try clear Y11_1
     try clear Y11_2
     try clear Y11_3
     try clear Y13_0
     try clear Y13_1
     try clear Y13_2
     try clear Y13_3
     try clear Y14_0
     try clear Y14_1
     try clear Y14_2
     try clear Y14_3
     try clear Y9_0
     try clear Y9_1
     try clear Y9_2
     try clear Y9_3
     try clear p2
     try clear p6
     obtain ⟨kq, x9_14, rfl, HA, HJ14, BK409, HB⟩ := hcut
     cases kq with
     | zero => exact absurd HA.out (by simp [variorumref03_Widths.j1])
     | succ kj14 =>
      have H := HA.out
      clear HA
      simp only [variorumref03_Widths.j1] at H
      obtain ⟨y411, hy411⟩ : ∃ y_ : List Int, y_ = (([] : List Int)) := ⟨_, rfl⟩
      replace H : (variorumref03_Widths.l0 kj14 l0 t410 x9_14 y411 0 0 0 t404 t405 0 0) = some (r1, r2) := by first | (rw [hy411]; with_reducible exact H) | (have H2_ := (Option.bind_some _ _).symm.trans H; rw [hy411]; with_reducible exact H2_) | (have H2_ := (Option.bind_some _ _).symm.trans H; with_reducible exact H2_) | with_reducible exact H | (rw [hy411]; exact H) | exact H
      have Ny411 := a_ hy411
      clear hy411
      have H' := a_ H
      clear H
      go_wp2_with (first | ((with_reducible refine gate_dst (N := 42) rfl ?_); refine Kd.R_lit (Kd.int .i64) _ 2 ?hg (N := 42) ?hd (xs := ([] : List Int)) (inner := []) (ok := fun _ => True) (okp := fun _ => True) ?hr ?hp (fun _ hk => hk) trivial (Below.refl _ _) (Nat.le_refl _) (by simp) ?_; (case hd => rfl); (case hg => rfl); (case hr => first | (go_simp; done) | (go_simp; rfl)); (case hp => exact (Reps.none _ _)); intro v412 w17 ho18 hb hg_ hnew_; clear hg_ hnew_; (first | rw [← Ny411.out] at ho18 | (simp only [Int.reduceToNat] at ho18; rw [← Ny411.out] at ho18)); have n0_ := a_ (Kd.R_lower ho18 (below_size (bS1_ HB.out GE409.out))); have n1_ := a_ (kb_ BK409.out hb); have n2_ := a_ (below_step (bS1_ HB.out GE409.out) hb); clear BK409; clear HB; have HO413 := n0_; have BK409 := n1_; have HB := n2_; clear n0_ n1_ n2_; clear hb ho18; obtain ⟨⟨Z19_0, Y19_0⟩, ⟨Z19_1, Y19_1⟩, ⟨Z19_2, Y19_2⟩, Z19_3, Y19_3⟩ := cs4_ BK409.out) | ((with_reducible refine gate_dst (N := 13) rfl ?_); refine box_event ?hg (N := 13) ?hd (cs := #[.int .i64 0, .int .i64 0, .int .i64 0, .int .i64 0]) (t := 56) ?hr ?_; (case hd => rfl); (case hg => rfl); (case hr => first | (go_simp; done) | (go_simp; rfl)); intro gb414 hg w20 hbox hb; have n0_ := a_ (Kd.R_below (rv_ HO413.out) hb); have n1_ := a_ (kb_ BK409.out hb); have n2_ := a_ (below_step (bS1_ HB.out GE409.out) hb); have n3_ := a_ (hbox); have n4_ := a_ ((by rw [hg]; exact (below_size (bS1_ HB.out GE409.out)) : w.heap.size ≤ gb414)); have n5_ := a_ ((by rw [hg]; exact (below_size (bS1_ HB.out GE409.out)) : w.heap.size ≤ gb414)); have n6_ := a_ ((by rw [hg]; exact Nat.ne_of_lt (blk_lt (kv_ BK409.out)) : gb409 ≠ gb414)); have n7_ := a_ ((by rw [hg]; exact Nat.ne_of_gt (blk_lt (kv_ BK409.out)) : gb414 ≠ gb409)); clear HO413; clear BK409; clear HB; have HO413 := n0_; have BK409 := n1_; have HB := n2_; have BK414 := n3_; have GW414 := n4_; have GE414 := n5_; have NB409_414 := n6_; have NB414_409 := n7_; clear n0_ n1_ n2_ n3_ n4_ n5_ n6_ n7_; clear hb hbox hg; have hnb21 := NB414_409.out; have hnc21 := NB409_414.out; obtain ⟨⟨Z22_0, Y22_0⟩, ⟨Z22_1, Y22_1⟩, ⟨Z22_2, Y22_2⟩, Z22_3, Y22_3⟩ := cs4_ BK414.out))
      go_loopg [10, 11, 12, 14] kj14 (fun kq v10 v11 v12 v14 w' => ∃ (x10_3 : List Int) (x11_3 : Int) (x12_3 : Int) (x14_3 : Int), v11 = .int .i64 x11_3 ∧ v12 = .int .i64 x12_3 ∧ v14 = .int .i64 x14_3 ∧ Aside0 (variorumref03_Widths.l0 kq l0 t410 x9_14 x10_3 x11_3 x12_3 x14_3 t404 t405 0 0 = some (r1, r2)) ∧ Aside0 (kq ≤ kj14) ∧ Aside0 (Kd.R (Kd.int .i64) 2 w' w.heap.size (fun _ => True) v10 x10_3) ∧ Aside0 (w'.heap[gb409]? = some (.cells #[.int .i64 t404, .int .i64 t405, .int .i64 t406, .int .i64 t407] 56 (0, 0))) ∧ Aside0 (w'.heap[gb414]? = some (.cells #[.int .i64 t404, .int .i64 t405, .int .i64 0, .int .i64 0] 56 (0, 0))) ∧ Aside0 (Below w.heap.size w w'))
      case atStart => exact ⟨(y411), (0), (0), (0), (by first | rfl | (simp; done) | (simp [*]; done)), (by first | rfl | (simp; done) | (simp [*]; done)), (by first | rfl | (simp; done) | (simp [*]; done)), H', ⟨Nat.le_refl _⟩, ⟨by (with_reducible repeat (first | apply Kd.R_alloc | apply Kd.R_drewN | apply Kd.R_drew)); exact Kd.R_mono (Kd.R_far (p := ⟨gb414, 3, none⟩) (Kd.R_far (p := ⟨gb414, 2, none⟩) (Kd.R_far (p := ⟨gb414, 1, none⟩) (Kd.R_far (p := ⟨gb414, 0, none⟩) (Kd.R_types HO413.out BK414.out (by decide)) (fun _ hk => hk.2) (.int .i64 t404)) (fun _ hk => hk.2) (.int .i64 t405)) (fun _ hk => hk.2) (.int .i64 0)) (fun _ hk => hk.2) (.int .i64 0)) (fun _ hk => trivial)⟩, ⟨kf1_ BK409.out NB409_414.out⟩, ⟨kp0_ BK414.out⟩, ⟨bS2_ HB.out GE409.out GE414.out⟩⟩
      case round =>
       clear H'
       try clear c1
       try clear c2
       try clear p2
       try clear c3
       try clear c4
       try clear c5
       try clear p6
       try clear c12
       try clear c12b0
       try clear c12b1
       try clear c16
       try clear c21
       try clear Z11_0
       try clear Z11_1
       try clear Z11_2
       try clear Z11_3
       try clear Z13_0
       try clear Z13_1
       try clear Z13_2
       try clear Z13_3
       try clear Z14_0
       try clear Z14_1
       try clear Z14_2
       try clear Z14_3
       try clear Z19_0
       try clear Z19_1
       try clear Z19_2
       try clear Z19_3
       try clear Z22_0
       try clear Z22_1
       try clear Z22_2
       try clear Z22_3
       try clear Z9_0
       try clear Z9_1
       try clear Z9_2
       try clear Z9_3
       try clear Y11_0
       try clear Y11_1
       try clear Y11_2
       try clear Y11_3
       try clear Y13_0
       try clear Y13_1
       try clear Y13_2
       try clear Y13_3
       try clear Y14_0
       try clear Y14_1
       try clear Y14_2
       try clear Y14_3
       try clear Y19_0
       try clear Y19_1
       try clear Y19_2
       try clear Y19_3
       try clear Y22_0
       try clear Y22_1
       try clear Y22_2
       try clear Y22_3
       try clear Y9_0
       try clear Y9_1
       try clear Y9_2
       try clear Y9_3
       try clear p2
       try clear p6
       obtain ⟨x10_3, x11_3, x12_3, x14_3, rfl, rfl, rfl, HA, HK3, HO_10, BK409, BK414, HB⟩ := hrel
       cases gk with
       | zero => exact absurd HA.out (by simp [variorumref03_Widths.l0])
       | succ k3 =>
        have H := HA.out
        clear HA
        simp only [variorumref03_Widths.l0] at H
        by_cases c23 : x14_3 < (l0.length : Int)
        ·rw [if_pos c23] at H
         have c23b0 : decide (x14_3 < (l0.length : Int)) = true := decide_eq_true c23
         clear c23
         by_cases c24 : 0 ≤ x14_3
         ·rw [if_pos c24] at H
          have c24b0 := eq_true c24
          have c24b1 : decide (0 ≤ x14_3) = true := decide_eq_true c24
          clear c24
          by_cases c25 : x14_3 ≤ (wrap64 (x14_3 + 1))
          ·rw [if_pos c25] at H
           have c25b0 := eq_true c25
           have c25b1 : decide (x14_3 ≤ (wrap64 (x14_3 + 1))) = true := decide_eq_true c25
           by_cases c26 : (wrap64 (x14_3 + 1)) ≤ (l0.length : Int)
           ·rw [if_pos c26] at H
            have c26b0 := eq_true c26
            have c26b1 : decide ((wrap64 (x14_3 + 1)) ≤ (l0.length : Int)) = true := decide_eq_true c26
            obtain ⟨y415, hy415⟩ : ∃ y_ : List (S38), y_ = ((l0.take ((wrap64 (x14_3 + 1)) : Int).toNat).drop (x14_3 : Int).toNat) := ⟨_, rfl⟩
            replace H : ((variorumref03_Gives.f k3 y415 1 t404 t405 0 0).bind fun t419 => (if t410 > 0 then (if t410 = 0 then (none) else (if x10_3.length < 17592186044416 then (variorumref03_Widths.l0 k3 l0 t410 x9_14 (x10_3 ++ [wrap64 ((wrap64 (((rd_T38 l0 x14_3).f0) + (wrap64 (Int.tdiv (wrap64 (x9_14 * (wrap64 (x11_3 + t419)))) t410)))) - x12_3)]) (wrap64 (x11_3 + t419)) (wrap64 (Int.tdiv (wrap64 (x9_14 * (wrap64 (x11_3 + t419)))) t410)) (wrap64 (x14_3 + 1)) t404 t405 0 0) else (none))) else (if x10_3.length < 17592186044416 then (variorumref03_Widths.l0 k3 l0 t410 x9_14 (x10_3 ++ [wrap64 ((wrap64 ((rd_T38 l0 x14_3).f0)) - x12_3)]) (wrap64 (x11_3 + t419)) 0 (wrap64 (x14_3 + 1)) t404 t405 0 0) else (none)))) = some (r1, r2) := by first | (rw [hy415]; with_reducible exact H) | (have H2_ := (Option.bind_some _ _).symm.trans H; rw [hy415]; with_reducible exact H2_) | (have H2_ := (Option.bind_some _ _).symm.trans H; with_reducible exact H2_) | with_reducible exact H | (rw [hy415]; exact H) | exact H
            have Ny415 := a_ hy415
            clear hy415
            replace H := Option.bind_eq_some_iff.mp H
            obtain ⟨t419, A270, H⟩ := H
            replace H : (if t410 > 0 then (if t410 = 0 then (none) else (if x10_3.length < 17592186044416 then (variorumref03_Widths.l0 k3 l0 t410 x9_14 (x10_3 ++ [wrap64 ((wrap64 (((rd_T38 l0 x14_3).f0) + (wrap64 (Int.tdiv (wrap64 (x9_14 * (wrap64 (x11_3 + t419)))) t410)))) - x12_3)]) (wrap64 (x11_3 + t419)) (wrap64 (Int.tdiv (wrap64 (x9_14 * (wrap64 (x11_3 + t419)))) t410)) (wrap64 (x14_3 + 1)) t404 t405 0 0) else (none))) else (if x10_3.length < 17592186044416 then (variorumref03_Widths.l0 k3 l0 t410 x9_14 (x10_3 ++ [wrap64 ((wrap64 ((rd_T38 l0 x14_3).f0)) - x12_3)]) (wrap64 (x11_3 + t419)) 0 (wrap64 (x14_3 + 1)) t404 t405 0 0) else (none))) = some (r1, r2) := H
            have A27 := a_ A270
            clear A270
            by_cases c28 : t410 > 0
            ·rw [if_pos c28] at H
             have c28b0 : decide (0 < t410) = true := decide_eq_true c28
             clear c28
             by_cases c29 : t410 = 0
             ·rw [if_pos c29] at H
              exact absurd H (by simp)
             ·rw [if_neg c29] at H
              have c29b0 : (t410 == 0) = false := beq_eq_false_iff_ne.mpr c29
              have c29b1 : (t410 != 0) = true := bne_iff_ne.mpr c29
              by_cases c30 : x10_3.length < 17592186044416
              ·rw [if_pos c30] at H
               have LMc30 := a_ c30
               clear c30
               obtain ⟨y421, hy421⟩ : ∃ y_ : List Int, y_ = (x10_3 ++ [wrap64 ((wrap64 (((rd_T38 l0 x14_3).f0) + (wrap64 (Int.tdiv (wrap64 (x9_14 * (wrap64 (x11_3 + t419)))) t410)))) - x12_3)]) := ⟨_, rfl⟩
               replace H : (variorumref03_Widths.l0 k3 l0 t410 x9_14 y421 (wrap64 (x11_3 + t419)) (wrap64 (Int.tdiv (wrap64 (x9_14 * (wrap64 (x11_3 + t419)))) t410)) (wrap64 (x14_3 + 1)) t404 t405 0 0) = some (r1, r2) := by first | (rw [hy421]; with_reducible exact H) | (have H2_ := (Option.bind_some _ _).symm.trans H; rw [hy421]; with_reducible exact H2_) | (have H2_ := (Option.bind_some _ _).symm.trans H; with_reducible exact H2_) | with_reducible exact H | (rw [hy421]; exact H) | exact H
               have Ny421 := a_ hy421
               clear hy421
               have H' := a_ H
               clear H
               try go_wp2
               have n0_ := a_ (Kd.R_drew HO_10.out)
               have n1_ := a_ (blk_drew BK409.out)
               have n2_ := a_ (blk_drew BK414.out)
               have n3_ := a_ (below_drew1 HB.out)
               clear HO_10
               clear BK409
               clear BK414
               clear HB
               have HO_10 := n0_
               have BK409 := n1_
               have BK414 := n2_
               have HB := n3_
               clear n0_ n1_ n2_ n3_
               have q32 : ((wrap64 (x14_3 + 1)) : Int) ≤ ((l0.length : Int) : Int) := od_
               obtain ⟨i032, hi032, _, hsz32, _⟩ := info_parts info38
               have hroom32 : l0.length ≤ c0 := HC0.out
               have hC32 : Kd.C k38 _ A0 l0.length l0 := HR0.out
               have ql32 : (x14_3 : Int) ≤ ((wrap64 (x14_3 + 1)) : Int) := od_
               have q032 : (0 : Int) ≤ (x14_3 : Int) := od_
               have hcut32 := cut_mid (P := Try.prog) 62 38 .i64 .i64 Try.underlying62 hi032 4 hsz32 A0 l0.length c0 x14_3 (wrap64 (x14_3 + 1)) q032 ql32 q32 hroom32
               have hr32 := Kd.C_mid (lo := (x14_3 : Int).toNat) (hi := ((wrap64 (x14_3 + 1)) : Int).toNat) (c := c0) hC32 (by omega) (by omega) hroom32
               obtain ⟨A32, hA32⟩ : ∃ A1, A1 = (if c0 = (x14_3 : Int).toNat then A0 else (A0 : Option Addr).map (·.add ((x14_3 : Int).toNat * 4))) := ⟨_, rfl⟩
               obtain ⟨c32, hc32⟩ : ∃ c1, c1 = c0 - (x14_3 : Int).toNat := ⟨_, rfl⟩
               have hy32 : y415.length = ((wrap64 (x14_3 + 1)) : Int).toNat - (x14_3 : Int).toNat := (by rw [Ny415.out, List.length_drop, List.length_take] <;> omega)
               rw [show ((l0).take ((wrap64 (x14_3 + 1)) : Int).toNat).drop (x14_3 : Int).toNat = y415 from Ny415.out.symm] at hr32
               replace hr32 : Kd.C k38 _ A32 y415.length y415 := (by rw [hA32]; exact hr32)
               rw [← hy32, ← hA32, ← hc32] at hcut32
               have HR418 := a_ hr32
               have HC418 := a_ (show y415.length ≤ c32 from by rw [hy32, hc32]; exact Nat.sub_le_sub_right (Nat.le_trans (by omega) hroom32) _)
               clear hr32 hC32 hroom32 hi032 hsz32 hc32
               have KY32 := a_ hy32
               have KA32 := a_ hA32
               clear hy32 hA32
               replace q32 := eq_true q32
               refine start_ (n := 10) (S := fun w' => w'.cell? ⟨gb414, 0, none⟩ = some (.int .i64 t404) ∧ w'.cell? ⟨gb414, 1, none⟩ = some (.int .i64 t405) ∧ w'.cell? ⟨gb414, 2, none⟩ = some (.int .i64 0) ∧ w'.cell? ⟨gb414, 3, none⟩ = some (.int .i64 0)) (ds := []) #[false, false, false, false, false, false, false, false, false, false] (by kernel_rfl) rfl rfl ⟨(blk_cell BK414.out 0).trans rfl, (blk_cell BK414.out 1).trans rfl, (blk_cell BK414.out 2).trans rfl, (blk_cell BK414.out 3).trans rfl⟩ (fun hHeld => ?_); refine with_tabW variorumref03_Widths.tab14 variorumref03_Widths.bits14 (fun HT_ HW_ => ?_)
               generalize wr.drew = w31 at HO_10 BK409 BK414 HB HR418 hHeld ⊢
               refine pure_ (i := 0) (N := some 54) #[true, false, false, false, false, false, false, false, false, false] rfl rfl (any_of HT_.out (by kernel_rfl)) (fun _ _ _ h => h) (Or.inl ⟨by rfl, fun w' => by go_simp; with_reducible rfl⟩) (by simp only [Act.put, List.setIfInBounds_toArray, List.set_cons_zero, List.set_cons_succ, i64_w, i32_w]; rfl) ?_
               refine pure_ (i := 1) (N := some 55) #[true, true, false, false, false, false, false, false, false, false] rfl rfl (any_of HT_.out (by kernel_rfl)) (fun _ _ _ h => h) (Or.inl ⟨by rfl, fun w' => by go_simp; with_reducible rfl⟩) (by simp only [Act.put, List.setIfInBounds_toArray, List.set_cons_zero, List.set_cons_succ, i64_w, i32_w]; rfl) ?_
               refine pure_ (i := 2) (N := some 56) #[true, true, true, false, false, false, false, false, false, false] rfl rfl (any_of HT_.out (by kernel_rfl)) (fun _ _ _ h => h) (Or.inl ⟨by rfl, fun w' => by go_simp; with_reducible rfl⟩) (by simp only [Act.put, List.setIfInBounds_toArray, List.set_cons_zero, List.set_cons_succ, i64_w, i32_w]; rfl) ?_
               refine pure_ (i := 3) (N := some 57) #[true, true, true, true, false, false, false, false, false, false] rfl rfl (any_of HT_.out (by kernel_rfl)) (fun _ _ _ h => h) (Or.inl ⟨by rfl, fun w' => by go_simp; with_reducible rfl⟩) (by simp only [Act.put, List.setIfInBounds_toArray, List.set_cons_zero, List.set_cons_succ, i64_w, i32_w]; rfl) ?_
               refine pure_ (i := 4) (N := some 58) #[true, true, true, true, true, false, false, false, false, false] rfl rfl (any_of HT_.out (by kernel_rfl)) (fun _ _ _ h => h) (Or.inl ⟨by rfl, fun w' => by go_simp; with_reducible rfl⟩) (by simp only [Act.put, List.setIfInBounds_toArray, List.set_cons_zero, List.set_cons_succ, i64_w, i32_w]; rfl) ?_
               refine pure_ (i := 5) (N := some 59) #[true, true, true, true, true, true, false, false, false, false] rfl rfl (any_of HT_.out (by kernel_rfl)) (fun _ _ _ h => h) (Or.inl ⟨by rfl, fun w' => by go_simp; with_reducible rfl⟩) (by simp only [Act.put, List.setIfInBounds_toArray, List.set_cons_zero, List.set_cons_succ, i64_w, i32_w]; rfl) ?_
               refine take_ (i := 6) (N := some 60) (v := ?_) (a' := ?_) #[true, true, true, true, true, true, true, false, false, false] rfl rfl (take_ofW HT_.out HW_.out (by kernel_rfl)) (fun _ _ _ h => h) (Or.inl ⟨by rfl, ?_⟩) hHeld ?_ ?_
               rotate_left
               ·rintro w' ⟨s0, s1, s2, s3⟩
                go_simp
                with_reducible rfl
               rotate_left
               ·simp only [Act.put, List.setIfInBounds_toArray, List.set_cons_zero, List.set_cons_succ, i64_w, i32_w]
                rfl
               refine one_ (i := 7) (N := some 61) #[true, true, true, true, true, true, true, true, false, false] rfl rfl (one_of HT_.out (by kernel_rfl)) (by decide) (fun K hK => ?_)
               refine goes_ Try.func50 (by kernel_rfl) rfl #[.slice A32 y415.length c32, .int .i64 1, .agg #[.int .i64 t404, .int .i64 t405, .int .i64 0, .int .i64 0]] (by rfl) rfl rfl (by (try simp only [List.map_toArray, List.map_cons, List.map_nil]); first | done | rfl | (simp only [List.length_drop, List.length_take]; rfl) | (simp only [*]; first | done | rfl)) ?_
               with_reducible refine (variorumref03_Gives.calls k3 _ _ y415 1 t404 t405 0 0 t419 _ ?side1 ?side2 A27.out).mono ?_
               (case side1 => exact cw_ HR418.out HB.out)
               (case side2 => exact HC418.out)
               rintro e w33 ⟨rfl, hb⟩
               refine ⟨_, rfl, ?_⟩
               have n0_ := a_ (Kd.R_below (rv_ HO_10.out) hb)
               have n1_ := a_ (kb_ BK409.out hb)
               have n2_ := a_ (kb_ BK414.out hb)
               have n3_ := a_ (below_step (bS2_ HB.out GE409.out GE414.out) hb)
               clear HO_10
               clear BK409
               clear BK414
               clear HB
               have HO_10 := n0_
               have BK409 := n1_
               have BK414 := n2_
               have HB := n3_
               clear n0_ n1_ n2_ n3_
               (try clear hb)
               (try clear hb2)
               (try clear hk)
               (try clear hi)
               refine hK.out _ _ ⟨(blk_cell BK414.out 0).trans rfl, (blk_cell BK414.out 1).trans rfl, (blk_cell BK414.out 2).trans rfl, (blk_cell BK414.out 3).trans rfl⟩ (fun hHeld => ?_)
               clear hK K
               refine norm_ (a' := ?_) ?_ ?_
               rotate_left
               ·show Act.put _ (some 61) _ = _
                simp only [Act.put, List.setIfInBounds_toArray, List.set_cons_zero, List.set_cons_succ, i64_w, i32_w]
                rfl
               refine pure_ (i := 8) (N := some 62) #[true, true, true, true, true, true, true, true, true, false] rfl rfl (any_of HT_.out (by kernel_rfl)) (fun _ _ _ h => h) (Or.inl ⟨by rfl, fun w' => by go_simp; with_reducible rfl⟩) (by simp only [Act.put, List.setIfInBounds_toArray, List.set_cons_zero, List.set_cons_succ, i64_w, i32_w]; rfl) ?_
               refine pure_ (i := 9) (N := some 11) #[true, true, true, true, true, true, true, true, true, true] rfl rfl (any_of HT_.out (by kernel_rfl)) (fun _ _ _ h => h) (Or.inl ⟨by rfl, fun w' => by go_simp; with_reducible rfl⟩) (by simp only [Act.put, List.setIfInBounds_toArray, List.set_cons_zero, List.set_cons_succ, i64_w, i32_w]; rfl) ?_
               refine done_ (done_of HT_.out (by kernel_rfl)) ?_
               have p420 : 0 ≤ (x14_3 : Int) := od_
               have q420 : x14_3 < (l0.length : Int) := od_
               obtain ⟨ad420, e420, hx420_0, hx420_1, hx420_2, hx420_3⟩ := at_T38 (Kd.C_below HR0.out HB.out) x14_3 p420 q420
               cases e420
               replace p420 := eq_true p420
               replace q420 := eq_true q420
               try go_wp2_with (first | ((with_reducible refine gate_builtin (b := .append) (xs := #[.tmp 70, .tmp 80]) rfl ?_); at_builtin; refine Kd.R_append (Kd.int .i64) (w0 := w) w.heap.size rfl (.tmp 70) (.tmp 80) 67 2 (.int .i64 0) 8 rfl Try.underlying67 info2 rfl (by decide) (by omega) u10 x10_3 (wrap64 ((wrap64 (((rd_T38 l0 x14_3).f0) + (wrap64 (Int.tdiv (wrap64 (x9_14 * (wrap64 (x11_3 + t419)))) t410)))) - x12_3)) [.int .i64 (wrap64 ((wrap64 (((rd_T38 l0 x14_3).f0) + (wrap64 (Int.tdiv (wrap64 (x9_14 * (wrap64 (x11_3 + t419)))) t410)))) - x12_3))] (fun _ => True) (fun _ => False) rfl rfl ?aP (fun _ hk => hk.elim) ?aF ?aO ?aB ?aS ?aL ?_; (case aP => exact rfl); (case aB => exact (bS2_ HB.out GE409.out GE414.out)); (case aF => exact (fun _ _ => trivial)); (case aO => exact (rv_ HO_10.out)); (case aS => exact (below_size (bS2_ HB.out GE409.out GE414.out))); (case aL => have := LMc30.out; omega); intro v422 w34 ho hb hg hat; rw [← Ny421.out] at ho; have n0_ := a_ (blk_grown (g := gb409) (o := .cells #[.int .i64 t404, .int .i64 t405, .int .i64 t406, .int .i64 t407] 56 (0, 0)) (kv_ BK409.out) hg (Kd.R_ne HO_10.out BK409.out (by decide))); have n1_ := a_ (blk_grown (g := gb414) (o := .cells #[.int .i64 t404, .int .i64 t405, .int .i64 0, .int .i64 0] 56 (0, 0)) (kv_ BK414.out) hg (Kd.R_ne HO_10.out BK414.out (by decide))); have n2_ := a_ (hb); have n3_ := a_ (ho); clear BK409; clear BK414; clear HB; clear HO_10; have BK409 := n0_; have BK414 := n1_; have HB := n2_; have HO423 := n3_; clear n0_ n1_ n2_ n3_; clear ho hb hg hat))
               go_roundg k3
               case measure => have := HJ5.out; have := HJ14.out; have := HK3.out; omega
               case rel => exact ⟨(y421), (wrap64 (x11_3 + t419)), (wrap64 (Int.tdiv (wrap64 (x9_14 * (wrap64 (x11_3 + t419)))) t410)), (wrap64 (x14_3 + 1)), (by first | rfl | (simp; done) | (simp [*]; done)), (by first | rfl | (simp; done) | (simp [*]; done)), (by first | rfl | (simp; done) | (simp [*]; done)), H', ⟨by have := HJ5.out; have := HJ14.out; have := HK3.out; omega⟩, ⟨by (with_reducible repeat (first | apply Kd.R_alloc | apply Kd.R_drewN | apply Kd.R_drew)); exact HO423.out⟩, ⟨kv_ BK409.out⟩, ⟨kv_ BK414.out⟩, ⟨bS2_ HB.out GE409.out GE414.out⟩⟩
              ·rw [if_neg c30] at H
               exact absurd H (by simp)
            ·rw [if_neg c28] at H
             have c28b0 : decide (0 < t410) = false := decide_eq_false c28
             clear c28
             by_cases c35 : x10_3.length < 17592186044416
             ·rw [if_pos c35] at H
              have LMc35 := a_ c35
              clear c35
              obtain ⟨y425, hy425⟩ : ∃ y_ : List Int, y_ = (x10_3 ++ [wrap64 ((wrap64 ((rd_T38 l0 x14_3).f0)) - x12_3)]) := ⟨_, rfl⟩
              replace H : (variorumref03_Widths.l0 k3 l0 t410 x9_14 y425 (wrap64 (x11_3 + t419)) 0 (wrap64 (x14_3 + 1)) t404 t405 0 0) = some (r1, r2) := by first | (rw [hy425]; with_reducible exact H) | (have H2_ := (Option.bind_some _ _).symm.trans H; rw [hy425]; with_reducible exact H2_) | (have H2_ := (Option.bind_some _ _).symm.trans H; with_reducible exact H2_) | with_reducible exact H | (rw [hy425]; exact H) | exact H
              have Ny425 := a_ hy425
              clear hy425
              have H' := a_ H
              clear H
              try go_wp2
              have n0_ := a_ (Kd.R_drew HO_10.out)
              have n1_ := a_ (blk_drew BK409.out)
              have n2_ := a_ (blk_drew BK414.out)
              have n3_ := a_ (below_drew1 HB.out)
              clear HO_10
              clear BK409
              clear BK414
              clear HB
              have HO_10 := n0_
              have BK409 := n1_
              have BK414 := n2_
              have HB := n3_
              clear n0_ n1_ n2_ n3_
              have q37 : ((wrap64 (x14_3 + 1)) : Int) ≤ ((l0.length : Int) : Int) := od_
              obtain ⟨i037, hi037, _, hsz37, _⟩ := info_parts info38
              have hroom37 : l0.length ≤ c0 := HC0.out
              have hC37 : Kd.C k38 _ A0 l0.length l0 := HR0.out
              have ql37 : (x14_3 : Int) ≤ ((wrap64 (x14_3 + 1)) : Int) := od_
              have q037 : (0 : Int) ≤ (x14_3 : Int) := od_
              have hcut37 := cut_mid (P := Try.prog) 62 38 .i64 .i64 Try.underlying62 hi037 4 hsz37 A0 l0.length c0 x14_3 (wrap64 (x14_3 + 1)) q037 ql37 q37 hroom37
              have hr37 := Kd.C_mid (lo := (x14_3 : Int).toNat) (hi := ((wrap64 (x14_3 + 1)) : Int).toNat) (c := c0) hC37 (by omega) (by omega) hroom37
              obtain ⟨A37, hA37⟩ : ∃ A1, A1 = (if c0 = (x14_3 : Int).toNat then A0 else (A0 : Option Addr).map (·.add ((x14_3 : Int).toNat * 4))) := ⟨_, rfl⟩
              obtain ⟨c37, hc37⟩ : ∃ c1, c1 = c0 - (x14_3 : Int).toNat := ⟨_, rfl⟩
              have hy37 : y415.length = ((wrap64 (x14_3 + 1)) : Int).toNat - (x14_3 : Int).toNat := (by rw [Ny415.out, List.length_drop, List.length_take] <;> omega)
              rw [show ((l0).take ((wrap64 (x14_3 + 1)) : Int).toNat).drop (x14_3 : Int).toNat = y415 from Ny415.out.symm] at hr37
              replace hr37 : Kd.C k38 _ A37 y415.length y415 := (by rw [hA37]; exact hr37)
              rw [← hy37, ← hA37, ← hc37] at hcut37
              have HR418 := a_ hr37
              have HC418 := a_ (show y415.length ≤ c37 from by rw [hy37, hc37]; exact Nat.sub_le_sub_right (Nat.le_trans (by omega) hroom37) _)
              clear hr37 hC37 hroom37 hi037 hsz37 hc37
              have KY37 := a_ hy37
              have KA37 := a_ hA37
              clear hy37 hA37
              replace q37 := eq_true q37
              refine start_ (n := 10) (S := fun w' => w'.cell? ⟨gb414, 0, none⟩ = some (.int .i64 t404) ∧ w'.cell? ⟨gb414, 1, none⟩ = some (.int .i64 t405) ∧ w'.cell? ⟨gb414, 2, none⟩ = some (.int .i64 0) ∧ w'.cell? ⟨gb414, 3, none⟩ = some (.int .i64 0)) (ds := []) #[false, false, false, false, false, false, false, false, false, false] (by kernel_rfl) rfl rfl ⟨(blk_cell BK414.out 0).trans rfl, (blk_cell BK414.out 1).trans rfl, (blk_cell BK414.out 2).trans rfl, (blk_cell BK414.out 3).trans rfl⟩ (fun hHeld => ?_); refine with_tabW variorumref03_Widths.tab14 variorumref03_Widths.bits14 (fun HT_ HW_ => ?_)
              generalize wr.drew = w36 at HO_10 BK409 BK414 HB HR418 hHeld ⊢
              refine pure_ (i := 0) (N := some 54) #[true, false, false, false, false, false, false, false, false, false] rfl rfl (any_of HT_.out (by kernel_rfl)) (fun _ _ _ h => h) (Or.inl ⟨by rfl, fun w' => by go_simp; with_reducible rfl⟩) (by simp only [Act.put, List.setIfInBounds_toArray, List.set_cons_zero, List.set_cons_succ, i64_w, i32_w]; rfl) ?_
              refine pure_ (i := 1) (N := some 55) #[true, true, false, false, false, false, false, false, false, false] rfl rfl (any_of HT_.out (by kernel_rfl)) (fun _ _ _ h => h) (Or.inl ⟨by rfl, fun w' => by go_simp; with_reducible rfl⟩) (by simp only [Act.put, List.setIfInBounds_toArray, List.set_cons_zero, List.set_cons_succ, i64_w, i32_w]; rfl) ?_
              refine pure_ (i := 2) (N := some 56) #[true, true, true, false, false, false, false, false, false, false] rfl rfl (any_of HT_.out (by kernel_rfl)) (fun _ _ _ h => h) (Or.inl ⟨by rfl, fun w' => by go_simp; with_reducible rfl⟩) (by simp only [Act.put, List.setIfInBounds_toArray, List.set_cons_zero, List.set_cons_succ, i64_w, i32_w]; rfl) ?_
              refine pure_ (i := 3) (N := some 57) #[true, true, true, true, false, false, false, false, false, false] rfl rfl (any_of HT_.out (by kernel_rfl)) (fun _ _ _ h => h) (Or.inl ⟨by rfl, fun w' => by go_simp; with_reducible rfl⟩) (by simp only [Act.put, List.setIfInBounds_toArray, List.set_cons_zero, List.set_cons_succ, i64_w, i32_w]; rfl) ?_
              refine pure_ (i := 4) (N := some 58) #[true, true, true, true, true, false, false, false, false, false] rfl rfl (any_of HT_.out (by kernel_rfl)) (fun _ _ _ h => h) (Or.inl ⟨by rfl, fun w' => by go_simp; with_reducible rfl⟩) (by simp only [Act.put, List.setIfInBounds_toArray, List.set_cons_zero, List.set_cons_succ, i64_w, i32_w]; rfl) ?_
              refine pure_ (i := 5) (N := some 59) #[true, true, true, true, true, true, false, false, false, false] rfl rfl (any_of HT_.out (by kernel_rfl)) (fun _ _ _ h => h) (Or.inl ⟨by rfl, fun w' => by go_simp; with_reducible rfl⟩) (by simp only [Act.put, List.setIfInBounds_toArray, List.set_cons_zero, List.set_cons_succ, i64_w, i32_w]; rfl) ?_
              refine take_ (i := 6) (N := some 60) (v := ?_) (a' := ?_) #[true, true, true, true, true, true, true, false, false, false] rfl rfl (take_ofW HT_.out HW_.out (by kernel_rfl)) (fun _ _ _ h => h) (Or.inl ⟨by rfl, ?_⟩) hHeld ?_ ?_
              rotate_left
              ·rintro w' ⟨s0, s1, s2, s3⟩
               go_simp
               with_reducible rfl
              rotate_left
              ·simp only [Act.put, List.setIfInBounds_toArray, List.set_cons_zero, List.set_cons_succ, i64_w, i32_w]
               rfl
              refine one_ (i := 7) (N := some 61) #[true, true, true, true, true, true, true, true, false, false] rfl rfl (one_of HT_.out (by kernel_rfl)) (by decide) (fun K hK => ?_)
              refine goes_ Try.func50 (by kernel_rfl) rfl #[.slice A37 y415.length c37, .int .i64 1, .agg #[.int .i64 t404, .int .i64 t405, .int .i64 0, .int .i64 0]] (by rfl) rfl rfl (by (try simp only [List.map_toArray, List.map_cons, List.map_nil]); first | done | rfl | (simp only [List.length_drop, List.length_take]; rfl) | (simp only [*]; first | done | rfl)) ?_
              with_reducible refine (variorumref03_Gives.calls k3 _ _ y415 1 t404 t405 0 0 t419 _ ?side1 ?side2 A27.out).mono ?_
              (case side1 => exact cw_ HR418.out HB.out)
              (case side2 => exact HC418.out)
              rintro e w38 ⟨rfl, hb⟩
              refine ⟨_, rfl, ?_⟩
              have n0_ := a_ (Kd.R_below (rv_ HO_10.out) hb)
              have n1_ := a_ (kb_ BK409.out hb)
              have n2_ := a_ (kb_ BK414.out hb)
              have n3_ := a_ (below_step (bS2_ HB.out GE409.out GE414.out) hb)
              clear HO_10
              clear BK409
              clear BK414
              clear HB
              have HO_10 := n0_
              have BK409 := n1_
              have BK414 := n2_
              have HB := n3_
              clear n0_ n1_ n2_ n3_
              (try clear hb)
              (try clear hb2)
              (try clear hk)
              (try clear hi)
              refine hK.out _ _ ⟨(blk_cell BK414.out 0).trans rfl, (blk_cell BK414.out 1).trans rfl, (blk_cell BK414.out 2).trans rfl, (blk_cell BK414.out 3).trans rfl⟩ (fun hHeld => ?_)
              clear hK K
              refine norm_ (a' := ?_) ?_ ?_
              rotate_left
              ·show Act.put _ (some 61) _ = _
               simp only [Act.put, List.setIfInBounds_toArray, List.set_cons_zero, List.set_cons_succ, i64_w, i32_w]
               rfl
              refine pure_ (i := 8) (N := some 62) #[true, true, true, true, true, true, true, true, true, false] rfl rfl (any_of HT_.out (by kernel_rfl)) (fun _ _ _ h => h) (Or.inl ⟨by rfl, fun w' => by go_simp; with_reducible rfl⟩) (by simp only [Act.put, List.setIfInBounds_toArray, List.set_cons_zero, List.set_cons_succ, i64_w, i32_w]; rfl) ?_
              refine pure_ (i := 9) (N := some 11) #[true, true, true, true, true, true, true, true, true, true] rfl rfl (any_of HT_.out (by kernel_rfl)) (fun _ _ _ h => h) (Or.inl ⟨by rfl, fun w' => by go_simp; with_reducible rfl⟩) (by simp only [Act.put, List.setIfInBounds_toArray, List.set_cons_zero, List.set_cons_succ, i64_w, i32_w]; rfl) ?_
              refine done_ (done_of HT_.out (by kernel_rfl)) ?_
              have p424 : 0 ≤ (x14_3 : Int) := od_
              have q424 : x14_3 < (l0.length : Int) := od_
              obtain ⟨ad424, e424, hx424_0, hx424_1, hx424_2, hx424_3⟩ := at_T38 (Kd.C_below HR0.out HB.out) x14_3 p424 q424
              cases e424
              replace p424 := eq_true p424
              replace q424 := eq_true q424
              try go_wp2_with (first | ((with_reducible refine gate_builtin (b := .append) (xs := #[.tmp 70, .tmp 80]) rfl ?_); at_builtin; refine Kd.R_append (Kd.int .i64) (w0 := w) w.heap.size rfl (.tmp 70) (.tmp 80) 67 2 (.int .i64 0) 8 rfl Try.underlying67 info2 rfl (by decide) (by omega) u10 x10_3 (wrap64 ((wrap64 ((rd_T38 l0 x14_3).f0)) - x12_3)) [.int .i64 (wrap64 ((wrap64 ((rd_T38 l0 x14_3).f0)) - x12_3))] (fun _ => True) (fun _ => False) rfl rfl ?aP (fun _ hk => hk.elim) ?aF ?aO ?aB ?aS ?aL ?_; (case aP => exact rfl); (case aB => exact (bS2_ HB.out GE409.out GE414.out)); (case aF => exact (fun _ _ => trivial)); (case aO => exact (rv_ HO_10.out)); (case aS => exact (below_size (bS2_ HB.out GE409.out GE414.out))); (case aL => have := LMc35.out; omega); intro v426 w39 ho hb hg hat; rw [← Ny425.out] at ho; have n0_ := a_ (blk_grown (g := gb409) (o := .cells #[.int .i64 t404, .int .i64 t405, .int .i64 t406, .int .i64 t407] 56 (0, 0)) (kv_ BK409.out) hg (Kd.R_ne HO_10.out BK409.out (by decide))); have n1_ := a_ (blk_grown (g := gb414) (o := .cells #[.int .i64 t404, .int .i64 t405, .int .i64 0, .int .i64 0] 56 (0, 0)) (kv_ BK414.out) hg (Kd.R_ne HO_10.out BK414.out (by decide))); have n2_ := a_ (hb); have n3_ := a_ (ho); clear BK409; clear BK414; clear HB; clear HO_10; have BK409 := n0_; have BK414 := n1_; have HB := n2_; have HO427 := n3_; clear n0_ n1_ n2_ n3_; clear ho hb hg hat))
              go_roundg k3
              case measure => have := HJ5.out; have := HJ14.out; have := HK3.out; omega
              case rel => exact ⟨(y425), (wrap64 (x11_3 + t419)), (0), (wrap64 (x14_3 + 1)), (by first | rfl | (simp; done) | (simp [*]; done)), (by first | rfl | (simp; done) | (simp [*]; done)), (by first | rfl | (simp; done) | (simp [*]; done)), H', ⟨by have := HJ5.out; have := HJ14.out; have := HK3.out; omega⟩, ⟨by (with_reducible repeat (first | apply Kd.R_alloc | apply Kd.R_drewN | apply Kd.R_drew)); exact HO427.out⟩, ⟨kv_ BK409.out⟩, ⟨kv_ BK414.out⟩, ⟨bS2_ HB.out GE409.out GE414.out⟩⟩
             ·rw [if_neg c35] at H
              exact absurd H (by simp)
           ·rw [if_neg c26] at H
            exact absurd H (by simp)
          ·rw [if_neg c25] at H
           exact absurd H (by simp)
         ·rw [if_neg c24] at H
          exact absurd H (by simp)
        ·rw [if_neg c23] at H
         have c23b0 : decide (x14_3 < (l0.length : Int)) = false := decide_eq_false c23
         clear c23
         simp only [Option.some.injEq, Prod.mk.injEq] at H
         obtain ⟨rfl, rfl⟩ := H
         go_wp2
         go_ret2
         exact ⟨_, by first | rfl | (simp [errW_none, errW_some] <;> rfl) | (simp [*, errW_none, errW_some] <;> rfl), by (with_reducible repeat (first | apply Kd.R_alloc | apply Kd.R_drewN | apply Kd.R_drew)); exact HO_10.out, bS2_ HB.out GE409.out GE414.out⟩
 ·replace c4 := Bool.eq_false_iff.mpr c4
  subst c4
  have H1 : (some (([] : List Int), false)) = some (r1, r2) := by rw [if_neg (show ¬ (false = true) by decide)] at H; exact H
  clear H
  have H := H1
  clear H1
  simp only [Option.some.injEq, Prod.mk.injEq] at H
  obtain ⟨rfl, rfl⟩ := H
  go_enter Try.func37, Try.ntmps37
  go_wp2_with (first | ((with_reducible refine gate_callee (f := 35) rfl ?_); refine gl_ (some 19) Try.func35 (by kernel_rfl) #[.slice A0 l0.length c0, .int .i64 a1] ?_; (with_reducible refine (variorumref03_Set.calls k _ _ l0 a1 t404 t405 t406 t407 false _ ?side1 ?side2 A3.out).mono ?_); (case side1 => repeat (first | exact HR0.out | (with_reducible refine Kd.C_alloc ?_ _) | (with_reducible refine Kd.C_drewN ?_ _) | (with_reducible refine Kd.C_drew ?_))); (case side2 => exact HC0.out); rintro e w40 ⟨rfl, hb⟩; refine ⟨_, rfl, ?_⟩; have n0_ := a_ (bs_ HB.out hb); clear HB; have HB := n0_; clear n0_; (try clear hb); (try clear hb2); (try clear hk); (try clear hi)) | ((with_reducible refine gate_dst (N := 6) rfl ?_); refine box_event ?hg (N := 6) ?hd (cs := #[.int .i64 0, .int .i64 0, .int .i64 0, .int .i64 0]) (t := 56) ?hr ?_; (case hd => rfl); (case hg => rfl); (case hr => first | (go_simp; done) | (go_simp; rfl)); intro gb409 hg w41 hbox hb; have n0_ := a_ (bs_ HB.out hb); have n1_ := a_ (hbox); have n2_ := a_ ((by rw [hg]; exact (below_size (bv_ HB.out)) : w.heap.size ≤ gb409)); have n3_ := a_ ((by rw [hg]; exact (below_size (bv_ HB.out)) : w.heap.size ≤ gb409)); clear HB; have HB := n0_; have BK409 := n1_; have GW409 := n2_; have GE409 := n3_; clear n0_ n1_ n2_ n3_; clear hb hbox hg; obtain ⟨⟨Z42_0, Y42_0⟩, ⟨Z42_1, Y42_1⟩, ⟨Z42_2, Y42_2⟩, Z42_3, Y42_3⟩ := cs4_ BK409.out))
  go_ret2
  exact ⟨_, by first | rfl | (simp [errW_none, errW_some] <;> rfl) | (simp [*, errW_none, errW_some] <;> rfl), by first | exact Kd.R_nil _ _ _ _ _ | exact Kd.N_nil _ _ _ _ _ | exact Kd.V_nil _ _ _ _ _ | exact Kd.Q_nil _ _ _ _ _ | exact Kd.S_nil _ _ _ _ _, bS1_ HB.out GE409.out⟩

end Go.Proofs.Ytpfnfofaajpdmaa.PLn

/- Written by a program of this session: functions of the given program as plain Lean functions, the walks that show it, and the row of each law, for every input that its statement speaks of. -/
import Derived.Test.YtpfnfofaajpdmaaPWix0
import Derived.Test.YtpfnfofaajpdmaaPWix15
import Derived.Test.YtpfnfofaajpdmaaPWix17
namespace Go.Proofs.Ytpfnfofaajpdmaa.PWi
open Go.RowKit Go.Proofs.YtpfnfofaajpdmaaW.PrintWords Go.Proofs.YtpfnfofaajpdmaaW.PrintLast Go.Proofs.YtpfnfofaajpdmaaW.PrintMore
attribute [local go_sem] max2_int min2_int max_two min_two max_three min_three max_four min_four   -- for this text's walks alone
set_option linter.unusedVariables false
set_option linter.unusedSimpArgs false

/-! ### variorumref10_Line: function 20 -/
mutual
def variorumref10_Line.j0 : Nat → List (S40) → Int → Int → Int → Bool → Int → Int → Int → Int → Option (Int × Int × Int × Int × Bool)
 | 0, _, _, _, _, _, _, _, _, _ => none
 | k + 1, x0, x1, x2, x3, x42, x384000, x384001, x384002, x384003 => if x42 = true then (some (x384000, x384001, x384002, x384003, false)) else (variorumref10_Line.l0 k x0 x1 x2 x3 (wrap64 (x1 + 1)) x384000 x384001 x384002 x384003)
def variorumref10_Line.l0 : Nat → List (S40) → Int → Int → Int → Int → Int → Int → Int → Int → Option (Int × Int × Int × Int × Bool)
 | 0, _, _, _, _, _, _, _, _, _ => none
 | k + 1, x0, x1, x2, x3, x11, x384000, x384001, x384002, x384003 => if x11 < x2 then (if 0 ≤ x11 then (if x11 < (x0.length : Int) then ((variorumref10_Forced.f ((rd_T40 x0 x11).f0) ((rd_T40 x0 x11).f1.f0) ((rd_T40 x0 x11).f1.f1) ((rd_T40 x0 x11).f1.f2) ((rd_T40 x0 x11).f1.f3) ((rd_T40 x0 x11).f2) ((rd_T40 x0 x11).f3) ((rd_T40 x0 x11).f4) ((rd_T40 x0 x11).f5)).bind fun t390 => (if t390 = true then (some (x384000, x384001, x384002, x384003, false)) else (variorumref10_Line.l0 k x0 x1 x2 x3 (wrap64 (x11 + 1)) x384000 x384001 x384002 x384003))) else (none)) else (none)) else ((variorumref10_Glues.f k x0 x1 x2).bind fun t391 => ((variorumref03_Set.f k t391 x3).bind fun bt394 => (some (bt394.1, bt394.2.1, bt394.2.2.1, bt394.2.2.2.1, bt394.2.2.2.2))))
end
def variorumref10_Line.f (k : Nat) (l0 : List (S40)) (a1 : Int) (a2 : Int) (a3 : Int) : Option (Int × Int × Int × Int × Bool) := if a1 < (-1) then (variorumref10_Line.j0 k l0 a1 a2 a3 true 0 0 0 0) else (if a1 ≥ 0 then ((variorumref10_Legal.f k l0 a1).bind fun t384 => (if t384 = true then ((variorumref10_Legal.f k l0 a2).bind fun t385 => (if t385 = true then (if a1 ≥ a2 then (variorumref10_Line.j0 k l0 a1 a2 a3 true 0 0 0 0) else ((variorumref10_Start.f k l0 a1).bind fun t386 => (variorumref10_Line.j0 k l0 a1 a2 a3 (decide (t386 > a2)) 0 0 0 0))) else (variorumref10_Line.j0 k l0 a1 a2 a3 true 0 0 0 0))) else (variorumref10_Line.j0 k l0 a1 a2 a3 true 0 0 0 0))) else ((variorumref10_Legal.f k l0 a2).bind fun t387 => (if t387 = true then (if a1 ≥ a2 then (variorumref10_Line.j0 k l0 a1 a2 a3 true 0 0 0 0) else ((variorumref10_Start.f k l0 a1).bind fun t388 => (variorumref10_Line.j0 k l0 a1 a2 a3 (decide (t388 > a2)) 0 0 0 0))) else (variorumref10_Line.j0 k l0 a1 a2 a3 true 0 0 0 0))))
theorem variorumref10_Line.mono_l : ∀ k, (∀ y0 y1 y2 y3 y4 y5 y6 y7 y8, LeO (variorumref10_Line.j0 k y0 y1 y2 y3 y4 y5 y6 y7 y8) (variorumref10_Line.j0 (k + 1) y0 y1 y2 y3 y4 y5 y6 y7 y8)) ∧ (∀ y0 y1 y2 y3 y4 y5 y6 y7 y8, LeO (variorumref10_Line.l0 k y0 y1 y2 y3 y4 y5 y6 y7 y8) (variorumref10_Line.l0 (k + 1) y0 y1 y2 y3 y4 y5 y6 y7 y8))
 | 0 => ⟨fun _ _ _ _ _ _ _ _ _ r h => by simp [variorumref10_Line.j0] at h, fun _ _ _ _ _ _ _ _ _ r h => by simp [variorumref10_Line.l0] at h⟩
 | k + 1 => by
  obtain ⟨ih0, ih1⟩ := variorumref10_Line.mono_l k
  refine ⟨?_, ?_⟩
  ·intro y0 y1 y2 y3 y4 y5 y6 y7 y8
   unfold variorumref10_Line.j0
   repeat' first | (with_reducible first | exact ih0 _ _ _ _ _ _ _ _ _ | exact ih1 _ _ _ _ _ _ _ _ _ | exact variorumref03_Set.mono _ _ _ | exact variorumref10_Glues.mono _ _ _ _ | exact variorumref10_Legal.mono _ _ _ | exact variorumref10_Start.mono _ _ _ | exact LeO.refl _ | exact LeO.none _ | refine LeO.ite ?_ ?_ | refine LeO.bind ?_ (fun _ => ?_)) | exact LeO.none _ | refine LeO.ite ?_ ?_ | refine LeO.bind ?_ (fun _ => ?_)
  ·intro y0 y1 y2 y3 y4 y5 y6 y7 y8
   unfold variorumref10_Line.l0
   repeat' first | (with_reducible first | exact ih0 _ _ _ _ _ _ _ _ _ | exact ih1 _ _ _ _ _ _ _ _ _ | exact variorumref03_Set.mono _ _ _ | exact variorumref10_Glues.mono _ _ _ _ | exact variorumref10_Legal.mono _ _ _ | exact variorumref10_Start.mono _ _ _ | exact LeO.refl _ | exact LeO.none _ | refine LeO.ite ?_ ?_ | refine LeO.bind ?_ (fun _ => ?_)) | exact LeO.none _ | refine LeO.ite ?_ ?_ | refine LeO.bind ?_ (fun _ => ?_)
theorem variorumref10_Line.mono : ∀ a0 a1 a2 a3 k, LeO (variorumref10_Line.f k a0 a1 a2 a3) (variorumref10_Line.f (k + 1) a0 a1 a2 a3) := by
 intro a0 a1 a2 a3 k
 obtain ⟨ih0, ih1⟩ := variorumref10_Line.mono_l k
 unfold variorumref10_Line.f
 repeat' first
   | (with_reducible exact ih0 _ _ _ _ _ _ _ _ _)
   | (with_reducible exact ih1 _ _ _ _ _ _ _ _ _)
   | (with_reducible exact variorumref03_Set.mono _ _ _)
   | (with_reducible exact variorumref10_Glues.mono _ _ _ _)
   | (with_reducible exact variorumref10_Legal.mono _ _ _)
   | (with_reducible exact variorumref10_Start.mono _ _ _)
   | (with_reducible exact LeO.refl _)
   | (with_reducible exact LeO.none _)
   | (with_reducible refine LeO.ite ?_ ?_)
   | (with_reducible refine LeO.bind ?_ (fun _ => ?_))
   | exact ih0 _ _ _ _ _ _ _ _ _
   | exact ih1 _ _ _ _ _ _ _ _ _
   | exact variorumref03_Set.mono _ _ _
   | exact variorumref10_Glues.mono _ _ _ _
   | exact variorumref10_Legal.mono _ _ _
   | exact variorumref10_Start.mono _ _ _
   | exact LeO.none _
   | refine LeO.ite ?_ ?_
   | refine LeO.bind ?_ (fun _ => ?_)
set_option maxHeartbeats 8000000 in
set_option maxRecDepth 100000 in
theorem variorumref10_Line.calls (k : Nat) (A0 : Option Addr) (c0 : Nat) (l0 : List (S40)) (a1 : Int) (a2 : Int) (a3 : Int) (r1 : Int) (r2 : Int) (r3 : Int) (r4 : Int) (r5 : Bool) (w : World) (hr0 : Kd.C k40 w A0 l0.length l0) (hc0 : l0.length ≤ c0) (h : variorumref10_Line.f k l0 a1 a2 a3 = some (r1, r2, r3, r4, r5)) :
  Calls Try.prog 20 #[.slice A0 l0.length c0, .int .i64 a1, .int .i64 a2, .int .i64 a3] w fun e w' => e = .returned (.tuple #[.agg #[.int .i64 r1, .int .i64 r2, .int .i64 r3, .int .i64 r4], .bool r5]) ∧ Below w.heap.size w w' := by
 have hu56 := Try.underlying56
 have hu40 := Try.underlying40
 have HR0 := a_ hr0
 have HC0 := a_ hc0
 clear hr0 hc0
 have HB := a_ (Below.refl w.heap.size w)
 have H : (if a1 < (-1) then (variorumref10_Line.j0 k l0 a1 a2 a3 true 0 0 0 0) else (if a1 ≥ 0 then ((variorumref10_Legal.f k l0 a1).bind fun t384 => (if t384 = true then ((variorumref10_Legal.f k l0 a2).bind fun t385 => (if t385 = true then (if a1 ≥ a2 then (variorumref10_Line.j0 k l0 a1 a2 a3 true 0 0 0 0) else ((variorumref10_Start.f k l0 a1).bind fun t386 => (variorumref10_Line.j0 k l0 a1 a2 a3 (decide (t386 > a2)) 0 0 0 0))) else (variorumref10_Line.j0 k l0 a1 a2 a3 true 0 0 0 0))) else (variorumref10_Line.j0 k l0 a1 a2 a3 true 0 0 0 0))) else ((variorumref10_Legal.f k l0 a2).bind fun t387 => (if t387 = true then (if a1 ≥ a2 then (variorumref10_Line.j0 k l0 a1 a2 a3 true 0 0 0 0) else ((variorumref10_Start.f k l0 a1).bind fun t388 => (variorumref10_Line.j0 k l0 a1 a2 a3 (decide (t388 > a2)) 0 0 0 0))) else (variorumref10_Line.j0 k l0 a1 a2 a3 true 0 0 0 0))))) = some (r1, r2, r3, r4, r5) := h
 clear h
 have HC5 := a_ H
 clear H
 go_enter Try.func20, Try.ntmps20
 go_upto_region 2 with (first | ((with_reducible refine gate_dst (N := 8) rfl ?_); refine box_event ?hg (N := 8) ?hd (cs := #[.int .i64 0, .int .i64 0, .int .i64 0, .int .i64 0]) (t := 56) ?hr ?_; (case hd => rfl); (case hg => rfl); (case hr => first | (go_simp; done) | (go_simp; rfl)); intro gb382 hg w6 hbox hb; have n0_ := a_ (bs_ HB.out hb); have n1_ := a_ (hbox); have n2_ := a_ ((by rw [hg]; exact (below_size (bv_ HB.out)) : w.heap.size ≤ gb382)); have n3_ := a_ ((by rw [hg]; exact (below_size (bv_ HB.out)) : w.heap.size ≤ gb382)); clear HB; have HB := n0_; have BK382 := n1_; have GW382 := n2_; have GE382 := n3_; clear n0_ n1_ n2_ n3_; clear hb hbox hg) | ((with_reducible refine gate_dst (N := 10) rfl ?_); refine box_event ?hg (N := 10) ?hd (cs := #[.int .i64 0, .int .i64 0, .int .i64 0, .int .i64 0]) (t := 56) ?hr ?_; (case hd => rfl); (case hg => rfl); (case hr => first | (go_simp; done) | (go_simp; rfl)); intro gb383 hg w7 hbox hb; have n0_ := a_ (kb_ BK382.out hb); have n1_ := a_ (below_step (bS1_ HB.out GE382.out) hb); have n2_ := a_ (hbox); have n3_ := a_ ((by rw [hg]; exact (below_size (bS1_ HB.out GE382.out)) : w.heap.size ≤ gb383)); have n4_ := a_ ((by rw [hg]; exact (below_size (bS1_ HB.out GE382.out)) : w.heap.size ≤ gb383)); have n5_ := a_ ((by rw [hg]; exact Nat.ne_of_lt (blk_lt (kv_ BK382.out)) : gb382 ≠ gb383)); have n6_ := a_ ((by rw [hg]; exact Nat.ne_of_gt (blk_lt (kv_ BK382.out)) : gb383 ≠ gb382)); clear BK382; clear HB; have BK382 := n0_; have HB := n1_; have BK383 := n2_; have GW383 := n3_; have GE383 := n4_; have NB382_383 := n5_; have NB383_382 := n6_; clear n0_ n1_ n2_ n3_ n4_ n5_ n6_; clear hb hbox hg; have hnb8 := NB383_382.out; have hnc8 := NB382_383.out; obtain ⟨⟨Z9_0, Y9_0⟩, ⟨Z9_1, Y9_1⟩, ⟨Z9_2, Y9_2⟩, Z9_3, Y9_3⟩ := cs4_ BK383.out))
 (try simp only [Act.put, List.setIfInBounds_toArray, List.set_cons_zero, List.set_cons_succ])
 go_cut [42] (fun v42 wc => ∃ (kq : Nat) (x42_4 : Bool), v42 = .bool x42_4 ∧ Aside0 (variorumref10_Line.j0 kq l0 a1 a2 a3 x42_4 0 0 0 0 = some (r1, r2, r3, r4, r5)) ∧ Aside0 (kq ≤ k) ∧ Aside0 (wc.heap[gb382]? = some (.cells #[.int .i64 0, .int .i64 0, .int .i64 0, .int .i64 0] 56 (0, 0))) ∧ Aside0 (wc.heap[gb383]? = some (.cells #[.int .i64 0, .int .i64 0, .int .i64 0, .int .i64 0] 56 (0, 0))) ∧ Aside0 (Below w.heap.size w wc))
 case first =>
  have H := HC5.out
  clear HC5
  by_cases c10 : a1 < (-1)
  ·rw [if_pos c10] at H
   have c10b0 : decide (a1 < (-1)) = true := decide_eq_true c10
   clear c10
   (first | rw [c10b0] | (simp only [i64_w, i32_w]; rw [c10b0]) | skip)
   have H' := a_ H
   clear H
   go_wp2
   go_meet
   case rel => exact ⟨_, (true), (by first | rfl | (simp; done) | (simp [*]; done)), H', ⟨by first | omega | exact Nat.le_refl _⟩, ⟨kf1_ BK382.out NB382_383.out⟩, ⟨kp0_ BK383.out⟩, ⟨bS2_ HB.out GE382.out GE383.out⟩⟩
  ·rw [if_neg c10] at H
   have c10b0 : decide (a1 < (-1)) = false := decide_eq_false c10
   clear c10
   (first | rw [c10b0] | (simp only [i64_w, i32_w]; rw [c10b0]) | skip)
   by_cases c11 : a1 ≥ 0
   ·rw [if_pos c11] at H
    have c11b0 : decide (0 ≤ a1) = true := decide_eq_true c11
    clear c11
    replace H := Option.bind_eq_some_iff.mp H
    obtain ⟨t384, A120, H⟩ := H
    replace H : (if t384 = true then ((variorumref10_Legal.f k l0 a2).bind fun t385 => (if t385 = true then (if a1 ≥ a2 then (variorumref10_Line.j0 k l0 a1 a2 a3 true 0 0 0 0) else ((variorumref10_Start.f k l0 a1).bind fun t386 => (variorumref10_Line.j0 k l0 a1 a2 a3 (decide (t386 > a2)) 0 0 0 0))) else (variorumref10_Line.j0 k l0 a1 a2 a3 true 0 0 0 0))) else (variorumref10_Line.j0 k l0 a1 a2 a3 true 0 0 0 0)) = some (r1, r2, r3, r4, r5) := H
    have A12 := a_ A120
    clear A120
    by_cases c13 : t384 = true
    ·subst c13
     have H1 : ((variorumref10_Legal.f k l0 a2).bind fun t385 => (if t385 = true then (if a1 ≥ a2 then (variorumref10_Line.j0 k l0 a1 a2 a3 true 0 0 0 0) else ((variorumref10_Start.f k l0 a1).bind fun t386 => (variorumref10_Line.j0 k l0 a1 a2 a3 (decide (t386 > a2)) 0 0 0 0))) else (variorumref10_Line.j0 k l0 a1 a2 a3 true 0 0 0 0))) = some (r1, r2, r3, r4, r5) := by rw [if_pos rfl] at H; exact H
     clear H
     have H := H1
     clear H1
     replace H := Option.bind_eq_some_iff.mp H
     obtain ⟨t385, A140, H⟩ := H
     replace H : (if t385 = true then (if a1 ≥ a2 then (variorumref10_Line.j0 k l0 a1 a2 a3 true 0 0 0 0) else ((variorumref10_Start.f k l0 a1).bind fun t386 => (variorumref10_Line.j0 k l0 a1 a2 a3 (decide (t386 > a2)) 0 0 0 0))) else (variorumref10_Line.j0 k l0 a1 a2 a3 true 0 0 0 0)) = some (r1, r2, r3, r4, r5) := H
     have A14 := a_ A140
     clear A140
     by_cases c15 : t385 = true
     ·subst c15
      have H1 : (if a1 ≥ a2 then (variorumref10_Line.j0 k l0 a1 a2 a3 true 0 0 0 0) else ((variorumref10_Start.f k l0 a1).bind fun t386 => (variorumref10_Line.j0 k l0 a1 a2 a3 (decide (t386 > a2)) 0 0 0 0))) = some (r1, r2, r3, r4, r5) := by rw [if_pos rfl] at H; exact H
      clear H
      have H := H1
      clear H1
      by_cases c16 : a1 ≥ a2
      ·rw [if_pos c16] at H
       have c16b0 : decide (a2 ≤ a1) = true := decide_eq_true c16
       clear c16
       have H' := a_ H
       clear H
       go_wp2_with (first | (go_at_call 32; (with_reducible refine (variorumref10_Legal.calls k _ _ l0 a1 true _ ?side1 ?side2 A12.out).mono ?_); (case side1 => exact Kd.C_below HR0.out (bS2_ HB.out GE382.out GE383.out)); (case side2 => exact HC0.out); rintro e w' ⟨rfl, ⟨nd, rfl⟩⟩) | (go_at_call 32; (with_reducible refine (variorumref10_Legal.calls k _ _ l0 a2 true _ ?side1 ?side2 A14.out).mono ?_); (case side1 => exact Kd.C_below HR0.out (bS2_ HB.out GE382.out GE383.out)); (case side2 => exact HC0.out); rintro e w' ⟨rfl, ⟨nd, rfl⟩⟩))
       go_meet
       case rel => exact ⟨_, (true), (by first | rfl | (simp; done) | (simp [*]; done)), H', ⟨by first | omega | exact Nat.le_refl _⟩, ⟨kf1_ BK382.out NB382_383.out⟩, ⟨kp0_ BK383.out⟩, ⟨bS2_ HB.out GE382.out GE383.out⟩⟩
      ·rw [if_neg c16] at H
       have c16b0 : decide (a2 ≤ a1) = false := decide_eq_false c16
       clear c16
       replace H := Option.bind_eq_some_iff.mp H
       obtain ⟨t386, A170, H⟩ := H
       replace H : (variorumref10_Line.j0 k l0 a1 a2 a3 (decide (t386 > a2)) 0 0 0 0) = some (r1, r2, r3, r4, r5) := H
       have A17 := a_ A170
       clear A170
       have H' := a_ H
       clear H
       go_wp2_with (first | (go_at_call 32; (with_reducible refine (variorumref10_Legal.calls k _ _ l0 a1 true _ ?side1 ?side2 A12.out).mono ?_); (case side1 => exact Kd.C_below HR0.out (bS2_ HB.out GE382.out GE383.out)); (case side2 => exact HC0.out); rintro e w' ⟨rfl, ⟨nd, rfl⟩⟩) | (go_at_call 32; (with_reducible refine (variorumref10_Legal.calls k _ _ l0 a2 true _ ?side1 ?side2 A14.out).mono ?_); (case side1 => exact Kd.C_below HR0.out (bS2_ HB.out GE382.out GE383.out)); (case side2 => exact HC0.out); rintro e w' ⟨rfl, ⟨nd, rfl⟩⟩) | (go_at_call 33; (with_reducible refine (variorumref10_Start.calls k _ _ l0 a1 t386 _ ?side1 ?side2 A17.out).mono ?_); (case side1 => exact Kd.C_below HR0.out (bS2_ HB.out GE382.out GE383.out)); (case side2 => exact HC0.out); rintro e w18 ⟨rfl, hb⟩; have n0_ := a_ (blk_below (kf1_ BK382.out NB382_383.out) hb); have n1_ := a_ (blk_below (g := gb383) (o := .cells #[.int .i64 0, .int .i64 0, .int .i64 0, .int .i64 0] 56 (0, 0)) (kp0_ BK383.out) hb); have n2_ := a_ (below_step (bS2_ HB.out GE382.out GE383.out) hb); clear BK382; clear BK383; clear HB; have BK382 := n0_; have BK383 := n1_; have HB := n2_; clear n0_ n1_ n2_; (try clear hb); (try clear hb2); (try clear hk); (try clear hi)))
       go_meet
       case rel => exact ⟨_, (decide (t386 > a2)), (by first | rfl | (simp; done) | (simp [*]; done)), H', ⟨by first | omega | exact Nat.le_refl _⟩, ⟨kv_ BK382.out⟩, ⟨kv_ BK383.out⟩, ⟨bS2_ HB.out GE382.out GE383.out⟩⟩
     ·replace c15 := Bool.eq_false_iff.mpr c15
      subst c15
      have H1 : (variorumref10_Line.j0 k l0 a1 a2 a3 true 0 0 0 0) = some (r1, r2, r3, r4, r5) := by rw [if_neg (show ¬ (false = true) by decide)] at H; exact H
      clear H
      have H := H1
      clear H1
      have H' := a_ H
      clear H
      go_wp2_with (first | (go_at_call 32; (with_reducible refine (variorumref10_Legal.calls k _ _ l0 a1 true _ ?side1 ?side2 A12.out).mono ?_); (case side1 => exact Kd.C_below HR0.out (bS2_ HB.out GE382.out GE383.out)); (case side2 => exact HC0.out); rintro e w' ⟨rfl, ⟨nd, rfl⟩⟩) | (go_at_call 32; (with_reducible refine (variorumref10_Legal.calls k _ _ l0 a2 false _ ?side1 ?side2 A14.out).mono ?_); (case side1 => exact Kd.C_below HR0.out (bS2_ HB.out GE382.out GE383.out)); (case side2 => exact HC0.out); rintro e w' ⟨rfl, ⟨nd, rfl⟩⟩))
      go_meet
      case rel => exact ⟨_, (true), (by first | rfl | (simp; done) | (simp [*]; done)), H', ⟨by first | omega | exact Nat.le_refl _⟩, ⟨kf1_ BK382.out NB382_383.out⟩, ⟨kp0_ BK383.out⟩, ⟨bS2_ HB.out GE382.out GE383.out⟩⟩
    ·replace c13 := Bool.eq_false_iff.mpr c13
     subst c13
     have H1 : (variorumref10_Line.j0 k l0 a1 a2 a3 true 0 0 0 0) = some (r1, r2, r3, r4, r5) := by rw [if_neg (show ¬ (false = true) by decide)] at H; exact H
     clear H
     have H := H1
     clear H1
     have H' := a_ H
     clear H
     go_wp2_with (first | (go_at_call 32; (with_reducible refine (variorumref10_Legal.calls k _ _ l0 a1 false _ ?side1 ?side2 A12.out).mono ?_); (case side1 => exact Kd.C_below HR0.out (bS2_ HB.out GE382.out GE383.out)); (case side2 => exact HC0.out); rintro e w' ⟨rfl, ⟨nd, rfl⟩⟩))
     go_meet
     case rel => exact ⟨_, (true), (by first | rfl | (simp; done) | (simp [*]; done)), H', ⟨by first | omega | exact Nat.le_refl _⟩, ⟨kf1_ BK382.out NB382_383.out⟩, ⟨kp0_ BK383.out⟩, ⟨bS2_ HB.out GE382.out GE383.out⟩⟩
   ·rw [if_neg c11] at H
    have c11b0 : decide (0 ≤ a1) = false := decide_eq_false c11
    clear c11
    replace H := Option.bind_eq_some_iff.mp H
    obtain ⟨t387, A190, H⟩ := H
    replace H : (if t387 = true then (if a1 ≥ a2 then (variorumref10_Line.j0 k l0 a1 a2 a3 true 0 0 0 0) else ((variorumref10_Start.f k l0 a1).bind fun t388 => (variorumref10_Line.j0 k l0 a1 a2 a3 (decide (t388 > a2)) 0 0 0 0))) else (variorumref10_Line.j0 k l0 a1 a2 a3 true 0 0 0 0)) = some (r1, r2, r3, r4, r5) := H
    have A19 := a_ A190
    clear A190
    by_cases c20 : t387 = true
    ·subst c20
     have H1 : (if a1 ≥ a2 then (variorumref10_Line.j0 k l0 a1 a2 a3 true 0 0 0 0) else ((variorumref10_Start.f k l0 a1).bind fun t388 => (variorumref10_Line.j0 k l0 a1 a2 a3 (decide (t388 > a2)) 0 0 0 0))) = some (r1, r2, r3, r4, r5) := by rw [if_pos rfl] at H; exact H
     clear H
     have H := H1
     clear H1
     by_cases c21 : a1 ≥ a2
     ·rw [if_pos c21] at H
      have c21b0 : decide (a2 ≤ a1) = true := decide_eq_true c21
      clear c21
      have H' := a_ H
      clear H
      go_wp2_with (first | (go_at_call 32; (with_reducible refine (variorumref10_Legal.calls k _ _ l0 a2 true _ ?side1 ?side2 A19.out).mono ?_); (case side1 => exact Kd.C_below HR0.out (bS2_ HB.out GE382.out GE383.out)); (case side2 => exact HC0.out); rintro e w' ⟨rfl, ⟨nd, rfl⟩⟩))
      go_meet
      case rel => exact ⟨_, (true), (by first | rfl | (simp; done) | (simp [*]; done)), H', ⟨by first | omega | exact Nat.le_refl _⟩, ⟨kf1_ BK382.out NB382_383.out⟩, ⟨kp0_ BK383.out⟩, ⟨bS2_ HB.out GE382.out GE383.out⟩⟩
     ·rw [if_neg c21] at H
      have c21b0 : decide (a2 ≤ a1) = false := decide_eq_false c21
      clear c21
      replace H := Option.bind_eq_some_iff.mp H
      obtain ⟨t388, A220, H⟩ := H
      replace H : (variorumref10_Line.j0 k l0 a1 a2 a3 (decide (t388 > a2)) 0 0 0 0) = some (r1, r2, r3, r4, r5) := H
      have A22 := a_ A220
      clear A220
      have H' := a_ H
      clear H
      go_wp2_with (first | (go_at_call 32; (with_reducible refine (variorumref10_Legal.calls k _ _ l0 a2 true _ ?side1 ?side2 A19.out).mono ?_); (case side1 => exact Kd.C_below HR0.out (bS2_ HB.out GE382.out GE383.out)); (case side2 => exact HC0.out); rintro e w' ⟨rfl, ⟨nd, rfl⟩⟩) | (go_at_call 33; (with_reducible refine (variorumref10_Start.calls k _ _ l0 a1 t388 _ ?side1 ?side2 A22.out).mono ?_); (case side1 => exact Kd.C_below HR0.out (bS2_ HB.out GE382.out GE383.out)); (case side2 => exact HC0.out); rintro e w23 ⟨rfl, hb⟩; have n0_ := a_ (blk_below (kf1_ BK382.out NB382_383.out) hb); have n1_ := a_ (blk_below (g := gb383) (o := .cells #[.int .i64 0, .int .i64 0, .int .i64 0, .int .i64 0] 56 (0, 0)) (kp0_ BK383.out) hb); have n2_ := a_ (below_step (bS2_ HB.out GE382.out GE383.out) hb); clear BK382; clear BK383; clear HB; have BK382 := n0_; have BK383 := n1_; have HB := n2_; clear n0_ n1_ n2_; (try clear hb); (try clear hb2); (try clear hk); (try clear hi)))
      go_meet
      case rel => exact ⟨_, (decide (t388 > a2)), (by first | rfl | (simp; done) | (simp [*]; done)), H', ⟨by first | omega | exact Nat.le_refl _⟩, ⟨kv_ BK382.out⟩, ⟨kv_ BK383.out⟩, ⟨bS2_ HB.out GE382.out GE383.out⟩⟩
    ·replace c20 := Bool.eq_false_iff.mpr c20
     subst c20
     have H1 : (variorumref10_Line.j0 k l0 a1 a2 a3 true 0 0 0 0) = some (r1, r2, r3, r4, r5) := by rw [if_neg (show ¬ (false = true) by decide)] at H; exact H
     clear H
     have H := H1
     clear H1
     have H' := a_ H
     clear H
     go_wp2_with (first | (go_at_call 32; (with_reducible refine (variorumref10_Legal.calls k _ _ l0 a2 false _ ?side1 ?side2 A19.out).mono ?_); (case side1 => exact Kd.C_below HR0.out (bS2_ HB.out GE382.out GE383.out)); (case side2 => exact HC0.out); rintro e w' ⟨rfl, ⟨nd, rfl⟩⟩))
     go_meet
     case rel => exact ⟨_, (true), (by first | rfl | (simp; done) | (simp [*]; done)), H', ⟨by first | omega | exact Nat.le_refl _⟩, ⟨kf1_ BK382.out NB382_383.out⟩, ⟨kp0_ BK383.out⟩, ⟨bS2_ HB.out GE382.out GE383.out⟩⟩
 case rest =>
  clear HC5
  try clear c1
  try clear c2
  try clear p2
  try clear c8
  try clear c10
  try clear c10b0
  try clear c11
  try clear c11b0
  try clear c13
  try clear c15
  try clear c16
  try clear c16b0
  try clear c20
  try clear c21
  try clear c21b0
  try clear Z9_0
  try clear Z9_1
  try clear Z9_2
  try clear Z9_3
  try clear Y9_0
  try clear Y9_1
  try clear Y9_2
  try clear Y9_3
  obtain ⟨kq, x42_4, rfl, HA, HJ4, BK382, BK383, HB⟩ := hcut
  cases kq with
  | zero => exact absurd HA.out (by simp [variorumref10_Line.j0])
  | succ kj4 =>
   have H := HA.out
   clear HA
   simp only [variorumref10_Line.j0] at H
   by_cases c24 : x42_4 = true
   ·subst c24
    have H1 : (some (0, 0, 0, 0, false)) = some (r1, r2, r3, r4, r5) := by rw [if_pos rfl] at H; exact H
    clear H
    have H := H1
    clear H1
    simp only [Option.some.injEq, Prod.mk.injEq] at H
    obtain ⟨rfl, rfl, rfl, rfl, rfl⟩ := H
    have hnb25 := NB383_382.out
    have hnc25 := NB382_383.out
    obtain ⟨⟨Z26_0, Y26_0⟩, ⟨Z26_1, Y26_1⟩, ⟨Z26_2, Y26_2⟩, Z26_3, Y26_3⟩ := cs4_ BK383.out
    obtain ⟨⟨Z27_0, Y27_0⟩, ⟨Z27_1, Y27_1⟩, ⟨Z27_2, Y27_2⟩, Z27_3, Y27_3⟩ := cs4_ BK382.out
    go_wp2
    refine bodyPost_ret (results_ct rfl _ _ gb382 56 #[.int .i64 0, .int .i64 0, .int .i64 0, .int .i64 0] (0, 0) _ rfl (kp0_ BK382.out) Try.underlying56 rfl (by kernel_rfl)) rfl ?_
    exact ⟨by first | rfl | (simp [errW_none, errW_some] <;> rfl) | (simp [*, errW_none, errW_some] <;> rfl), bS2_ HB.out GE382.out GE383.out⟩
   ·replace c24 := Bool.eq_false_iff.mpr c24
    subst c24
    have H1 : (variorumref10_Line.l0 kj4 l0 a1 a2 a3 (wrap64 (a1 + 1)) 0 0 0 0) = some (r1, r2, r3, r4, r5) := by rw [if_neg (show ¬ (false = true) by decide)] at H; exact H
    clear H
    have H := H1
    clear H1
    have H' := a_ H
    clear H
    go_wp2
    go_loopg [11] kj4 (fun kq v11 w' => ∃ (x11_2 : Int) (x383000_2 : Int) (x383001_2 : Int) (x383002_2 : Int) (x383003_2 : Int), v11 = .int .i64 x11_2 ∧ Aside0 (variorumref10_Line.l0 kq l0 a1 a2 a3 x11_2 0 0 0 0 = some (r1, r2, r3, r4, r5)) ∧ Aside0 (kq ≤ kj4) ∧ Aside0 (w'.heap[gb382]? = some (.cells #[.int .i64 x383000_2, .int .i64 x383001_2, .int .i64 x383002_2, .int .i64 x383003_2] 56 (0, 0))) ∧ Aside0 (w'.heap[gb383]? = some (.cells #[.int .i64 0, .int .i64 0, .int .i64 0, .int .i64 0] 56 (0, 0))) ∧ Aside0 (Below w.heap.size w w'))
    case atStart => exact ⟨(wrap64 (a1 + 1)), (0), (0), (0), (0), (by first | rfl | (simp; done) | (simp [*]; done)), H', ⟨Nat.le_refl _⟩, ⟨kv_ BK382.out⟩, ⟨kv_ BK383.out⟩, ⟨bS2_ HB.out GE382.out GE383.out⟩⟩
    case round =>
     clear H'
     try clear c1
     try clear c2
     try clear p2
     try clear p6
     try clear c8
     try clear c10
     try clear c10b0
     try clear c11
     try clear c11b0
     try clear c13
     try clear c15
     try clear c16
     try clear c16b0
     try clear c20
     try clear c21
     try clear c21b0
     try clear c24
     try clear c25
     try clear Z26_0
     try clear Z26_1
     try clear Z26_2
     try clear Z26_3
     try clear Z27_0
     try clear Z27_1
     try clear Z27_2
     try clear Z27_3
     try clear Z9_0
     try clear Z9_1
     try clear Z9_2
     try clear Z9_3
     try clear Y26_0
     try clear Y26_1
     try clear Y26_2
     try clear Y26_3
     try clear Y27_0
     try clear Y27_1
     try clear Y27_2
     try clear Y27_3
     try clear Y9_0
     try clear Y9_1
     try clear Y9_2
     try clear Y9_3
     try clear p2
     obtain ⟨x11_2, x383000_2, x383001_2, x383002_2, x383003_2, rfl, HA, HK2, BK382, BK383, HB⟩ := hrel
     cases gk with
     | zero => exact absurd HA.out (by simp [variorumref10_Line.l0])
     | succ k2 =>
      have H := HA.out
      clear HA
      simp only [variorumref10_Line.l0] at H
      by_cases c28 : x11_2 < a2
      ·rw [if_pos c28] at H
       have c28b0 : decide (x11_2 < a2) = true := decide_eq_true c28
       clear c28
       by_cases c29 : 0 ≤ x11_2
       ·rw [if_pos c29] at H
        have c29b0 : decide (0 ≤ x11_2) = true := decide_eq_true c29
        clear c29
        by_cases c30 : x11_2 < (l0.length : Int)
        ·rw [if_pos c30] at H
         have c30b0 : decide (x11_2 < (l0.length : Int)) = true := decide_eq_true c30
         clear c30
         replace H := Option.bind_eq_some_iff.mp H
         obtain ⟨t390, A310, H⟩ := H
         replace H : (if t390 = true then (some (0, 0, 0, 0, false)) else (variorumref10_Line.l0 k2 l0 a1 a2 a3 (wrap64 (x11_2 + 1)) 0 0 0 0)) = some (r1, r2, r3, r4, r5) := H
         have A31 := a_ A310
         clear A310
         by_cases c32 : t390 = true
         ·subst c32
          have H1 : (some (0, 0, 0, 0, false)) = some (r1, r2, r3, r4, r5) := by rw [if_pos rfl] at H; exact H
          clear H
          have H := H1
          clear H1
          simp only [Option.some.injEq, Prod.mk.injEq] at H
          obtain ⟨rfl, rfl, rfl, rfl, rfl⟩ := H
          have p389 : 0 ≤ (x11_2 : Int) := od_
          have q389 : x11_2 < (l0.length : Int) := od_
          obtain ⟨ad389, e389, hx389_0, hx389_1, hx389_2, hx389_3, hx389_4, hx389_5, hx389_6, hx389_7, hx389_8⟩ := at_T40 (Kd.C_below HR0.out HB.out) x11_2 p389 q389
          cases e389
          replace p389 := eq_true p389
          replace q389 := eq_true q389
          go_wp2_with (first | ((with_reducible refine gate_callee (f := 34) rfl ?_); refine gl_ (some 55) Try.func34 (by kernel_rfl) #[.agg #[.int .i64 ((rd_T40 l0 x11_2).f0), .int .i64 ((rd_T40 l0 x11_2).f1.f0), .int .i64 ((rd_T40 l0 x11_2).f1.f1), .int .i64 ((rd_T40 l0 x11_2).f1.f2), .int .i64 ((rd_T40 l0 x11_2).f1.f3), .int .i64 ((rd_T40 l0 x11_2).f2), .bool ((rd_T40 l0 x11_2).f3), .int .i64 ((rd_T40 l0 x11_2).f4), .int .i64 ((rd_T40 l0 x11_2).f5)]] ?_; (with_reducible refine (variorumref10_Forced.calls ((rd_T40 l0 x11_2).f0) ((rd_T40 l0 x11_2).f1.f0) ((rd_T40 l0 x11_2).f1.f1) ((rd_T40 l0 x11_2).f1.f2) ((rd_T40 l0 x11_2).f1.f3) ((rd_T40 l0 x11_2).f2) ((rd_T40 l0 x11_2).f3) ((rd_T40 l0 x11_2).f4) ((rd_T40 l0 x11_2).f5) true _ A31.out).mono ?_); rintro e w33 ⟨rfl, hb⟩; refine ⟨_, rfl, ?_⟩; have n0_ := a_ (kb_ BK382.out hb); have n1_ := a_ (kb_ BK383.out hb); have n2_ := a_ (below_step (bS2_ HB.out GE382.out GE383.out) hb); clear BK382; clear BK383; clear HB; have BK382 := n0_; have BK383 := n1_; have HB := n2_; clear n0_ n1_ n2_; (try clear hb); (try clear hb2); (try clear hk); (try clear hi); have hnb34 := NB383_382.out; have hnc34 := NB382_383.out; obtain ⟨⟨Z35_0, Y35_0⟩, ⟨Z35_1, Y35_1⟩, ⟨Z35_2, Y35_2⟩, Z35_3, Y35_3⟩ := cs4_ BK383.out; obtain ⟨⟨Z36_0, Y36_0⟩, ⟨Z36_1, Y36_1⟩, ⟨Z36_2, Y36_2⟩, Z36_3, Y36_3⟩ := cs4_ BK382.out))
          refine bodyPost_ret (results_ct rfl _ _ gb382 56 #[.int .i64 0, .int .i64 0, .int .i64 0, .int .i64 0] (0, 0) _ rfl (kp0_ BK382.out) Try.underlying56 rfl (by kernel_rfl)) rfl ?_
          exact ⟨by first | rfl | (simp [errW_none, errW_some] <;> rfl) | (simp [*, errW_none, errW_some] <;> rfl), bS2_ HB.out GE382.out GE383.out⟩
         ·replace c32 := Bool.eq_false_iff.mpr c32
          subst c32
          have H1 : (variorumref10_Line.l0 k2 l0 a1 a2 a3 (wrap64 (x11_2 + 1)) 0 0 0 0) = some (r1, r2, r3, r4, r5) := by rw [if_neg (show ¬ (false = true) by decide)] at H; exact H
          clear H
          have H := H1
          clear H1
          have H' := a_ H
          clear H
          have p389 : 0 ≤ (x11_2 : Int) := od_
          have q389 : x11_2 < (l0.length : Int) := od_
          obtain ⟨ad389, e389, hx389_0, hx389_1, hx389_2, hx389_3, hx389_4, hx389_5, hx389_6, hx389_7, hx389_8⟩ := at_T40 (Kd.C_below HR0.out HB.out) x11_2 p389 q389
          cases e389
          replace p389 := eq_true p389
          replace q389 := eq_true q389
          go_wp2_with (first | ((with_reducible refine gate_callee (f := 34) rfl ?_); refine gl_ (some 55) Try.func34 (by kernel_rfl) #[.agg #[.int .i64 ((rd_T40 l0 x11_2).f0), .int .i64 ((rd_T40 l0 x11_2).f1.f0), .int .i64 ((rd_T40 l0 x11_2).f1.f1), .int .i64 ((rd_T40 l0 x11_2).f1.f2), .int .i64 ((rd_T40 l0 x11_2).f1.f3), .int .i64 ((rd_T40 l0 x11_2).f2), .bool ((rd_T40 l0 x11_2).f3), .int .i64 ((rd_T40 l0 x11_2).f4), .int .i64 ((rd_T40 l0 x11_2).f5)]] ?_; (with_reducible refine (variorumref10_Forced.calls ((rd_T40 l0 x11_2).f0) ((rd_T40 l0 x11_2).f1.f0) ((rd_T40 l0 x11_2).f1.f1) ((rd_T40 l0 x11_2).f1.f2) ((rd_T40 l0 x11_2).f1.f3) ((rd_T40 l0 x11_2).f2) ((rd_T40 l0 x11_2).f3) ((rd_T40 l0 x11_2).f4) ((rd_T40 l0 x11_2).f5) false _ A31.out).mono ?_); rintro e w37 ⟨rfl, hb⟩; refine ⟨_, rfl, ?_⟩; have n0_ := a_ (kb_ BK382.out hb); have n1_ := a_ (kb_ BK383.out hb); have n2_ := a_ (below_step (bS2_ HB.out GE382.out GE383.out) hb); clear BK382; clear BK383; clear HB; have BK382 := n0_; have BK383 := n1_; have HB := n2_; clear n0_ n1_ n2_; (try clear hb); (try clear hb2); (try clear hk); (try clear hi)))
          go_roundg k2
          case measure => have := HJ4.out; have := HK2.out; omega
          case rel => exact ⟨(wrap64 (x11_2 + 1)), (x383000_2), (x383001_2), (x383002_2), (x383003_2), (by first | rfl | (simp; done) | (simp [*]; done)), H', ⟨by have := HJ4.out; have := HK2.out; omega⟩, ⟨kv_ BK382.out⟩, ⟨kv_ BK383.out⟩, ⟨bS2_ HB.out GE382.out GE383.out⟩⟩
        ·rw [if_neg c30] at H
         exact absurd H (by simp)
       ·rw [if_neg c29] at H
        exact absurd H (by simp)
      ·rw [if_neg c28] at H
       have c28b0 : decide (x11_2 < a2) = false := decide_eq_false c28
       clear c28
       replace H := Option.bind_eq_some_iff.mp H
       obtain ⟨t391, A380, H⟩ := H
       replace H : ((variorumref03_Set.f k2 t391 a3).bind fun bt394 => (some (bt394.1, bt394.2.1, bt394.2.2.1, bt394.2.2.2.1, bt394.2.2.2.2))) = some (r1, r2, r3, r4, r5) := H
       have A38 := a_ A380
       clear A380
       replace H := Option.bind_eq_some_iff.mp H
       obtain ⟨⟨t394, t395, t396, t397, t398⟩, A390, H⟩ := H
       replace H : (some (t394, t395, t396, t397, t398)) = some (r1, r2, r3, r4, r5) := H
       have A39 := a_ A390
       clear A390
       simp only [Option.some.injEq, Prod.mk.injEq] at H
       obtain ⟨rfl, rfl, rfl, rfl, rfl⟩ := H
       go_wp2_with (first | ((with_reducible refine gate_callee (f := 36) rfl ?_); refine gl_ (some 60) Try.func36 (by kernel_rfl) #[.slice A0 l0.length c0, .int .i64 a1, .int .i64 a2] ?_; (with_reducible refine (variorumref10_Glues.calls k2 _ _ l0 a1 a2 t391 _ ?side1 ?side2 A38.out).mono ?_); (case side1 => exact cw_ HR0.out HB.out); (case side2 => exact HC0.out); rintro e w40 ⟨v392, rfl, ho0, hb⟩; refine ⟨_, rfl, ?_⟩; have n0_ := a_ (Kd.R_lower ho0 (below_size (bS2_ HB.out GE382.out GE383.out))); have n1_ := a_ (kb_ BK382.out hb); have n2_ := a_ (kb_ BK383.out hb); have n3_ := a_ (below_step (bS2_ HB.out GE382.out GE383.out) hb); clear BK382; clear BK383; clear HB; have HO393 := n0_; have BK382 := n1_; have BK383 := n2_; have HB := n3_; clear n0_ n1_ n2_ n3_; (try clear hb); (try clear hb2); (try clear hk); (try clear hi); (try clear ho0); obtain ⟨Ao41, co41, eo41⟩ := Kd.R_slice HO393.out; subst eo41) | ((with_reducible refine gate_callee (f := 35) rfl ?_); refine gl_ (some 62) Try.func35 (by kernel_rfl) #[.slice Ao41 t391.length co41, .int .i64 a3] ?_; (with_reducible refine (variorumref03_Set.calls k2 _ _ t391 a3 t394 t395 t396 t397 t398 _ ?side1 ?side2 A39.out).mono ?_); (case side1 => exact cr_ (Kd.R_reads' HO393.out).2.2); (case side2 => exact (Kd.R_reads' HO393.out).2.1); rintro e w42 ⟨rfl, hb⟩; refine ⟨_, rfl, ?_⟩; have n0_ := a_ (Kd.R_below (rv_ HO393.out) hb); have n1_ := a_ (kb_ BK382.out hb); have n2_ := a_ (kb_ BK383.out hb); have n3_ := a_ (below_step (bS2_ HB.out GE382.out GE383.out) hb); clear HO393; clear BK382; clear BK383; clear HB; have HO393 := n0_; have BK382 := n1_; have BK383 := n2_; have HB := n3_; clear n0_ n1_ n2_ n3_; (try clear hb); (try clear hb2); (try clear hk); (try clear hi); have hnb43 := NB382_383.out; have hnc43 := NB383_382.out; obtain ⟨⟨Z44_0, Y44_0⟩, ⟨Z44_1, Y44_1⟩, ⟨Z44_2, Y44_2⟩, Z44_3, Y44_3⟩ := cs4_ BK382.out))
       refine bodyPost_ret (results_ct rfl _ _ gb382 56 #[.int .i64 t394, .int .i64 t395, .int .i64 t396, .int .i64 t397] (0, 0) _ rfl (kp0_ BK382.out) Try.underlying56 rfl (by kernel_rfl)) rfl ?_
       exact ⟨by first | rfl | (simp [errW_none, errW_some] <;> rfl) | (simp [*, errW_none, errW_some] <;> rfl), bS2_ HB.out GE382.out GE383.out⟩

end Go.Proofs.Ytpfnfofaajpdmaa.PWi

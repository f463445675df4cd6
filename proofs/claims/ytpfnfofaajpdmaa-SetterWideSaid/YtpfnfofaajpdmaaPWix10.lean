/- Written by a program of this session: functions of the given program as plain Lean functions, the walks that show it, and the row of each law, for every input that its statement speaks of. -/
import Derived.Test.YtpfnfofaajpdmaaPWix0
import Derived.Test.YtpfnfofaajpdmaaPWix6
import Derived.Test.YtpfnfofaajpdmaaPWix7
import Derived.Test.YtpfnfofaajpdmaaPWix9
namespace Go.Proofs.Ytpfnfofaajpdmaa.PWi
open Go.RowKit Go.Proofs.YtpfnfofaajpdmaaW.PrintWords Go.Proofs.YtpfnfofaajpdmaaW.PrintLast Go.Proofs.YtpfnfofaajpdmaaW.PrintMore
attribute [local go_sem] max2_int min2_int max_two min_two max_three min_three max_four min_four   -- for this text's walks alone
set_option linter.unusedVariables false
set_option linter.unusedSimpArgs false

/-! ### demerit_Line: function 28 -/
def demerit_Line.f (k : Nat) (l0 : List (S40)) (a1 : Int) (a2 : Int) (a3 : Int) : Option (Int × Int × Int × Int × Bool) := (demerit_may.f k l0 a1 a2).bind fun t178 => (if t178 = true then ((demerit_Glues.f k l0 a1 a2).bind fun t179 => ((glue_Set.f k t179 a3).bind fun bt182 => (some (bt182.1, bt182.2.1, bt182.2.2.1, bt182.2.2.2.1, bt182.2.2.2.2)))) else (some (0, 0, 0, 0, false)))
theorem demerit_Line.mono : ∀ a0 a1 a2 a3 k, LeO (demerit_Line.f k a0 a1 a2 a3) (demerit_Line.f (k + 1) a0 a1 a2 a3) := by
 intro a0 a1 a2 a3 k
 unfold demerit_Line.f
 repeat' first
   | (with_reducible exact demerit_Glues.mono _ _ _ _)
   | (with_reducible exact demerit_may.mono _ _ _ _)
   | (with_reducible exact glue_Set.mono _ _ _)
   | (with_reducible exact LeO.refl _)
   | (with_reducible exact LeO.none _)
   | (with_reducible refine LeO.ite ?_ ?_)
   | (with_reducible refine LeO.bind ?_ (fun _ => ?_))
   | exact demerit_Glues.mono _ _ _ _
   | exact demerit_may.mono _ _ _ _
   | exact glue_Set.mono _ _ _
   | exact LeO.none _
   | refine LeO.ite ?_ ?_
   | refine LeO.bind ?_ (fun _ => ?_)
set_option maxHeartbeats 8000000 in
set_option maxRecDepth 100000 in
theorem demerit_Line.calls (k : Nat) (A0 : Option Addr) (c0 : Nat) (l0 : List (S40)) (a1 : Int) (a2 : Int) (a3 : Int) (r1 : Int) (r2 : Int) (r3 : Int) (r4 : Int) (r5 : Bool) (w : World) (hr0 : Kd.C k40 w A0 l0.length l0) (hc0 : l0.length ≤ c0) (h : demerit_Line.f k l0 a1 a2 a3 = some (r1, r2, r3, r4, r5)) :
  Calls Try.prog 28 #[.slice A0 l0.length c0, .int .i64 a1, .int .i64 a2, .int .i64 a3] w fun e w' => e = .returned (.tuple #[.agg #[.int .i64 r1, .int .i64 r2, .int .i64 r3, .int .i64 r4], .bool r5]) ∧ Below w.heap.size w w' := by
 have hu56 := Try.underlying56
 have HR0 := a_ hr0
 have HC0 := a_ hc0
 clear hr0 hc0
 have HB := a_ (Below.refl w.heap.size w)
 have H : ((demerit_may.f k l0 a1 a2).bind fun t178 => (if t178 = true then ((demerit_Glues.f k l0 a1 a2).bind fun t179 => ((glue_Set.f k t179 a3).bind fun bt182 => (some (bt182.1, bt182.2.1, bt182.2.2.1, bt182.2.2.2.1, bt182.2.2.2.2)))) else (some (0, 0, 0, 0, false)))) = some (r1, r2, r3, r4, r5) := h
 clear h
 replace H := Option.bind_eq_some_iff.mp H
 obtain ⟨t178, A50, H⟩ := H
 replace H : (if t178 = true then ((demerit_Glues.f k l0 a1 a2).bind fun t179 => ((glue_Set.f k t179 a3).bind fun bt182 => (some (bt182.1, bt182.2.1, bt182.2.2.1, bt182.2.2.2.1, bt182.2.2.2.2)))) else (some (0, 0, 0, 0, false))) = some (r1, r2, r3, r4, r5) := H
 have A5 := a_ A50
 clear A50
 by_cases c6 : t178 = true
 ·subst c6
  have H1 : ((demerit_Glues.f k l0 a1 a2).bind fun t179 => ((glue_Set.f k t179 a3).bind fun bt182 => (some (bt182.1, bt182.2.1, bt182.2.2.1, bt182.2.2.2.1, bt182.2.2.2.2)))) = some (r1, r2, r3, r4, r5) := by rw [if_pos rfl] at H; exact H
  clear H
  have H := H1
  clear H1
  replace H := Option.bind_eq_some_iff.mp H
  obtain ⟨t179, A70, H⟩ := H
  replace H : ((glue_Set.f k t179 a3).bind fun bt182 => (some (bt182.1, bt182.2.1, bt182.2.2.1, bt182.2.2.2.1, bt182.2.2.2.2))) = some (r1, r2, r3, r4, r5) := H
  have A7 := a_ A70
  clear A70
  replace H := Option.bind_eq_some_iff.mp H
  obtain ⟨⟨t182, t183, t184, t185, t186⟩, A80, H⟩ := H
  replace H : (some (t182, t183, t184, t185, t186)) = some (r1, r2, r3, r4, r5) := H
  have A8 := a_ A80
  clear A80
  simp only [Option.some.injEq, Prod.mk.injEq] at H
  obtain ⟨rfl, rfl, rfl, rfl, rfl⟩ := H
  go_enter Try.func28, Try.ntmps28
  go_wp2_with (first | ((with_reducible refine gate_dst (N := 8) rfl ?_); refine box_event ?hg (N := 8) ?hd (cs := #[.int .i64 0, .int .i64 0, .int .i64 0, .int .i64 0]) (t := 56) ?hr ?_; (case hd => rfl); (case hg => rfl); (case hr => first | (go_simp; done) | (go_simp; rfl)); intro gb177 hg w9 hbox hb; have n0_ := a_ (bs_ HB.out hb); have n1_ := a_ (hbox); have n2_ := a_ ((by rw [hg]; exact (below_size (bv_ HB.out)) : w.heap.size ≤ gb177)); have n3_ := a_ ((by rw [hg]; exact (below_size (bv_ HB.out)) : w.heap.size ≤ gb177)); clear HB; have HB := n0_; have BK177 := n1_; have GW177 := n2_; have GE177 := n3_; clear n0_ n1_ n2_ n3_; clear hb hbox hg) | ((with_reducible refine gate_callee (f := 43) rfl ?_); refine gl_ (some 13) Try.func43 (by kernel_rfl) #[.slice A0 l0.length c0, .int .i64 a1, .int .i64 a2] ?_; (with_reducible refine (demerit_may.calls k _ _ l0 a1 a2 true _ ?side1 ?side2 A5.out).mono ?_); (case side1 => exact cw_ HR0.out HB.out); (case side2 => exact HC0.out); rintro e w10 ⟨rfl, hb⟩; refine ⟨_, rfl, ?_⟩; have n0_ := a_ (kb_ BK177.out hb); have n1_ := a_ (below_step (bS1_ HB.out GE177.out) hb); clear BK177; clear HB; have BK177 := n0_; have HB := n1_; clear n0_ n1_; (try clear hb); (try clear hb2); (try clear hk); (try clear hi)) | ((with_reducible refine gate_callee (f := 31) rfl ?_); refine gl_ (some 19) Try.func31 (by kernel_rfl) #[.slice A0 l0.length c0, .int .i64 a1, .int .i64 a2] ?_; (with_reducible refine (demerit_Glues.calls k _ _ l0 a1 a2 t179 _ ?side1 ?side2 A7.out).mono ?_); (case side1 => exact cw_ HR0.out HB.out); (case side2 => exact HC0.out); rintro e w11 ⟨v180, rfl, ho0, hb⟩; refine ⟨_, rfl, ?_⟩; have n0_ := a_ (Kd.R_lower ho0 (below_size (bS1_ HB.out GE177.out))); have n1_ := a_ (kb_ BK177.out hb); have n2_ := a_ (below_step (bS1_ HB.out GE177.out) hb); clear BK177; clear HB; have HO181 := n0_; have BK177 := n1_; have HB := n2_; clear n0_ n1_ n2_; (try clear hb); (try clear hb2); (try clear hk); (try clear hi); (try clear ho0); obtain ⟨Ao12, co12, eo12⟩ := Kd.R_slice HO181.out; subst eo12) | ((with_reducible refine gate_callee (f := 44) rfl ?_); refine gl_ (some 21) Try.func44 (by kernel_rfl) #[.slice Ao12 t179.length co12, .int .i64 a3] ?_; (with_reducible refine (glue_Set.calls k _ _ t179 a3 t182 t183 t184 t185 t186 _ ?side1 ?side2 A8.out).mono ?_); (case side1 => exact cr_ (Kd.R_reads' HO181.out).2.2); (case side2 => exact (Kd.R_reads' HO181.out).2.1); rintro e w13 ⟨rfl, hb⟩; refine ⟨_, rfl, ?_⟩; have n0_ := a_ (Kd.R_below (rv_ HO181.out) hb); have n1_ := a_ (kb_ BK177.out hb); have n2_ := a_ (below_step (bS1_ HB.out GE177.out) hb); clear HO181; clear BK177; clear HB; have HO181 := n0_; have BK177 := n1_; have HB := n2_; clear n0_ n1_ n2_; (try clear hb); (try clear hb2); (try clear hk); (try clear hi); obtain ⟨⟨Z14_0, Y14_0⟩, ⟨Z14_1, Y14_1⟩, ⟨Z14_2, Y14_2⟩, Z14_3, Y14_3⟩ := cs4_ BK177.out))
  refine bodyPost_ret (results_ct rfl _ _ gb177 56 #[.int .i64 t182, .int .i64 t183, .int .i64 t184, .int .i64 t185] (0, 0) _ rfl (kp0_ BK177.out) Try.underlying56 rfl (by kernel_rfl)) rfl ?_
  exact ⟨by first | rfl | (simp [errW_none, errW_some] <;> rfl) | (simp [*, errW_none, errW_some] <;> rfl), bS1_ HB.out GE177.out⟩
 ·replace c6 := Bool.eq_false_iff.mpr c6
  subst c6
  have H1 : (some (0, 0, 0, 0, false)) = some (r1, r2, r3, r4, r5) := by rw [if_neg (show ¬ (false = true) by decide)] at H; exact H
  clear H
  have H := H1
  clear H1
  simp only [Option.some.injEq, Prod.mk.injEq] at H
  obtain ⟨rfl, rfl, rfl, rfl, rfl⟩ := H
  go_enter Try.func28, Try.ntmps28
  go_wp2_with (first | ((with_reducible refine gate_dst (N := 8) rfl ?_); refine box_event ?hg (N := 8) ?hd (cs := #[.int .i64 0, .int .i64 0, .int .i64 0, .int .i64 0]) (t := 56) ?hr ?_; (case hd => rfl); (case hg => rfl); (case hr => first | (go_simp; done) | (go_simp; rfl)); intro gb177 hg w15 hbox hb; have n0_ := a_ (bs_ HB.out hb); have n1_ := a_ (hbox); have n2_ := a_ ((by rw [hg]; exact (below_size (bv_ HB.out)) : w.heap.size ≤ gb177)); have n3_ := a_ ((by rw [hg]; exact (below_size (bv_ HB.out)) : w.heap.size ≤ gb177)); clear HB; have HB := n0_; have BK177 := n1_; have GW177 := n2_; have GE177 := n3_; clear n0_ n1_ n2_ n3_; clear hb hbox hg) | ((with_reducible refine gate_callee (f := 43) rfl ?_); refine gl_ (some 13) Try.func43 (by kernel_rfl) #[.slice A0 l0.length c0, .int .i64 a1, .int .i64 a2] ?_; (with_reducible refine (demerit_may.calls k _ _ l0 a1 a2 false _ ?side1 ?side2 A5.out).mono ?_); (case side1 => exact cw_ HR0.out HB.out); (case side2 => exact HC0.out); rintro e w16 ⟨rfl, hb⟩; refine ⟨_, rfl, ?_⟩; have n0_ := a_ (kb_ BK177.out hb); have n1_ := a_ (below_step (bS1_ HB.out GE177.out) hb); clear BK177; clear HB; have BK177 := n0_; have HB := n1_; clear n0_ n1_; (try clear hb); (try clear hb2); (try clear hk); (try clear hi); obtain ⟨⟨Z17_0, Y17_0⟩, ⟨Z17_1, Y17_1⟩, ⟨Z17_2, Y17_2⟩, Z17_3, Y17_3⟩ := cs4_ BK177.out))
  refine bodyPost_ret (results_ct rfl _ _ gb177 56 #[.int .i64 0, .int .i64 0, .int .i64 0, .int .i64 0] (0, 0) _ rfl (kp0_ BK177.out) Try.underlying56 rfl (by kernel_rfl)) rfl ?_
  exact ⟨by first | rfl | (simp [errW_none, errW_some] <;> rfl) | (simp [*, errW_none, errW_some] <;> rfl), bS1_ HB.out GE177.out⟩

/-! ### glue_gives: function 46 -/
def glue_gives.j0 : Nat → Bool → Int → Int → Int → Int → Int → Int → Int → Int → Option (Int)
 | 0, _, _, _, _, _, _, _, _, _ => none
 | k + 1, x5, x188000, x188001, x188002, x188003, x189000, x189001, x189002, x189003 => if x5 = true then (some x188001) else (if x189000 < 0 then (some x188002) else (some 0))
def glue_gives.f (k : Nat) (a0_0 : Int) (a0_1 : Int) (a0_2 : Int) (a0_3 : Int) (a1_0 : Int) (a1_1 : Int) (a1_2 : Int) (a1_3 : Int) : Option (Int) := if a1_0 > 0 then (glue_gives.j0 k (a0_3 == a1_1) a0_0 a0_1 a0_2 a0_3 a1_0 a1_1 a1_2 a1_3) else (glue_gives.j0 k false a0_0 a0_1 a0_2 a0_3 a1_0 a1_1 a1_2 a1_3)
theorem glue_gives.mono_l : ∀ k, (∀ y0 y1 y2 y3 y4 y5 y6 y7 y8, LeO (glue_gives.j0 k y0 y1 y2 y3 y4 y5 y6 y7 y8) (glue_gives.j0 (k + 1) y0 y1 y2 y3 y4 y5 y6 y7 y8))
 | 0 => fun _ _ _ _ _ _ _ _ _ r h => by simp [glue_gives.j0] at h
 | k + 1 => by
  have ih0 := glue_gives.mono_l k
  ·intro y0 y1 y2 y3 y4 y5 y6 y7 y8
   unfold glue_gives.j0
   repeat' first | (with_reducible first | exact ih0 _ _ _ _ _ _ _ _ _ | exact LeO.refl _ | exact LeO.none _ | refine LeO.ite ?_ ?_ | refine LeO.bind ?_ (fun _ => ?_)) | exact LeO.none _ | refine LeO.ite ?_ ?_ | refine LeO.bind ?_ (fun _ => ?_)
theorem glue_gives.mono : ∀ a0 a1 a2 a3 a4 a5 a6 a7 k, LeO (glue_gives.f k a0 a1 a2 a3 a4 a5 a6 a7) (glue_gives.f (k + 1) a0 a1 a2 a3 a4 a5 a6 a7) := by
 intro a0 a1 a2 a3 a4 a5 a6 a7 k
 have ih0 := glue_gives.mono_l k
 unfold glue_gives.f
 repeat' first
   | (with_reducible exact ih0 _ _ _ _ _ _ _ _ _)
   | (with_reducible exact LeO.refl _)
   | (with_reducible exact LeO.none _)
   | (with_reducible refine LeO.ite ?_ ?_)
   | (with_reducible refine LeO.bind ?_ (fun _ => ?_))
   | exact ih0 _ _ _ _ _ _ _ _ _
   | exact LeO.none _
   | refine LeO.ite ?_ ?_
   | refine LeO.bind ?_ (fun _ => ?_)
set_option maxHeartbeats 8000000 in
set_option maxRecDepth 100000 in
theorem glue_gives.calls (k : Nat) (a0_0 : Int) (a0_1 : Int) (a0_2 : Int) (a0_3 : Int) (a1_0 : Int) (a1_1 : Int) (a1_2 : Int) (a1_3 : Int) (r : Int) (w : World) (h : glue_gives.f k a0_0 a0_1 a0_2 a0_3 a1_0 a1_1 a1_2 a1_3 = some r) :
  Calls Try.prog 46 #[.agg #[.int .i64 a0_0, .int .i64 a0_1, .int .i64 a0_2, .int .i64 a0_3], .agg #[.int .i64 a1_0, .int .i64 a1_1, .int .i64 a1_2, .int .i64 a1_3]] w fun e w' => e = .returned (.int .i64 r) ∧ Below w.heap.size w w' := by
 have hu38 := Try.underlying38
 have hu56 := Try.underlying56
 have HB := a_ (Below.refl w.heap.size w)
 have H : (if a1_0 > 0 then (glue_gives.j0 k (a0_3 == a1_1) a0_0 a0_1 a0_2 a0_3 a1_0 a1_1 a1_2 a1_3) else (glue_gives.j0 k false a0_0 a0_1 a0_2 a0_3 a1_0 a1_1 a1_2 a1_3)) = some r := h
 clear h
 have HC3 := a_ H
 clear H
 go_enter Try.func46, Try.ntmps46
 go_upto_region 1 with (first | ((with_reducible refine gate_dst (N := 2) rfl ?_); refine box_event ?hg (N := 2) ?hd (cs := #[.int .i64 a0_0, .int .i64 a0_1, .int .i64 a0_2, .int .i64 a0_3]) (t := 38) ?hr ?_; (case hd => rfl); (case hg => rfl); (case hr => first | (go_simp; done) | (go_simp; rfl)); intro gb187 hg w4 hbox hb; have n0_ := a_ (bs_ HB.out hb); have n1_ := a_ (hbox); have n2_ := a_ ((by rw [hg]; exact (below_size (bv_ HB.out)) : w.heap.size ≤ gb187)); have n3_ := a_ ((by rw [hg]; exact (below_size (bv_ HB.out)) : w.heap.size ≤ gb187)); clear HB; have HB := n0_; have BK187 := n1_; have GW187 := n2_; have GE187 := n3_; clear n0_ n1_ n2_ n3_; clear hb hbox hg) | ((with_reducible refine gate_dst (N := 3) rfl ?_); refine box_event ?hg (N := 3) ?hd (cs := #[.int .i64 a1_0, .int .i64 a1_1, .int .i64 a1_2, .int .i64 a1_3]) (t := 56) ?hr ?_; (case hd => rfl); (case hg => rfl); (case hr => first | (go_simp; done) | (go_simp; rfl)); intro gb188 hg w5 hbox hb; have n0_ := a_ (kb_ BK187.out hb); have n1_ := a_ (below_step (bS1_ HB.out GE187.out) hb); have n2_ := a_ (hbox); have n3_ := a_ ((by rw [hg]; exact (below_size (bS1_ HB.out GE187.out)) : w.heap.size ≤ gb188)); have n4_ := a_ ((by rw [hg]; exact (below_size (bS1_ HB.out GE187.out)) : w.heap.size ≤ gb188)); have n5_ := a_ ((by rw [hg]; exact Nat.ne_of_lt (blk_lt (kv_ BK187.out)) : gb187 ≠ gb188)); have n6_ := a_ ((by rw [hg]; exact Nat.ne_of_gt (blk_lt (kv_ BK187.out)) : gb188 ≠ gb187)); clear BK187; clear HB; have BK187 := n0_; have HB := n1_; have BK188 := n2_; have GW188 := n3_; have GE188 := n4_; have NB187_188 := n5_; have NB188_187 := n6_; clear n0_ n1_ n2_ n3_ n4_ n5_ n6_; clear hb hbox hg))
 (try simp only [Act.put, List.setIfInBounds_toArray, List.set_cons_zero, List.set_cons_succ])
 go_cut [5] (fun v5 wc => ∃ (kq : Nat) (x5_2 : Bool), v5 = .bool x5_2 ∧ Aside0 (glue_gives.j0 kq x5_2 a0_0 a0_1 a0_2 a0_3 a1_0 a1_1 a1_2 a1_3 = some r) ∧ Aside0 (kq ≤ k) ∧ Aside0 (wc.heap[gb187]? = some (.cells #[.int .i64 a0_0, .int .i64 a0_1, .int .i64 a0_2, .int .i64 a0_3] 38 (0, 0))) ∧ Aside0 (wc.heap[gb188]? = some (.cells #[.int .i64 a1_0, .int .i64 a1_1, .int .i64 a1_2, .int .i64 a1_3] 56 (0, 0))) ∧ Aside0 (Below w.heap.size w wc))
 case first =>
  have H := HC3.out
  clear HC3
  by_cases c6 : a1_0 > 0
  ·rw [if_pos c6] at H
   have c6b0 : decide (0 < a1_0) = true := decide_eq_true c6
   clear c6
   (first | rw [c6b0] | (simp only [i64_w, i32_w]; rw [c6b0]) | skip)
   have H' := a_ H
   clear H
   have hnb7 := NB188_187.out
   have hnc7 := NB187_188.out
   obtain ⟨⟨Z8_0, Y8_0⟩, ⟨Z8_1, Y8_1⟩, ⟨Z8_2, Y8_2⟩, Z8_3, Y8_3⟩ := cs4_ BK188.out
   obtain ⟨⟨Z9_0, Y9_0⟩, ⟨Z9_1, Y9_1⟩, ⟨Z9_2, Y9_2⟩, Z9_3, Y9_3⟩ := cs4_ BK187.out
   go_wp2
   go_meet
   case rel => exact ⟨_, ((a0_3 == a1_1)), (by first | rfl | (simp; done) | (simp [*]; done)), H', ⟨by first | omega | exact Nat.le_refl _⟩, ⟨kv_ BK187.out⟩, ⟨kv_ BK188.out⟩, ⟨bS2_ HB.out GE187.out GE188.out⟩⟩
  ·rw [if_neg c6] at H
   have c6b0 : decide (0 < a1_0) = false := decide_eq_false c6
   clear c6
   (first | rw [c6b0] | (simp only [i64_w, i32_w]; rw [c6b0]) | skip)
   have H' := a_ H
   clear H
   have hnb10 := NB188_187.out
   have hnc10 := NB187_188.out
   obtain ⟨⟨Z11_0, Y11_0⟩, ⟨Z11_1, Y11_1⟩, ⟨Z11_2, Y11_2⟩, Z11_3, Y11_3⟩ := cs4_ BK188.out
   go_wp2
   go_meet
   case rel => exact ⟨_, (false), (by first | rfl | (simp; done) | (simp [*]; done)), H', ⟨by first | omega | exact Nat.le_refl _⟩, ⟨kv_ BK187.out⟩, ⟨kv_ BK188.out⟩, ⟨bS2_ HB.out GE187.out GE188.out⟩⟩
 case rest =>
  clear HC3
  try clear c1
  try clear p2
  try clear c4
  try clear c6
  try clear c6b0
  try clear c7
  try clear c10
  try clear Z11_0
  try clear Z11_1
  try clear Z11_2
  try clear Z11_3
  try clear Z8_0
  try clear Z8_1
  try clear Z8_2
  try clear Z8_3
  try clear Z9_0
  try clear Z9_1
  try clear Z9_2
  try clear Z9_3
  try clear Y11_0
  try clear Y11_1
  try clear Y11_2
  try clear Y11_3
  try clear Y8_0
  try clear Y8_1
  try clear Y8_2
  try clear Y8_3
  try clear Y9_0
  try clear Y9_1
  try clear Y9_2
  try clear Y9_3
  obtain ⟨kq, x5_2, rfl, HA, HJ2, BK187, BK188, HB⟩ := hcut
  cases kq with
  | zero => exact absurd HA.out (by simp [glue_gives.j0])
  | succ kj2 =>
   have H := HA.out
   clear HA
   simp only [glue_gives.j0] at H
   by_cases c12 : x5_2 = true
   ·subst c12
    have H1 : (some a0_1) = some r := by rw [if_pos rfl] at H; exact H
    clear H
    have H := H1
    clear H1
    obtain rfl := Option.some.inj H
    have hnb13 := NB187_188.out
    have hnc13 := NB188_187.out
    obtain ⟨⟨Z14_0, Y14_0⟩, ⟨Z14_1, Y14_1⟩, ⟨Z14_2, Y14_2⟩, Z14_3, Y14_3⟩ := cs4_ BK187.out
    go_wp2
    go_ret
    exact ⟨by first | rfl | (simp [errW_none, errW_some] <;> rfl) | (simp [*, errW_none, errW_some] <;> rfl), bS2_ HB.out GE187.out GE188.out⟩
   ·replace c12 := Bool.eq_false_iff.mpr c12
    subst c12
    have H1 : (if a1_0 < 0 then (some a0_2) else (some 0)) = some r := by rw [if_neg (show ¬ (false = true) by decide)] at H; exact H
    clear H
    have H := H1
    clear H1
    by_cases c15 : a1_0 < 0
    ·rw [if_pos c15] at H
     have c15b0 : decide (a1_0 < 0) = true := decide_eq_true c15
     clear c15
     obtain rfl := Option.some.inj H
     have hnb16 := NB188_187.out
     have hnc16 := NB187_188.out
     obtain ⟨⟨Z17_0, Y17_0⟩, ⟨Z17_1, Y17_1⟩, ⟨Z17_2, Y17_2⟩, Z17_3, Y17_3⟩ := cs4_ BK188.out
     obtain ⟨⟨Z18_0, Y18_0⟩, ⟨Z18_1, Y18_1⟩, ⟨Z18_2, Y18_2⟩, Z18_3, Y18_3⟩ := cs4_ BK187.out
     go_wp2
     go_ret
     exact ⟨by first | rfl | (simp [errW_none, errW_some] <;> rfl) | (simp [*, errW_none, errW_some] <;> rfl), bS2_ HB.out GE187.out GE188.out⟩
    ·rw [if_neg c15] at H
     have c15b0 : decide (a1_0 < 0) = false := decide_eq_false c15
     clear c15
     obtain rfl := Option.some.inj H
     have hnb19 := NB188_187.out
     have hnc19 := NB187_188.out
     obtain ⟨⟨Z20_0, Y20_0⟩, ⟨Z20_1, Y20_1⟩, ⟨Z20_2, Y20_2⟩, Z20_3, Y20_3⟩ := cs4_ BK188.out
     go_wp2
     go_ret
     exact ⟨by first | rfl | (simp [errW_none, errW_some] <;> rfl) | (simp [*, errW_none, errW_some] <;> rfl), bS2_ HB.out GE187.out GE188.out⟩

/-! ### glue_Widths: function 30 -/
mutual
def glue_Widths.l0 : Nat → List (S38) → Int → List (S38) → Int → Int → Int → Int → Int → Int → Option (List Int × Bool)
 | 0, _, _, _, _, _, _, _, _, _ => none
 | k + 1, x0, x8, x27, x28, x29, x195000, x195001, x195002, x195003 => if x29 < x28 then (if 0 ≤ x29 then (if x29 < (x27.length : Int) then ((glue_gives.f k ((rd_T38 x27 x29).f0) ((rd_T38 x27 x29).f1) ((rd_T38 x27 x29).f2) ((rd_T38 x27 x29).f3) x195000 x195001 x195002 x195003).bind fun t197 => (glue_Widths.l0 k x0 (wrap64 (x8 + t197)) x27 x28 (wrap64 (x29 + 1)) x195000 x195001 x195002 x195003)) else (none)) else (none)) else (if x195000 < 0 then (glue_Widths.j1 k x0 x8 (wrap64 (-(mn (wrap64 (-x195002)) x8))) x195000 x195001 x195002 x195003) else (glue_Widths.j1 k x0 x8 x195002 x195000 x195001 x195002 x195003))
def glue_Widths.j1 : Nat → List (S38) → Int → Int → Int → Int → Int → Int → Option (List Int × Bool)
 | 0, _, _, _, _, _, _, _ => none
 | k + 1, x0, x8, x11, x195000, x195001, x195002, x195003 => glue_Widths.l1 k x8 x11 ([] : List Int) 0 0 x0 (x0.length : Int) 0 x195000 x195001 x195002 x195003
def glue_Widths.l1 : Nat → Int → Int → List Int → Int → Int → List (S38) → Int → Int → Int → Int → Int → Int → Option (List Int × Bool)
 | 0, _, _, _, _, _, _, _, _, _, _, _, _ => none
 | k + 1, x8, x11, x12, x13, x14, x49, x50, x51, x195000, x195001, x195002, x195003 => if x51 < x50 then (if 0 ≤ x51 then (if x51 < (x49.length : Int) then (if x8 > 0 then ((glue_gives.f k ((rd_T38 x49 x51).f0) ((rd_T38 x49 x51).f1) ((rd_T38 x49 x51).f2) ((rd_T38 x49 x51).f3) x195000 x195001 x195002 x195003).bind fun t200 => (if x8 = 0 then (none) else (if x12.length < 17592186044416 then (glue_Widths.l1 k x8 x11 (x12 ++ [wrap64 (((rd_T38 x49 x51).f0) + (wrap64 ((wrap64 (Int.tdiv (wrap64 (x11 * (wrap64 (x13 + t200)))) x8)) - x14)))]) (wrap64 (x13 + t200)) (wrap64 (Int.tdiv (wrap64 (x11 * (wrap64 (x13 + t200)))) x8)) x49 x50 (wrap64 (x51 + 1)) x195000 x195001 x195002 x195003) else (none)))) else (if x12.length < 17592186044416 then (glue_Widths.l1 k x8 x11 (x12 ++ [(rd_T38 x49 x51).f0]) x13 x14 x49 x50 (wrap64 (x51 + 1)) x195000 x195001 x195002 x195003) else (none))) else (none)) else (none)) else (some (x12, true))
end
def glue_Widths.f (k : Nat) (l0 : List (S38)) (a1 : Int) : Option (List Int × Bool) := (glue_Set.f k l0 a1).bind fun bt189 => (if bt189.2.2.2.2 = true then (glue_Widths.l0 k l0 0 l0 (l0.length : Int) 0 bt189.1 bt189.2.1 bt189.2.2.1 bt189.2.2.2.1) else (some (([] : List Int), false)))
theorem glue_Widths.mono_l : ∀ k, (∀ y0 y1 y2 y3 y4 y5 y6 y7 y8, LeO (glue_Widths.l0 k y0 y1 y2 y3 y4 y5 y6 y7 y8) (glue_Widths.l0 (k + 1) y0 y1 y2 y3 y4 y5 y6 y7 y8)) ∧ (∀ y0 y1 y2 y3 y4 y5 y6, LeO (glue_Widths.j1 k y0 y1 y2 y3 y4 y5 y6) (glue_Widths.j1 (k + 1) y0 y1 y2 y3 y4 y5 y6)) ∧ (∀ y0 y1 y2 y3 y4 y5 y6 y7 y8 y9 y10 y11, LeO (glue_Widths.l1 k y0 y1 y2 y3 y4 y5 y6 y7 y8 y9 y10 y11) (glue_Widths.l1 (k + 1) y0 y1 y2 y3 y4 y5 y6 y7 y8 y9 y10 y11))
 | 0 => ⟨fun _ _ _ _ _ _ _ _ _ r h => by simp [glue_Widths.l0] at h, fun _ _ _ _ _ _ _ r h => by simp [glue_Widths.j1] at h, fun _ _ _ _ _ _ _ _ _ _ _ _ r h => by simp [glue_Widths.l1] at h⟩
 | k + 1 => by
  obtain ⟨ih0, ih1, ih2⟩ := glue_Widths.mono_l k
  refine ⟨?_, ?_, ?_⟩
  ·intro y0 y1 y2 y3 y4 y5 y6 y7 y8
   unfold glue_Widths.l0
   repeat' first | (with_reducible first | exact ih0 _ _ _ _ _ _ _ _ _ | exact ih1 _ _ _ _ _ _ _ | exact ih2 _ _ _ _ _ _ _ _ _ _ _ _ | exact glue_Set.mono _ _ _ | exact glue_gives.mono _ _ _ _ _ _ _ _ _ | exact LeO.refl _ | exact LeO.none _ | refine LeO.ite ?_ ?_ | refine LeO.bind ?_ (fun _ => ?_)) | exact LeO.none _ | refine LeO.ite ?_ ?_ | refine LeO.bind ?_ (fun _ => ?_)
  ·intro y0 y1 y2 y3 y4 y5 y6
   unfold glue_Widths.j1
   repeat' first | (with_reducible first | exact ih0 _ _ _ _ _ _ _ _ _ | exact ih1 _ _ _ _ _ _ _ | exact ih2 _ _ _ _ _ _ _ _ _ _ _ _ | exact glue_Set.mono _ _ _ | exact glue_gives.mono _ _ _ _ _ _ _ _ _ | exact LeO.refl _ | exact LeO.none _ | refine LeO.ite ?_ ?_ | refine LeO.bind ?_ (fun _ => ?_)) | exact LeO.none _ | refine LeO.ite ?_ ?_ | refine LeO.bind ?_ (fun _ => ?_)
  ·intro y0 y1 y2 y3 y4 y5 y6 y7 y8 y9 y10 y11
   unfold glue_Widths.l1
   repeat' first | (with_reducible first | exact ih0 _ _ _ _ _ _ _ _ _ | exact ih1 _ _ _ _ _ _ _ | exact ih2 _ _ _ _ _ _ _ _ _ _ _ _ | exact glue_Set.mono _ _ _ | exact glue_gives.mono _ _ _ _ _ _ _ _ _ | exact LeO.refl _ | exact LeO.none _ | refine LeO.ite ?_ ?_ | refine LeO.bind ?_ (fun _ => ?_)) | exact LeO.none _ | refine LeO.ite ?_ ?_ | refine LeO.bind ?_ (fun _ => ?_)
theorem glue_Widths.mono : ∀ a0 a1 k, LeO (glue_Widths.f k a0 a1) (glue_Widths.f (k + 1) a0 a1) := by
 intro a0 a1 k
 obtain ⟨ih0, ih1, ih2⟩ := glue_Widths.mono_l k
 unfold glue_Widths.f
 repeat' first
   | (with_reducible exact ih0 _ _ _ _ _ _ _ _ _)
   | (with_reducible exact ih1 _ _ _ _ _ _ _)
   | (with_reducible exact ih2 _ _ _ _ _ _ _ _ _ _ _ _)
   | (with_reducible exact glue_Set.mono _ _ _)
   | (with_reducible exact glue_gives.mono _ _ _ _ _ _ _ _ _)
   | (with_reducible exact LeO.refl _)
   | (with_reducible exact LeO.none _)
   | (with_reducible refine LeO.ite ?_ ?_)
   | (with_reducible refine LeO.bind ?_ (fun _ => ?_))
   | exact ih0 _ _ _ _ _ _ _ _ _
   | exact ih1 _ _ _ _ _ _ _
   | exact ih2 _ _ _ _ _ _ _ _ _ _ _ _
   | exact glue_Set.mono _ _ _
   | exact glue_gives.mono _ _ _ _ _ _ _ _ _
   | exact LeO.none _
   | refine LeO.ite ?_ ?_
   | refine LeO.bind ?_ (fun _ => ?_)
set_option maxHeartbeats 8000000 in
set_option maxRecDepth 100000 in
theorem glue_Widths.calls (k : Nat) (A0 : Option Addr) (c0 : Nat) (l0 : List (S38)) (a1 : Int) (r1 : List Int) (r2 : Bool) (w : World) (hr0 : Kd.C k38 w A0 l0.length l0) (hc0 : l0.length ≤ c0) (h : glue_Widths.f k l0 a1 = some (r1, r2)) :
  Calls Try.prog 30 #[.slice A0 l0.length c0, .int .i64 a1] w fun e w' => ∃ v0_ : Value, e = .returned (.tuple #[v0_, .bool r2]) ∧ Kd.R (Kd.int .i64) 2 w' w.heap.size (fun _ => True) v0_ r1 ∧ Below w.heap.size w w' := by
 have hu56 := Try.underlying56
 have hu38 := Try.underlying38
 have HR0 := a_ hr0
 have HC0 := a_ hc0
 clear hr0 hc0
 have HB := a_ (Below.refl w.heap.size w)
 have H : ((glue_Set.f k l0 a1).bind fun bt189 => (if bt189.2.2.2.2 = true then (glue_Widths.l0 k l0 0 l0 (l0.length : Int) 0 bt189.1 bt189.2.1 bt189.2.2.1 bt189.2.2.2.1) else (some (([] : List Int), false)))) = some (r1, r2) := h
 clear h
 replace H := Option.bind_eq_some_iff.mp H
 obtain ⟨⟨t189, t190, t191, t192, t193⟩, A30, H⟩ := H
 replace H : (if t193 = true then (glue_Widths.l0 k l0 0 l0 (l0.length : Int) 0 t189 t190 t191 t192) else (some (([] : List Int), false))) = some (r1, r2) := H
 have A3 := a_ A30
 clear A30
 by_cases c4 : t193 = true
 ·subst c4
  have H1 : (glue_Widths.l0 k l0 0 l0 (l0.length : Int) 0 t189 t190 t191 t192) = some (r1, r2) := by rw [if_pos rfl] at H; exact H
  clear H
  have H := H1
  clear H1
  have H' := a_ H
  clear H
  go_enter Try.func30, Try.ntmps30
  go_wp2_with (first | ((with_reducible refine gate_callee (f := 44) rfl ?_); refine gl_ (some 22) Try.func44 (by kernel_rfl) #[.slice A0 l0.length c0, .int .i64 a1] ?_; (with_reducible refine (glue_Set.calls k _ _ l0 a1 t189 t190 t191 t192 true _ ?side1 ?side2 A3.out).mono ?_); (case side1 => repeat (first | exact HR0.out | (with_reducible refine Kd.C_alloc ?_ _) | (with_reducible refine Kd.C_drewN ?_ _) | (with_reducible refine Kd.C_drew ?_))); (case side2 => exact HC0.out); rintro e w5 ⟨rfl, hb⟩; refine ⟨_, rfl, ?_⟩; have n0_ := a_ (bs_ HB.out hb); clear HB; have HB := n0_; clear n0_; (try clear hb); (try clear hb2); (try clear hk); (try clear hi)) | ((with_reducible refine gate_dst (N := 6) rfl ?_); refine box_event ?hg (N := 6) ?hd (cs := #[.int .i64 0, .int .i64 0, .int .i64 0, .int .i64 0]) (t := 56) ?hr ?_; (case hd => rfl); (case hg => rfl); (case hr => first | (go_simp; done) | (go_simp; rfl)); intro gb194 hg w6 hbox hb; have n0_ := a_ (bs_ HB.out hb); have n1_ := a_ (hbox); have n2_ := a_ ((by rw [hg]; exact (below_size (bv_ HB.out)) : w.heap.size ≤ gb194)); have n3_ := a_ ((by rw [hg]; exact (below_size (bv_ HB.out)) : w.heap.size ≤ gb194)); clear HB; have HB := n0_; have BK194 := n1_; have GW194 := n2_; have GE194 := n3_; clear n0_ n1_ n2_ n3_; clear hb hbox hg; obtain ⟨⟨Z7_0, Y7_0⟩, ⟨Z7_1, Y7_1⟩, ⟨Z7_2, Y7_2⟩, Z7_3, Y7_3⟩ := cs4_ BK194.out))
  go_loopg [8, 29] k (fun kq v8 v29 w' => ∃ (x8_1 : Int) (x29_1 : Int), v8 = .int .i64 x8_1 ∧ v29 = .int .i64 x29_1 ∧ Aside0 (glue_Widths.l0 kq l0 x8_1 l0 (l0.length : Int) x29_1 t189 t190 t191 t192 = some (r1, r2)) ∧ Aside0 (kq ≤ k) ∧ Aside0 (w'.heap[gb194]? = some (.cells #[.int .i64 t189, .int .i64 t190, .int .i64 t191, .int .i64 t192] 56 (0, 0))) ∧ Aside0 (Below w.heap.size w w'))
  case atStart => exact ⟨(0), (0), (by first | rfl | (simp; done) | (simp [*]; done)), (by first | rfl | (simp; done) | (simp [*]; done)), H', ⟨Nat.le_refl _⟩, ⟨kp0_ BK194.out⟩, ⟨bS1_ HB.out GE194.out⟩⟩
  case round =>
   clear H'
   try clear p2
   try clear c3
   try clear c4
   try clear Z7_0
   try clear Z7_1
   try clear Z7_2
   try clear Z7_3
   try clear Y7_0
   try clear Y7_1
   try clear Y7_2
   try clear Y7_3
   obtain ⟨x8_1, x29_1, rfl, rfl, HA, HK1, BK194, HB⟩ := hrel
   cases gk with
   | zero => exact absurd HA.out (by simp [glue_Widths.l0])
   | succ k1 =>
    have H := HA.out
    clear HA
    simp only [glue_Widths.l0] at H
    by_cases c8 : x29_1 < (l0.length : Int)
    ·rw [if_pos c8] at H
     have c8b0 : decide (x29_1 < (l0.length : Int)) = true := decide_eq_true c8
     clear c8
     by_cases c9 : 0 ≤ x29_1
     ·rw [if_pos c9] at H
      have c9b0 : decide (0 ≤ x29_1) = true := decide_eq_true c9
      clear c9
      by_cases c10 : x29_1 < (l0.length : Int)
      ·rw [if_pos c10] at H
       have c10b0 : decide (x29_1 < (l0.length : Int)) = true := decide_eq_true c10
       clear c10
       replace H := Option.bind_eq_some_iff.mp H
       obtain ⟨t197, A110, H⟩ := H
       replace H : (glue_Widths.l0 k1 l0 (wrap64 (x8_1 + t197)) l0 (l0.length : Int) (wrap64 (x29_1 + 1)) t189 t190 t191 t192) = some (r1, r2) := H
       have A11 := a_ A110
       clear A110
       have H' := a_ H
       clear H
       have p195 : 0 ≤ (x29_1 : Int) := od_
       have q195 : x29_1 < (l0.length : Int) := od_
       obtain ⟨ad195, e195, hx195_0, hx195_1, hx195_2, hx195_3⟩ := at_T38 (Kd.C_below HR0.out HB.out) x29_1 p195 q195
       cases e195
       replace p195 := eq_true p195
       replace q195 := eq_true q195
       go_wp2_with (first | ((with_reducible refine gate_dst (N := 10) rfl ?_); refine box_event ?hg (N := 10) ?hd (cs := #[.int .i64 0, .int .i64 0, .int .i64 0, .int .i64 0]) (t := 38) ?hr ?_; (case hd => rfl); (case hg => rfl); (case hr => first | (go_simp; done) | (go_simp; rfl)); intro gb196 hg w12 hbox hb; have n0_ := a_ (kb_ BK194.out hb); have n1_ := a_ (below_step (bS1_ HB.out GE194.out) hb); have n2_ := a_ (hbox); have n3_ := a_ ((by rw [hg]; exact (below_size (bS1_ HB.out GE194.out)) : w.heap.size ≤ gb196)); have n4_ := a_ ((by rw [hg]; exact (below_size (bS1_ HB.out GE194.out)) : w.heap.size ≤ gb196)); have n5_ := a_ ((by rw [hg]; exact Nat.ne_of_lt (blk_lt (kv_ BK194.out)) : gb194 ≠ gb196)); have n6_ := a_ ((by rw [hg]; exact Nat.ne_of_gt (blk_lt (kv_ BK194.out)) : gb196 ≠ gb194)); clear BK194; clear HB; have BK194 := n0_; have HB := n1_; have BK196 := n2_; have GW196 := n3_; have GE196 := n4_; have NB194_196 := n5_; have NB196_194 := n6_; clear n0_ n1_ n2_ n3_ n4_ n5_ n6_; clear hb hbox hg; have hnb13 := NB196_194.out; have hnc13 := NB194_196.out; obtain ⟨⟨Z14_0, Y14_0⟩, ⟨Z14_1, Y14_1⟩, ⟨Z14_2, Y14_2⟩, Z14_3, Y14_3⟩ := cs4_ BK196.out; obtain ⟨⟨Z15_0, Y15_0⟩, ⟨Z15_1, Y15_1⟩, ⟨Z15_2, Y15_2⟩, Z15_3, Y15_3⟩ := cs4_ BK194.out) | ((with_reducible refine gate_callee (f := 46) rfl ?_); refine gl_ (some 36) Try.func46 (by kernel_rfl) #[.agg #[.int .i64 ((rd_T38 l0 x29_1).f0), .int .i64 ((rd_T38 l0 x29_1).f1), .int .i64 ((rd_T38 l0 x29_1).f2), .int .i64 ((rd_T38 l0 x29_1).f3)], .agg #[.int .i64 t189, .int .i64 t190, .int .i64 t191, .int .i64 t192]] ?_; (with_reducible refine (glue_gives.calls k1 ((rd_T38 l0 x29_1).f0) ((rd_T38 l0 x29_1).f1) ((rd_T38 l0 x29_1).f2) ((rd_T38 l0 x29_1).f3) t189 t190 t191 t192 t197 _ A11.out).mono ?_); rintro e w16 ⟨rfl, hb⟩; refine ⟨_, rfl, ?_⟩; have n0_ := a_ (blk_below (kf1_ BK194.out NB194_196.out) hb); have n1_ := a_ (blk_below (g := gb196) (o := .cells #[.int .i64 ((rd_T38 l0 x29_1).f0), .int .i64 ((rd_T38 l0 x29_1).f1), .int .i64 ((rd_T38 l0 x29_1).f2), .int .i64 ((rd_T38 l0 x29_1).f3)] 38 (0, 0)) (kp0_ BK196.out) hb); have n2_ := a_ (below_step (bS2_ HB.out GE194.out GE196.out) hb); clear BK194; clear BK196; clear HB; have BK194 := n0_; have BK196 := n1_; have HB := n2_; clear n0_ n1_ n2_; (try clear hb); (try clear hb2); (try clear hk); (try clear hi)))
       go_roundg k1
       case measure => have := HK1.out; omega
       case rel => exact ⟨(wrap64 (x8_1 + t197)), (wrap64 (x29_1 + 1)), (by first | rfl | (simp; done) | (simp [*]; done)), (by first | rfl | (simp; done) | (simp [*]; done)), H', ⟨by have := HK1.out; omega⟩, ⟨kv_ BK194.out⟩, ⟨bS2_ HB.out GE194.out GE196.out⟩⟩
      ·rw [if_neg c10] at H
       exact absurd H (by simp)
     ·rw [if_neg c9] at H
      exact absurd H (by simp)
    ·rw [if_neg c8] at H
     have c8b0 : decide (x29_1 < (l0.length : Int)) = false := decide_eq_false c8
     clear c8
     have HC17 := a_ H
     clear H
     obtain ⟨⟨Z18_0, Y18_0⟩, ⟨Z18_1, Y18_1⟩, ⟨Z18_2, Y18_2⟩, Z18_3, Y18_3⟩ := cs4_ BK194.out
     go_upto_if 43 with (fail)
     go_cut [11] (fun v11 wc => ∃ (kq : Nat) (x11_16 : Int), v11 = .int .i64 x11_16 ∧ Aside0 (glue_Widths.j1 kq l0 x8_1 x11_16 t189 t190 t191 t192 = some (r1, r2)) ∧ Aside0 (kq ≤ k1) ∧ Aside0 (wc.heap[gb194]? = some (.cells #[.int .i64 t189, .int .i64 t190, .int .i64 t191, .int .i64 t192] 56 (0, 0))) ∧ Aside0 (Below w.heap.size w wc))
     case first =>
      have H := HC17.out
      clear HC17
      by_cases c19 : t189 < 0
      ·rw [if_pos c19] at H
       have c19b0 : decide (t189 < 0) = true := decide_eq_true c19
       clear c19
       (first | rw [c19b0] | (simp only [i64_w, i32_w]; rw [c19b0]) | skip)
       obtain ⟨ji20, hji20⟩ : ∃ j_ : Int, (mn (wrap64 (-t191)) x8_1) = j_ := ⟨_, rfl⟩
       replace H : (glue_Widths.j1 k1 l0 x8_1 (wrap64 (-(ji20))) t189 t190 t191 t192) = some (r1, r2) := by first | (rw [hji20] at H; exact H) | (simp only [hji20] at H ⊢; exact H)
       have hji20_ : (if x8_1 < (wrap64 (-t191)) then x8_1 else (wrap64 (-t191))) = ji20 := hji20
       have H' := a_ H
       clear H
       go_wp2
       go_meet
       case rel => exact ⟨_, (wrap64 (-(ji20))), (by first | rfl | (simp; done) | (simp only [← hji20] <;> (first | rfl | simp)) | (simp [*]; done)), H', ⟨by have := HK1.out; first | omega | exact Nat.le_refl _⟩, ⟨kv_ BK194.out⟩, ⟨bS1_ HB.out GE194.out⟩⟩
      ·rw [if_neg c19] at H
       have c19b0 : decide (t189 < 0) = false := decide_eq_false c19
       clear c19
       (first | rw [c19b0] | (simp only [i64_w, i32_w]; rw [c19b0]) | skip)
       have H' := a_ H
       clear H
       go_wp2
       go_meet
       case rel => exact ⟨_, (t191), (by first | rfl | (simp; done) | (simp [*]; done)), H', ⟨by have := HK1.out; first | omega | exact Nat.le_refl _⟩, ⟨kv_ BK194.out⟩, ⟨bS1_ HB.out GE194.out⟩⟩
     case rest =>
      clear HC17
      try clear c1
      try clear p1
      try clear q1
      try clear hx1
      try clear p2
      try clear c3
      try clear c4
      try clear p6
      try clear c8
      try clear c8b0
      try clear c9
      try clear c9b0
      try clear c10
      try clear c10b0
      try clear c13
      try clear c19
      try clear c19b0
      try clear p19
      try clear q19
      try clear hx19
      try clear Z14_0
      try clear Z14_1
      try clear Z14_2
      try clear Z14_3
      try clear Z15_0
      try clear Z15_1
      try clear Z15_2
      try clear Z15_3
      try clear Z18_0
      try clear Z18_1
      try clear Z18_2
      try clear Z18_3
      try clear Z7_0
      try clear Z7_1
      try clear Z7_2
      try clear Z7_3
      try clear Y14_0
      try clear Y14_1
      try clear Y14_2
      try clear Y14_3
      try clear Y15_0
      try clear Y15_1
      try clear Y15_2
      try clear Y15_3
      try clear Y18_0
      try clear Y18_1
      try clear Y18_2
      try clear Y18_3
      try clear Y7_0
      try clear Y7_1
      try clear Y7_2
      try clear Y7_3
      try clear hx195_0
      try clear hx195_1
      try clear hx195_2
      try clear hx195_3
      try clear p195
      try clear p2
      try clear q195
      obtain ⟨kq, x11_16, rfl, HA, HJ16, BK194, HB⟩ := hcut
      cases kq with
      | zero => exact absurd HA.out (by simp [glue_Widths.j1])
      | succ kj16 =>
       have H := HA.out
       clear HA
       simp only [glue_Widths.j1] at H
       have H' := a_ H
       clear H
       go_wp2
       go_loopg [12, 13, 14, 51] kj16 (fun kq v12 v13 v14 v51 w' => ∃ (x12_3 : List Int) (x13_3 : Int) (x14_3 : Int) (x51_3 : Int), v13 = .int .i64 x13_3 ∧ v14 = .int .i64 x14_3 ∧ v51 = .int .i64 x51_3 ∧ Aside0 (glue_Widths.l1 kq x8_1 x11_16 x12_3 x13_3 x14_3 l0 (l0.length : Int) x51_3 t189 t190 t191 t192 = some (r1, r2)) ∧ Aside0 (kq ≤ kj16) ∧ Aside0 (Kd.R (Kd.int .i64) 2 w' w.heap.size (fun _ => True) v12 x12_3) ∧ Aside0 (w'.heap[gb194]? = some (.cells #[.int .i64 t189, .int .i64 t190, .int .i64 t191, .int .i64 t192] 56 (0, 0))) ∧ Aside0 (Below w.heap.size w w'))
       case atStart => exact ⟨(([] : List Int)), (0), (0), (0), (by first | rfl | (simp; done) | (simp [*]; done)), (by first | rfl | (simp; done) | (simp [*]; done)), (by first | rfl | (simp; done) | (simp [*]; done)), H', ⟨Nat.le_refl _⟩, ⟨by first | exact Kd.R_nil _ _ _ _ _ | exact Kd.N_nil _ _ _ _ _ | exact Kd.V_nil _ _ _ _ _ | exact Kd.Q_nil _ _ _ _ _ | exact Kd.S_nil _ _ _ _ _⟩, ⟨kv_ BK194.out⟩, ⟨bS1_ HB.out GE194.out⟩⟩
       case round =>
        clear H'
        try clear c1
        try clear p1
        try clear q1
        try clear hx1
        try clear p2
        try clear c3
        try clear c4
        try clear p6
        try clear c8
        try clear c8b0
        try clear c9
        try clear c9b0
        try clear c10
        try clear c10b0
        try clear c13
        try clear c19
        try clear c19b0
        try clear p19
        try clear q19
        try clear hx19
        try clear Z14_0
        try clear Z14_1
        try clear Z14_2
        try clear Z14_3
        try clear Z15_0
        try clear Z15_1
        try clear Z15_2
        try clear Z15_3
        try clear Z18_0
        try clear Z18_1
        try clear Z18_2
        try clear Z18_3
        try clear Z7_0
        try clear Z7_1
        try clear Z7_2
        try clear Z7_3
        try clear Y14_0
        try clear Y14_1
        try clear Y14_2
        try clear Y14_3
        try clear Y15_0
        try clear Y15_1
        try clear Y15_2
        try clear Y15_3
        try clear Y18_0
        try clear Y18_1
        try clear Y18_2
        try clear Y18_3
        try clear Y7_0
        try clear Y7_1
        try clear Y7_2
        try clear Y7_3
        try clear hx195_0
        try clear hx195_1
        try clear hx195_2
        try clear hx195_3
        try clear p1
        try clear p19
        try clear p195
        try clear p2
        try clear p6
        try clear q1
        try clear q19
        try clear q195
        obtain ⟨x12_3, x13_3, x14_3, x51_3, rfl, rfl, rfl, HA, HK3, HO_12, BK194, HB⟩ := hrel
        cases gk with
        | zero => exact absurd HA.out (by simp [glue_Widths.l1])
        | succ k3 =>
         have H := HA.out
         clear HA
         simp only [glue_Widths.l1] at H
         by_cases c21 : x51_3 < (l0.length : Int)
         ·rw [if_pos c21] at H
          have c21b0 : decide (x51_3 < (l0.length : Int)) = true := decide_eq_true c21
          clear c21
          by_cases c22 : 0 ≤ x51_3
          ·rw [if_pos c22] at H
           have c22b0 : decide (0 ≤ x51_3) = true := decide_eq_true c22
           clear c22
           by_cases c23 : x51_3 < (l0.length : Int)
           ·rw [if_pos c23] at H
            have c23b0 : decide (x51_3 < (l0.length : Int)) = true := decide_eq_true c23
            clear c23
            by_cases c24 : x8_1 > 0
            ·rw [if_pos c24] at H
             have c24b0 : decide (0 < x8_1) = true := decide_eq_true c24
             clear c24
             replace H := Option.bind_eq_some_iff.mp H
             obtain ⟨t200, A250, H⟩ := H
             replace H : (if x8_1 = 0 then (none) else (if x12_3.length < 17592186044416 then (glue_Widths.l1 k3 x8_1 x11_16 (x12_3 ++ [wrap64 (((rd_T38 l0 x51_3).f0) + (wrap64 ((wrap64 (Int.tdiv (wrap64 (x11_16 * (wrap64 (x13_3 + t200)))) x8_1)) - x14_3)))]) (wrap64 (x13_3 + t200)) (wrap64 (Int.tdiv (wrap64 (x11_16 * (wrap64 (x13_3 + t200)))) x8_1)) l0 (l0.length : Int) (wrap64 (x51_3 + 1)) t189 t190 t191 t192) else (none))) = some (r1, r2) := H
             have A25 := a_ A250
             clear A250
             by_cases c26 : x8_1 = 0
             ·rw [if_pos c26] at H
              exact absurd H (by simp)
             ·rw [if_neg c26] at H
              have c26b0 : (x8_1 == 0) = false := beq_eq_false_iff_ne.mpr c26
              have c26b1 : (x8_1 != 0) = true := bne_iff_ne.mpr c26
              by_cases c27 : x12_3.length < 17592186044416
              ·rw [if_pos c27] at H
               have LMc27 := a_ c27
               clear c27
               obtain ⟨y201, hy201⟩ : ∃ y_ : List Int, y_ = (x12_3 ++ [wrap64 (((rd_T38 l0 x51_3).f0) + (wrap64 ((wrap64 (Int.tdiv (wrap64 (x11_16 * (wrap64 (x13_3 + t200)))) x8_1)) - x14_3)))]) := ⟨_, rfl⟩
               replace H : (glue_Widths.l1 k3 x8_1 x11_16 y201 (wrap64 (x13_3 + t200)) (wrap64 (Int.tdiv (wrap64 (x11_16 * (wrap64 (x13_3 + t200)))) x8_1)) l0 (l0.length : Int) (wrap64 (x51_3 + 1)) t189 t190 t191 t192) = some (r1, r2) := by first | (rw [hy201]; with_reducible exact H) | (have H2_ := (Option.bind_some _ _).symm.trans H; rw [hy201]; with_reducible exact H2_) | (have H2_ := (Option.bind_some _ _).symm.trans H; with_reducible exact H2_) | with_reducible exact H | (rw [hy201]; exact H) | exact H
               have Ny201 := a_ hy201
               clear hy201
               have H' := a_ H
               clear H
               have p198 : 0 ≤ (x51_3 : Int) := od_
               have q198 : x51_3 < (l0.length : Int) := od_
               obtain ⟨ad198, e198, hx198_0, hx198_1, hx198_2, hx198_3⟩ := at_T38 (Kd.C_below HR0.out HB.out) x51_3 p198 q198
               cases e198
               replace p198 := eq_true p198
               replace q198 := eq_true q198
               go_wp2_with (first | ((with_reducible refine gate_dst (N := 16) rfl ?_); refine box_event ?hg (N := 16) ?hd (cs := #[.int .i64 0, .int .i64 0, .int .i64 0, .int .i64 0]) (t := 38) ?hr ?_; (case hd => rfl); (case hg => rfl); (case hr => first | (go_simp; done) | (go_simp; rfl)); intro gb199 hg w28 hbox hb; have n0_ := a_ (Kd.R_below (rv_ HO_12.out) hb); have n1_ := a_ (kb_ BK194.out hb); have n2_ := a_ (below_step (bS1_ HB.out GE194.out) hb); have n3_ := a_ (hbox); have n4_ := a_ ((by rw [hg]; exact (below_size (bS1_ HB.out GE194.out)) : w.heap.size ≤ gb199)); have n5_ := a_ ((by rw [hg]; exact (below_size (bS1_ HB.out GE194.out)) : w.heap.size ≤ gb199)); have n6_ := a_ ((by rw [hg]; exact Nat.ne_of_lt (blk_lt (kv_ BK194.out)) : gb194 ≠ gb199)); have n7_ := a_ ((by rw [hg]; exact Nat.ne_of_gt (blk_lt (kv_ BK194.out)) : gb199 ≠ gb194)); clear HO_12; clear BK194; clear HB; have HO_12 := n0_; have BK194 := n1_; have HB := n2_; have BK199 := n3_; have GW199 := n4_; have GE199 := n5_; have NB194_199 := n6_; have NB199_194 := n7_; clear n0_ n1_ n2_ n3_ n4_ n5_ n6_ n7_; clear hb hbox hg; have hnb29 := NB199_194.out; have hnc29 := NB194_199.out; obtain ⟨⟨Z30_0, Y30_0⟩, ⟨Z30_1, Y30_1⟩, ⟨Z30_2, Y30_2⟩, Z30_3, Y30_3⟩ := cs4_ BK199.out; obtain ⟨⟨Z31_0, Y31_0⟩, ⟨Z31_1, Y31_1⟩, ⟨Z31_2, Y31_2⟩, Z31_3, Y31_3⟩ := cs4_ BK194.out) | ((with_reducible refine gate_callee (f := 46) rfl ?_); refine gl_ (some 62) Try.func46 (by kernel_rfl) #[.agg #[.int .i64 ((rd_T38 l0 x51_3).f0), .int .i64 ((rd_T38 l0 x51_3).f1), .int .i64 ((rd_T38 l0 x51_3).f2), .int .i64 ((rd_T38 l0 x51_3).f3)], .agg #[.int .i64 t189, .int .i64 t190, .int .i64 t191, .int .i64 t192]] ?_; (with_reducible refine (glue_gives.calls k3 ((rd_T38 l0 x51_3).f0) ((rd_T38 l0 x51_3).f1) ((rd_T38 l0 x51_3).f2) ((rd_T38 l0 x51_3).f3) t189 t190 t191 t192 t200 _ A25.out).mono ?_); rintro e w32 ⟨rfl, hb⟩; refine ⟨_, rfl, ?_⟩; have n0_ := a_ (Kd.R_below (by (with_reducible repeat (first | apply Kd.R_alloc | apply Kd.R_drewN | apply Kd.R_drew)); exact (Kd.R_mono (Kd.R_far (p := ⟨gb199, 3, none⟩) (Kd.R_far (p := ⟨gb199, 2, none⟩) (Kd.R_far (p := ⟨gb199, 1, none⟩) (Kd.R_far (p := ⟨gb199, 0, none⟩) (Kd.R_types HO_12.out BK199.out (by decide)) (fun _ hk => hk.2) (.int .i64 ((rd_T38 l0 x51_3).f0))) (fun _ hk => hk.2) (.int .i64 ((rd_T38 l0 x51_3).f1))) (fun _ hk => hk.2) (.int .i64 ((rd_T38 l0 x51_3).f2))) (fun _ hk => hk.2) (.int .i64 ((rd_T38 l0 x51_3).f3))) (fun _ h_ => h_.1))) hb); have n1_ := a_ (blk_below (kf1_ BK194.out NB194_199.out) hb); have n2_ := a_ (blk_below (g := gb199) (o := .cells #[.int .i64 ((rd_T38 l0 x51_3).f0), .int .i64 ((rd_T38 l0 x51_3).f1), .int .i64 ((rd_T38 l0 x51_3).f2), .int .i64 ((rd_T38 l0 x51_3).f3)] 38 (0, 0)) (kp0_ BK199.out) hb); have n3_ := a_ (below_step (bS2_ HB.out GE194.out GE199.out) hb); clear HO_12; clear BK194; clear BK199; clear HB; have HO_12 := n0_; have BK194 := n1_; have BK199 := n2_; have HB := n3_; clear n0_ n1_ n2_ n3_; (try clear hb); (try clear hb2); (try clear hk); (try clear hi)) | ((with_reducible refine gate_builtin (b := .append) (xs := #[.tmp 75, .tmp 77]) rfl ?_); at_builtin; refine Kd.R_append (Kd.int .i64) (w0 := w) w.heap.size rfl (.tmp 75) (.tmp 77) 67 2 (.int .i64 0) 8 rfl Try.underlying67 info2 rfl (by decide) (by omega) u12 x12_3 (wrap64 (((rd_T38 l0 x51_3).f0) + (wrap64 ((wrap64 (Int.tdiv (wrap64 (x11_16 * (wrap64 (x13_3 + t200)))) x8_1)) - x14_3)))) [.int .i64 (wrap64 (((rd_T38 l0 x51_3).f0) + (wrap64 ((wrap64 (Int.tdiv (wrap64 (x11_16 * (wrap64 (x13_3 + t200)))) x8_1)) - x14_3))))] (fun _ => True) (fun _ => False) rfl rfl ?aP (fun _ hk => hk.elim) ?aF ?aO ?aB ?aS ?aL ?_; (case aP => exact rfl); (case aB => exact (bS2_ HB.out GE194.out GE199.out)); (case aF => exact (fun _ _ => trivial)); (case aO => exact (rv_ HO_12.out)); (case aS => exact (below_size (bS2_ HB.out GE194.out GE199.out))); (case aL => have := LMc27.out; omega); intro v202 w33 ho hb hg hat; rw [← Ny201.out] at ho; have n0_ := a_ (blk_grown (g := gb194) (o := .cells #[.int .i64 t189, .int .i64 t190, .int .i64 t191, .int .i64 t192] 56 (0, 0)) (kv_ BK194.out) hg (Kd.R_ne HO_12.out BK194.out (by decide))); have n1_ := a_ (blk_grown (g := gb199) (o := .cells #[.int .i64 ((rd_T38 l0 x51_3).f0), .int .i64 ((rd_T38 l0 x51_3).f1), .int .i64 ((rd_T38 l0 x51_3).f2), .int .i64 ((rd_T38 l0 x51_3).f3)] 38 (0, 0)) (kv_ BK199.out) hg (Kd.R_ne HO_12.out BK199.out (by decide))); have n2_ := a_ (hb); have n3_ := a_ (ho); clear BK194; clear BK199; clear HB; clear HO_12; have BK194 := n0_; have BK199 := n1_; have HB := n2_; have HO203 := n3_; clear n0_ n1_ n2_ n3_; clear ho hb hg hat))
               go_roundg k3
               case measure => have := HK1.out; have := HJ16.out; have := HK3.out; omega
               case rel => exact ⟨(y201), (wrap64 (x13_3 + t200)), (wrap64 (Int.tdiv (wrap64 (x11_16 * (wrap64 (x13_3 + t200)))) x8_1)), (wrap64 (x51_3 + 1)), (by first | rfl | (simp; done) | (simp [*]; done)), (by first | rfl | (simp; done) | (simp [*]; done)), (by first | rfl | (simp; done) | (simp [*]; done)), H', ⟨by have := HK1.out; have := HJ16.out; have := HK3.out; omega⟩, ⟨by (with_reducible repeat (first | apply Kd.R_alloc | apply Kd.R_drewN | apply Kd.R_drew)); exact HO203.out⟩, ⟨kv_ BK194.out⟩, ⟨bS2_ HB.out GE194.out GE199.out⟩⟩
              ·rw [if_neg c27] at H
               exact absurd H (by simp)
            ·rw [if_neg c24] at H
             have c24b0 : decide (0 < x8_1) = false := decide_eq_false c24
             clear c24
             by_cases c34 : x12_3.length < 17592186044416
             ·rw [if_pos c34] at H
              have LMc34 := a_ c34
              clear c34
              obtain ⟨y204, hy204⟩ : ∃ y_ : List Int, y_ = (x12_3 ++ [(rd_T38 l0 x51_3).f0]) := ⟨_, rfl⟩
              replace H : (glue_Widths.l1 k3 x8_1 x11_16 y204 x13_3 x14_3 l0 (l0.length : Int) (wrap64 (x51_3 + 1)) t189 t190 t191 t192) = some (r1, r2) := by first | (rw [hy204]; with_reducible exact H) | (have H2_ := (Option.bind_some _ _).symm.trans H; rw [hy204]; with_reducible exact H2_) | (have H2_ := (Option.bind_some _ _).symm.trans H; with_reducible exact H2_) | with_reducible exact H | (rw [hy204]; exact H) | exact H
              have Ny204 := a_ hy204
              clear hy204
              have H' := a_ H
              clear H
              have p198 : 0 ≤ (x51_3 : Int) := od_
              have q198 : x51_3 < (l0.length : Int) := od_
              obtain ⟨ad198, e198, hx198_0, hx198_1, hx198_2, hx198_3⟩ := at_T38 (Kd.C_below HR0.out HB.out) x51_3 p198 q198
              cases e198
              replace p198 := eq_true p198
              replace q198 := eq_true q198
              go_wp2_with (first | ((with_reducible refine gate_dst (N := 16) rfl ?_); refine box_event ?hg (N := 16) ?hd (cs := #[.int .i64 0, .int .i64 0, .int .i64 0, .int .i64 0]) (t := 38) ?hr ?_; (case hd => rfl); (case hg => rfl); (case hr => first | (go_simp; done) | (go_simp; rfl)); intro gb199 hg w35 hbox hb; have n0_ := a_ (Kd.R_below (rv_ HO_12.out) hb); have n1_ := a_ (kb_ BK194.out hb); have n2_ := a_ (below_step (bS1_ HB.out GE194.out) hb); have n3_ := a_ (hbox); have n4_ := a_ ((by rw [hg]; exact (below_size (bS1_ HB.out GE194.out)) : w.heap.size ≤ gb199)); have n5_ := a_ ((by rw [hg]; exact (below_size (bS1_ HB.out GE194.out)) : w.heap.size ≤ gb199)); have n6_ := a_ ((by rw [hg]; exact Nat.ne_of_lt (blk_lt (kv_ BK194.out)) : gb194 ≠ gb199)); have n7_ := a_ ((by rw [hg]; exact Nat.ne_of_gt (blk_lt (kv_ BK194.out)) : gb199 ≠ gb194)); clear HO_12; clear BK194; clear HB; have HO_12 := n0_; have BK194 := n1_; have HB := n2_; have BK199 := n3_; have GW199 := n4_; have GE199 := n5_; have NB194_199 := n6_; have NB199_194 := n7_; clear n0_ n1_ n2_ n3_ n4_ n5_ n6_ n7_; clear hb hbox hg; have hnb36 := NB199_194.out; have hnc36 := NB194_199.out; obtain ⟨⟨Z37_0, Y37_0⟩, ⟨Z37_1, Y37_1⟩, ⟨Z37_2, Y37_2⟩, Z37_3, Y37_3⟩ := cs4_ BK199.out) | ((with_reducible refine gate_builtin (b := .append) (xs := #[.tmp 75, .tmp 77]) rfl ?_); at_builtin; refine Kd.R_append (Kd.int .i64) (w0 := w) w.heap.size rfl (.tmp 75) (.tmp 77) 67 2 (.int .i64 0) 8 rfl Try.underlying67 info2 rfl (by decide) (by omega) u12 x12_3 ((rd_T38 l0 x51_3).f0) [.int .i64 ((rd_T38 l0 x51_3).f0)] (fun _ => True) (fun _ => False) rfl (by first | (go_simp; done) | (go_simp; rfl)) ?aP (fun _ hk => hk.elim) ?aF ?aO ?aB ?aS ?aL ?_; (case aP => exact rfl); (case aB => exact (bS2_ HB.out GE194.out GE199.out)); (case aF => exact (fun _ _ => trivial)); (case aO => exact (by (with_reducible repeat (first | apply Kd.R_alloc | apply Kd.R_drewN | apply Kd.R_drew)); exact Kd.R_mono (Kd.R_far (p := ⟨gb199, 3, none⟩) (Kd.R_far (p := ⟨gb199, 2, none⟩) (Kd.R_far (p := ⟨gb199, 1, none⟩) (Kd.R_far (p := ⟨gb199, 0, none⟩) (Kd.R_types HO_12.out BK199.out (by decide)) (fun _ hk => hk.2) (.int .i64 ((rd_T38 l0 x51_3).f0))) (fun _ hk => hk.2) (.int .i64 ((rd_T38 l0 x51_3).f1))) (fun _ hk => hk.2) (.int .i64 ((rd_T38 l0 x51_3).f2))) (fun _ hk => hk.2) (.int .i64 ((rd_T38 l0 x51_3).f3))) (fun _ hk => trivial))); (case aS => exact (below_size (bS2_ HB.out GE194.out GE199.out))); (case aL => have := LMc34.out; omega); intro v205 w38 ho hb hg hat; rw [← Ny204.out] at ho; have n0_ := a_ (blk_grown (g := gb194) (o := .cells #[.int .i64 t189, .int .i64 t190, .int .i64 t191, .int .i64 t192] 56 (0, 0)) (kf1_ BK194.out NB194_199.out) hg (Kd.R_ne HO_12.out BK194.out (by decide))); have n1_ := a_ (blk_grown (g := gb199) (o := .cells #[.int .i64 ((rd_T38 l0 x51_3).f0), .int .i64 ((rd_T38 l0 x51_3).f1), .int .i64 ((rd_T38 l0 x51_3).f2), .int .i64 ((rd_T38 l0 x51_3).f3)] 38 (0, 0)) (kp0_ BK199.out) hg (Kd.R_ne HO_12.out BK199.out (by decide))); have n2_ := a_ (hb); have n3_ := a_ (ho); clear BK194; clear BK199; clear HB; clear HO_12; have BK194 := n0_; have BK199 := n1_; have HB := n2_; have HO206 := n3_; clear n0_ n1_ n2_ n3_; clear ho hb hg hat))
              go_roundg k3
              case measure => have := HK1.out; have := HJ16.out; have := HK3.out; omega
              case rel => exact ⟨(y204), (x13_3), (x14_3), (wrap64 (x51_3 + 1)), (by first | rfl | (simp; done) | (simp [*]; done)), (by first | rfl | (simp; done) | (simp [*]; done)), (by first | rfl | (simp; done) | (simp [*]; done)), H', ⟨by have := HK1.out; have := HJ16.out; have := HK3.out; omega⟩, ⟨by (with_reducible repeat (first | apply Kd.R_alloc | apply Kd.R_drewN | apply Kd.R_drew)); exact HO206.out⟩, ⟨kv_ BK194.out⟩, ⟨bS2_ HB.out GE194.out GE199.out⟩⟩
             ·rw [if_neg c34] at H
              exact absurd H (by simp)
           ·rw [if_neg c23] at H
            exact absurd H (by simp)
          ·rw [if_neg c22] at H
           exact absurd H (by simp)
         ·rw [if_neg c21] at H
          have c21b0 : decide (x51_3 < (l0.length : Int)) = false := decide_eq_false c21
          clear c21
          simp only [Option.some.injEq, Prod.mk.injEq] at H
          obtain ⟨rfl, rfl⟩ := H
          go_wp2
          go_ret2
          exact ⟨_, by first | rfl | (simp [errW_none, errW_some] <;> rfl) | (simp [*, errW_none, errW_some] <;> rfl), by (with_reducible repeat (first | apply Kd.R_alloc | apply Kd.R_drewN | apply Kd.R_drew)); exact HO_12.out, bS1_ HB.out GE194.out⟩
 ·replace c4 := Bool.eq_false_iff.mpr c4
  subst c4
  have H1 : (some (([] : List Int), false)) = some (r1, r2) := by rw [if_neg (show ¬ (false = true) by decide)] at H; exact H
  clear H
  have H := H1
  clear H1
  simp only [Option.some.injEq, Prod.mk.injEq] at H
  obtain ⟨rfl, rfl⟩ := H
  go_enter Try.func30, Try.ntmps30
  go_wp2_with (first | ((with_reducible refine gate_callee (f := 44) rfl ?_); refine gl_ (some 22) Try.func44 (by kernel_rfl) #[.slice A0 l0.length c0, .int .i64 a1] ?_; (with_reducible refine (glue_Set.calls k _ _ l0 a1 t189 t190 t191 t192 false _ ?side1 ?side2 A3.out).mono ?_); (case side1 => repeat (first | exact HR0.out | (with_reducible refine Kd.C_alloc ?_ _) | (with_reducible refine Kd.C_drewN ?_ _) | (with_reducible refine Kd.C_drew ?_))); (case side2 => exact HC0.out); rintro e w39 ⟨rfl, hb⟩; refine ⟨_, rfl, ?_⟩; have n0_ := a_ (bs_ HB.out hb); clear HB; have HB := n0_; clear n0_; (try clear hb); (try clear hb2); (try clear hk); (try clear hi)) | ((with_reducible refine gate_dst (N := 6) rfl ?_); refine box_event ?hg (N := 6) ?hd (cs := #[.int .i64 0, .int .i64 0, .int .i64 0, .int .i64 0]) (t := 56) ?hr ?_; (case hd => rfl); (case hg => rfl); (case hr => first | (go_simp; done) | (go_simp; rfl)); intro gb194 hg w40 hbox hb; have n0_ := a_ (bs_ HB.out hb); have n1_ := a_ (hbox); have n2_ := a_ ((by rw [hg]; exact (below_size (bv_ HB.out)) : w.heap.size ≤ gb194)); have n3_ := a_ ((by rw [hg]; exact (below_size (bv_ HB.out)) : w.heap.size ≤ gb194)); clear HB; have HB := n0_; have BK194 := n1_; have GW194 := n2_; have GE194 := n3_; clear n0_ n1_ n2_ n3_; clear hb hbox hg; obtain ⟨⟨Z41_0, Y41_0⟩, ⟨Z41_1, Y41_1⟩, ⟨Z41_2, Y41_2⟩, Z41_3, Y41_3⟩ := cs4_ BK194.out))
  go_ret2
  exact ⟨_, by first | rfl | (simp [errW_none, errW_some] <;> rfl) | (simp [*, errW_none, errW_some] <;> rfl), by first | exact Kd.R_nil _ _ _ _ _ | exact Kd.N_nil _ _ _ _ _ | exact Kd.V_nil _ _ _ _ _ | exact Kd.Q_nil _ _ _ _ _ | exact Kd.S_nil _ _ _ _ _, bS1_ HB.out GE194.out⟩

end Go.Proofs.Ytpfnfofaajpdmaa.PWi

/- Written by a program of this session: functions of the given program as plain Lean functions, the walks that show it, and the row of each law, for every input that its statement speaks of. -/
import Derived.Test.YtpfnfofaajpdmaaPWix0
import Derived.Test.YtpfnfofaajpdmaaPWix15
import Derived.Test.YtpfnfofaajpdmaaPWix16
namespace Go.Proofs.Ytpfnfofaajpdmaa.PWi
open Go.RowKit Go.Proofs.YtpfnfofaajpdmaaW.PrintWords Go.Proofs.YtpfnfofaajpdmaaW.PrintLast Go.Proofs.YtpfnfofaajpdmaaW.PrintMore
attribute [local go_sem] max2_int min2_int max_two min_two max_three min_three max_four min_four   -- for this text's walks alone
set_option linter.unusedVariables false
set_option linter.unusedSimpArgs false

/-! ### variorumref03_Set: function 35 -/
def variorumref03_Set.j0 : Nat → Int → Bool → Int → Int → Int → Int → Int → Int → Int → Int → Int → Int → Option (Int × Int × Int × Int × Bool)
 | 0, _, _, _, _, _, _, _, _, _, _, _, _ => none
 | k + 1, x9, x31, x351000, x351001, x351002, x351003, x359000, x359001, x359002, x359003, x359004, x359005 => if x31 = true then (some (x351000, x351001, x351002, x351003, false)) else (if x9 = 0 then (some (x351000, x351001, x351002, x351003, true)) else (if x9 < 0 then ((variorumref03_Badness.f k (wrap64 (-x9)) x359001).bind fun t361 => (if x359001 < (wrap64 (-x9)) then (some ((-1), 0, x9, 1000000, true)) else (some ((-1), 0, x9, t361, true)))) else (if x359005 > 0 then (some (1, 3, x9, 0, true)) else (if x359004 > 0 then (some (1, 2, x9, 0, true)) else (if x359003 > 0 then (some (1, 1, x9, 0, true)) else (if x359002 > 0 then ((variorumref03_Badness.f k x9 x359002).bind fun t362 => (some (1, 0, x9, t362, true))) else (some (0, 0, x9, 10000, true))))))))
def variorumref03_Set.f (k : Nat) (l0 : List (S38)) (a1 : Int) : Option (Int × Int × Int × Int × Bool) := (variorumref03_Total.f k l0).bind fun bt351 => ((variorumref02_Sub.f a1 bt351.1).bind fun bt359 => (if bt351.2.2.2.2.2.2 = true then (variorumref03_Set.j0 k bt359.1 (!bt359.2) 0 0 0 0 bt351.1 bt351.2.1 bt351.2.2.1 bt351.2.2.2.1 bt351.2.2.2.2.1 bt351.2.2.2.2.2.1) else (variorumref03_Set.j0 k bt359.1 true 0 0 0 0 bt351.1 bt351.2.1 bt351.2.2.1 bt351.2.2.2.1 bt351.2.2.2.2.1 bt351.2.2.2.2.2.1)))
theorem variorumref03_Set.mono_l : ∀ k, (∀ y0 y1 y2 y3 y4 y5 y6 y7 y8 y9 y10 y11, LeO (variorumref03_Set.j0 k y0 y1 y2 y3 y4 y5 y6 y7 y8 y9 y10 y11) (variorumref03_Set.j0 (k + 1) y0 y1 y2 y3 y4 y5 y6 y7 y8 y9 y10 y11))
 | 0 => fun _ _ _ _ _ _ _ _ _ _ _ _ r h => by simp [variorumref03_Set.j0] at h
 | k + 1 => by
  have ih0 := variorumref03_Set.mono_l k
  ·intro y0 y1 y2 y3 y4 y5 y6 y7 y8 y9 y10 y11
   unfold variorumref03_Set.j0
   repeat' first | (with_reducible first | exact ih0 _ _ _ _ _ _ _ _ _ _ _ _ | exact variorumref03_Badness.mono _ _ _ | exact variorumref03_Total.mono _ _ | exact LeO.refl _ | exact LeO.none _ | refine LeO.ite ?_ ?_ | refine LeO.bind ?_ (fun _ => ?_)) | exact LeO.none _ | refine LeO.ite ?_ ?_ | refine LeO.bind ?_ (fun _ => ?_)
theorem variorumref03_Set.mono : ∀ a0 a1 k, LeO (variorumref03_Set.f k a0 a1) (variorumref03_Set.f (k + 1) a0 a1) := by
 intro a0 a1 k
 have ih0 := variorumref03_Set.mono_l k
 unfold variorumref03_Set.f
 repeat' first
   | (with_reducible exact ih0 _ _ _ _ _ _ _ _ _ _ _ _)
   | (with_reducible exact variorumref03_Badness.mono _ _ _)
   | (with_reducible exact variorumref03_Total.mono _ _)
   | (with_reducible exact LeO.refl _)
   | (with_reducible exact LeO.none _)
   | (with_reducible refine LeO.ite ?_ ?_)
   | (with_reducible refine LeO.bind ?_ (fun _ => ?_))
   | exact ih0 _ _ _ _ _ _ _ _ _ _ _ _
   | exact variorumref03_Badness.mono _ _ _
   | exact variorumref03_Total.mono _ _
   | exact LeO.none _
   | refine LeO.ite ?_ ?_
   | refine LeO.bind ?_ (fun _ => ?_)
set_option maxHeartbeats 8000000 in
set_option maxRecDepth 100000 in
theorem variorumref03_Set.calls (k : Nat) (A0 : Option Addr) (c0 : Nat) (l0 : List (S38)) (a1 : Int) (r1 : Int) (r2 : Int) (r3 : Int) (r4 : Int) (r5 : Bool) (w : World) (hr0 : Kd.C k38 w A0 l0.length l0) (hc0 : l0.length ≤ c0) (h : variorumref03_Set.f k l0 a1 = some (r1, r2, r3, r4, r5)) :
  Calls Try.prog 35 #[.slice A0 l0.length c0, .int .i64 a1] w fun e w' => e = .returned (.tuple #[.agg #[.int .i64 r1, .int .i64 r2, .int .i64 r3, .int .i64 r4], .bool r5]) ∧ Below w.heap.size w w' := by
 have hu56 := Try.underlying56
 have hu87 := Try.underlying87
 have HR0 := a_ hr0
 have HC0 := a_ hc0
 clear hr0 hc0
 have HB := a_ (Below.refl w.heap.size w)
 have H : ((variorumref03_Total.f k l0).bind fun bt351 => ((variorumref02_Sub.f a1 bt351.1).bind fun bt359 => (if bt351.2.2.2.2.2.2 = true then (variorumref03_Set.j0 k bt359.1 (!bt359.2) 0 0 0 0 bt351.1 bt351.2.1 bt351.2.2.1 bt351.2.2.2.1 bt351.2.2.2.2.1 bt351.2.2.2.2.2.1) else (variorumref03_Set.j0 k bt359.1 true 0 0 0 0 bt351.1 bt351.2.1 bt351.2.2.1 bt351.2.2.2.1 bt351.2.2.2.2.1 bt351.2.2.2.2.2.1)))) = some (r1, r2, r3, r4, r5) := h
 clear h
 replace H := Option.bind_eq_some_iff.mp H
 obtain ⟨⟨t351, t352, t353, t354, t355, t356, t357⟩, A30, H⟩ := H
 replace H : ((variorumref02_Sub.f a1 t351).bind fun bt359 => (if t357 = true then (variorumref03_Set.j0 k bt359.1 (!bt359.2) 0 0 0 0 t351 t352 t353 t354 t355 t356) else (variorumref03_Set.j0 k bt359.1 true 0 0 0 0 t351 t352 t353 t354 t355 t356))) = some (r1, r2, r3, r4, r5) := H
 have A3 := a_ A30
 clear A30
 replace H := Option.bind_eq_some_iff.mp H
 obtain ⟨⟨t359, t360⟩, A40, H⟩ := H
 replace H : (if t357 = true then (variorumref03_Set.j0 k t359 (!t360) 0 0 0 0 t351 t352 t353 t354 t355 t356) else (variorumref03_Set.j0 k t359 true 0 0 0 0 t351 t352 t353 t354 t355 t356)) = some (r1, r2, r3, r4, r5) := H
 have A4 := a_ A40
 clear A40
 have HC5 := a_ H
 clear H
 go_enter Try.func35, Try.ntmps35
 go_upto_region 4 with (first | ((with_reducible refine gate_dst (N := 4) rfl ?_); refine box_event ?hg (N := 4) ?hd (cs := #[.int .i64 0, .int .i64 0, .int .i64 0, .int .i64 0]) (t := 56) ?hr ?_; (case hd => rfl); (case hg => rfl); (case hr => first | (go_simp; done) | (go_simp; rfl)); intro gb349 hg w6 hbox hb; have n0_ := a_ (bs_ HB.out hb); have n1_ := a_ (hbox); have n2_ := a_ ((by rw [hg]; exact (below_size (bv_ HB.out)) : w.heap.size ≤ gb349)); have n3_ := a_ ((by rw [hg]; exact (below_size (bv_ HB.out)) : w.heap.size ≤ gb349)); clear HB; have HB := n0_; have BK349 := n1_; have GW349 := n2_; have GE349 := n3_; clear n0_ n1_ n2_ n3_; clear hb hbox hg) | ((with_reducible refine gate_dst (N := 6) rfl ?_); refine box_event ?hg (N := 6) ?hd (cs := #[.int .i64 0, .int .i64 0, .int .i64 0, .int .i64 0]) (t := 56) ?hr ?_; (case hd => rfl); (case hg => rfl); (case hr => first | (go_simp; done) | (go_simp; rfl)); intro gb350 hg w7 hbox hb; have n0_ := a_ (kb_ BK349.out hb); have n1_ := a_ (below_step (bS1_ HB.out GE349.out) hb); have n2_ := a_ (hbox); have n3_ := a_ ((by rw [hg]; exact (below_size (bS1_ HB.out GE349.out)) : w.heap.size ≤ gb350)); have n4_ := a_ ((by rw [hg]; exact (below_size (bS1_ HB.out GE349.out)) : w.heap.size ≤ gb350)); have n5_ := a_ ((by rw [hg]; exact Nat.ne_of_lt (blk_lt (kv_ BK349.out)) : gb349 ≠ gb350)); have n6_ := a_ ((by rw [hg]; exact Nat.ne_of_gt (blk_lt (kv_ BK349.out)) : gb350 ≠ gb349)); clear BK349; clear HB; have BK349 := n0_; have HB := n1_; have BK350 := n2_; have GW350 := n3_; have GE350 := n4_; have NB349_350 := n5_; have NB350_349 := n6_; clear n0_ n1_ n2_ n3_ n4_ n5_ n6_; clear hb hbox hg; have hnb8 := NB350_349.out; have hnc8 := NB349_350.out; obtain ⟨⟨Z9_0, Y9_0⟩, ⟨Z9_1, Y9_1⟩, ⟨Z9_2, Y9_2⟩, Z9_3, Y9_3⟩ := cs4_ BK350.out) | ((with_reducible refine gate_callee (f := 47) rfl ?_); refine gl_ (some 16) Try.func47 (by kernel_rfl) #[.slice A0 l0.length c0] ?_; (with_reducible refine (variorumref03_Total.calls k _ _ l0 t351 t352 t353 t354 t355 t356 t357 _ ?side1 ?side2 A3.out).mono ?_); (case side1 => exact Kd.C_below HR0.out (bS2_ HB.out GE349.out GE350.out)); (case side2 => exact HC0.out); rintro e w10 ⟨rfl, hb⟩; refine ⟨_, rfl, ?_⟩; have n0_ := a_ (blk_below (kf1_ BK349.out NB349_350.out) hb); have n1_ := a_ (blk_below (g := gb350) (o := .cells #[.int .i64 0, .int .i64 0, .int .i64 0, .int .i64 0] 56 (0, 0)) (kp0_ BK350.out) hb); have n2_ := a_ (below_step (bS2_ HB.out GE349.out GE350.out) hb); clear BK349; clear BK350; clear HB; have BK349 := n0_; have BK350 := n1_; have HB := n2_; clear n0_ n1_ n2_; (try clear hb); (try clear hb2); (try clear hk); (try clear hi)) | ((with_reducible refine gate_dst (N := 7) rfl ?_); refine box_event ?hg (N := 7) ?hd (cs := #[.int .i64 0, .int .i64 0, .int .i64 0, .int .i64 0, .int .i64 0, .int .i64 0]) (t := 87) ?hr ?_; (case hd => rfl); (case hg => rfl); (case hr => first | (go_simp; done) | (go_simp; rfl)); intro gb358 hg w11 hbox hb; have n0_ := a_ (kb_ BK349.out hb); have n1_ := a_ (kb_ BK350.out hb); have n2_ := a_ (below_step (bS2_ HB.out GE349.out GE350.out) hb); have n3_ := a_ (hbox); have n4_ := a_ ((by rw [hg]; exact (below_size (bS2_ HB.out GE349.out GE350.out)) : w.heap.size ≤ gb358)); have n5_ := a_ ((by rw [hg]; exact (below_size (bS2_ HB.out GE349.out GE350.out)) : w.heap.size ≤ gb358)); have n6_ := a_ ((by rw [hg]; exact Nat.ne_of_lt (blk_lt (kv_ BK349.out)) : gb349 ≠ gb358)); have n7_ := a_ ((by rw [hg]; exact Nat.ne_of_gt (blk_lt (kv_ BK349.out)) : gb358 ≠ gb349)); have n8_ := a_ ((by rw [hg]; exact Nat.ne_of_lt (blk_lt (kv_ BK350.out)) : gb350 ≠ gb358)); have n9_ := a_ ((by rw [hg]; exact Nat.ne_of_gt (blk_lt (kv_ BK350.out)) : gb358 ≠ gb350)); clear BK349; clear BK350; clear HB; have BK349 := n0_; have BK350 := n1_; have HB := n2_; have BK358 := n3_; have GW358 := n4_; have GE358 := n5_; have NB349_358 := n6_; have NB358_349 := n7_; have NB350_358 := n8_; have NB358_350 := n9_; clear n0_ n1_ n2_ n3_ n4_ n5_ n6_ n7_ n8_ n9_; clear hb hbox hg; have hnb12 := NB358_349.out; have hnc12 := NB349_358.out; have hnb13 := NB358_350.out; have hnc13 := NB350_358.out; obtain ⟨⟨Z14_0, Y14_0⟩, ⟨Z14_1, Y14_1⟩, ⟨Z14_2, Y14_2⟩, ⟨Z14_3, Y14_3⟩, ⟨Z14_4, Y14_4⟩, Z14_5, Y14_5⟩ := cs6_ BK358.out) | ((with_reducible refine gate_callee (f := 48) rfl ?_); refine gl_ (some 23) Try.func48 (by kernel_rfl) #[.int .i64 a1, .int .i64 t351] ?_; (with_reducible refine (variorumref02_Sub.calls a1 t351 t359 t360 _ A4.out).mono ?_); rintro e w' ⟨rfl, ⟨nd, rfl⟩⟩; refine ⟨_, rfl, ?_⟩))
 (try simp only [Act.put, List.setIfInBounds_toArray, List.set_cons_zero, List.set_cons_succ])
 go_cut [31] (fun v31 wc => ∃ (kq : Nat) (x31_4 : Bool), v31 = .bool x31_4 ∧ Aside0 (variorumref03_Set.j0 kq t359 x31_4 0 0 0 0 t351 t352 t353 t354 t355 t356 = some (r1, r2, r3, r4, r5)) ∧ Aside0 (kq ≤ k) ∧ Aside0 (wc.heap[gb349]? = some (.cells #[.int .i64 0, .int .i64 0, .int .i64 0, .int .i64 0] 56 (0, 0))) ∧ Aside0 (wc.heap[gb350]? = some (.cells #[.int .i64 0, .int .i64 0, .int .i64 0, .int .i64 0] 56 (0, 0))) ∧ Aside0 (wc.heap[gb358]? = some (.cells #[.int .i64 t351, .int .i64 t352, .int .i64 t353, .int .i64 t354, .int .i64 t355, .int .i64 t356] 87 (0, 0))) ∧ Aside0 (Below w.heap.size w wc))
 case first =>
  have H := HC5.out
  clear HC5
  by_cases c15 : t357 = true
  ·subst c15
   have H1 : (variorumref03_Set.j0 k t359 (!t360) 0 0 0 0 t351 t352 t353 t354 t355 t356) = some (r1, r2, r3, r4, r5) := by rw [if_pos rfl] at H; exact H
   clear H
   have H := H1
   clear H1
   have H' := a_ H
   clear H
   go_wp2
   go_meet
   case rel => exact ⟨_, (!t360), (by first | rfl | (simp; done) | (simp [*]; done)), H', ⟨by first | omega | exact Nat.le_refl _⟩, ⟨kf1_ BK349.out NB349_358.out⟩, ⟨kf1_ BK350.out NB350_358.out⟩, ⟨kp0_ BK358.out⟩, ⟨bS3_ HB.out GE349.out GE350.out GE358.out⟩⟩
  ·replace c15 := Bool.eq_false_iff.mpr c15
   subst c15
   have H1 : (variorumref03_Set.j0 k t359 true 0 0 0 0 t351 t352 t353 t354 t355 t356) = some (r1, r2, r3, r4, r5) := by rw [if_neg (show ¬ (false = true) by decide)] at H; exact H
   clear H
   have H := H1
   clear H1
   have H' := a_ H
   clear H
   go_wp2
   go_meet
   case rel => exact ⟨_, (true), (by first | rfl | (simp; done) | (simp [*]; done)), H', ⟨by first | omega | exact Nat.le_refl _⟩, ⟨kf1_ BK349.out NB349_358.out⟩, ⟨kf1_ BK350.out NB350_358.out⟩, ⟨kp0_ BK358.out⟩, ⟨bS3_ HB.out GE349.out GE350.out GE358.out⟩⟩
 case rest =>
  clear HC5
  try clear c1
  try clear p2
  try clear c3
  try clear c4
  try clear c8
  try clear c12
  try clear c13
  try clear c15
  try clear Z14_0
  try clear Z14_1
  try clear Z14_2
  try clear Z14_3
  try clear Z14_4
  try clear Z14_5
  try clear Z9_0
  try clear Z9_1
  try clear Z9_2
  try clear Z9_3
  try clear Y14_0
  try clear Y14_1
  try clear Y14_2
  try clear Y14_3
  try clear Y14_4
  try clear Y14_5
  try clear Y9_0
  try clear Y9_1
  try clear Y9_2
  try clear Y9_3
  obtain ⟨kq, x31_4, rfl, HA, HJ4, BK349, BK350, BK358, HB⟩ := hcut
  cases kq with
  | zero => exact absurd HA.out (by simp [variorumref03_Set.j0])
  | succ kj4 =>
   have H := HA.out
   clear HA
   simp only [variorumref03_Set.j0] at H
   by_cases c16 : x31_4 = true
   ·subst c16
    have H1 : (some (0, 0, 0, 0, false)) = some (r1, r2, r3, r4, r5) := by rw [if_pos rfl] at H; exact H
    clear H
    have H := H1
    clear H1
    simp only [Option.some.injEq, Prod.mk.injEq] at H
    obtain ⟨rfl, rfl, rfl, rfl, rfl⟩ := H
    have hnb17 := NB350_349.out
    have hnc17 := NB349_350.out
    have hnb18 := NB350_358.out
    have hnc18 := NB358_350.out
    obtain ⟨⟨Z19_0, Y19_0⟩, ⟨Z19_1, Y19_1⟩, ⟨Z19_2, Y19_2⟩, Z19_3, Y19_3⟩ := cs4_ BK350.out
    have hnb20 := NB349_358.out
    have hnc20 := NB358_349.out
    obtain ⟨⟨Z21_0, Y21_0⟩, ⟨Z21_1, Y21_1⟩, ⟨Z21_2, Y21_2⟩, Z21_3, Y21_3⟩ := cs4_ BK349.out
    go_wp2
    refine bodyPost_ret (results_ct rfl _ _ gb349 56 #[.int .i64 0, .int .i64 0, .int .i64 0, .int .i64 0] (0, 0) _ rfl (kp0_ BK349.out) Try.underlying56 rfl (by kernel_rfl)) rfl ?_
    exact ⟨by first | rfl | (simp [errW_none, errW_some] <;> rfl) | (simp [*, errW_none, errW_some] <;> rfl), bS3_ HB.out GE349.out GE350.out GE358.out⟩
   ·replace c16 := Bool.eq_false_iff.mpr c16
    subst c16
    have H1 : (if t359 = 0 then (some (0, 0, 0, 0, true)) else (if t359 < 0 then ((variorumref03_Badness.f kj4 (wrap64 (-t359)) t352).bind fun t361 => (if t352 < (wrap64 (-t359)) then (some ((-1), 0, t359, 1000000, true)) else (some ((-1), 0, t359, t361, true)))) else (if t356 > 0 then (some (1, 3, t359, 0, true)) else (if t355 > 0 then (some (1, 2, t359, 0, true)) else (if t354 > 0 then (some (1, 1, t359, 0, true)) else (if t353 > 0 then ((variorumref03_Badness.f kj4 t359 t353).bind fun t362 => (some (1, 0, t359, t362, true))) else (some (0, 0, t359, 10000, true)))))))) = some (r1, r2, r3, r4, r5) := by rw [if_neg (show ¬ (false = true) by decide)] at H; exact H
    clear H
    have H := H1
    clear H1
    by_cases c22 : t359 = 0
    ·rw [if_pos c22] at H
     have c22b0 : (t359 == 0) = true := beq_iff_eq.mpr c22
     have c22b1 : (t359 != 0) = false := bne_eq_false_iff_eq.mpr c22
     clear c22
     simp only [Option.some.injEq, Prod.mk.injEq] at H
     obtain ⟨rfl, rfl, rfl, rfl, rfl⟩ := H
     have hnb23 := NB350_349.out
     have hnc23 := NB349_350.out
     have hnb24 := NB350_358.out
     have hnc24 := NB358_350.out
     obtain ⟨⟨Z25_0, Y25_0⟩, ⟨Z25_1, Y25_1⟩, ⟨Z25_2, Y25_2⟩, Z25_3, Y25_3⟩ := cs4_ BK350.out
     have hnb26 := NB349_358.out
     have hnc26 := NB358_349.out
     obtain ⟨⟨Z27_0, Y27_0⟩, ⟨Z27_1, Y27_1⟩, ⟨Z27_2, Y27_2⟩, Z27_3, Y27_3⟩ := cs4_ BK349.out
     go_wp2
     refine bodyPost_ret (results_ct rfl _ _ gb349 56 #[.int .i64 0, .int .i64 0, .int .i64 0, .int .i64 0] (0, 0) _ rfl (kp0_ BK349.out) Try.underlying56 rfl (by kernel_rfl)) rfl ?_
     exact ⟨by first | rfl | (simp [errW_none, errW_some] <;> rfl) | (simp [*, errW_none, errW_some] <;> rfl), bS3_ HB.out GE349.out GE350.out GE358.out⟩
    ·rw [if_neg c22] at H
     have c22b0 : (t359 == 0) = false := beq_eq_false_iff_ne.mpr c22
     have c22b1 : (t359 != 0) = true := bne_iff_ne.mpr c22
     by_cases c28 : t359 < 0
     ·rw [if_pos c28] at H
      have c28b0 : decide (t359 < 0) = true := decide_eq_true c28
      clear c28
      replace H := Option.bind_eq_some_iff.mp H
      obtain ⟨t361, A290, H⟩ := H
      replace H : (if t352 < (wrap64 (-t359)) then (some ((-1), 0, t359, 1000000, true)) else (some ((-1), 0, t359, t361, true))) = some (r1, r2, r3, r4, r5) := H
      have A29 := a_ A290
      clear A290
      by_cases c30 : t352 < (wrap64 (-t359))
      ·rw [if_pos c30] at H
       have c30b0 : decide (t352 < (wrap64 (-t359))) = true := decide_eq_true c30
       clear c30
       simp only [Option.some.injEq, Prod.mk.injEq] at H
       obtain ⟨rfl, rfl, rfl, rfl, rfl⟩ := H
       have hnb31 := NB358_349.out
       have hnc31 := NB349_358.out
       have hnb32 := NB358_350.out
       have hnc32 := NB350_358.out
       obtain ⟨⟨Z33_0, Y33_0⟩, ⟨Z33_1, Y33_1⟩, ⟨Z33_2, Y33_2⟩, ⟨Z33_3, Y33_3⟩, ⟨Z33_4, Y33_4⟩, Z33_5, Y33_5⟩ := cs6_ BK358.out
       go_wp2_with (first | ((with_reducible refine gate_callee (f := 49) rfl ?_); refine gl_ (some 42) Try.func49 (by kernel_rfl) #[.int .i64 (wrap64 (-t359)), .int .i64 t352] ?_; (with_reducible refine (variorumref03_Badness.calls kj4 (wrap64 (-t359)) t352 t361 _ A29.out).mono ?_); rintro e w' ⟨rfl, ⟨nd, rfl⟩⟩; refine ⟨_, rfl, ?_⟩; (try (rw [drewN_self wc]; generalize hq_ : World.drewN wc _ = wc; have n0_ : Aside0 (wc.heap[gb349]? = some (.cells #[.int .i64 0, .int .i64 0, .int .i64 0, .int .i64 0] 56 (0, 0))) := ⟨by rw [← hq_]; exact (kv_ BK349.out)⟩; have n1_ : Aside0 (wc.heap[gb350]? = some (.cells #[.int .i64 0, .int .i64 0, .int .i64 0, .int .i64 0] 56 (0, 0))) := ⟨by rw [← hq_]; exact (kv_ BK350.out)⟩; have n2_ : Aside0 (wc.heap[gb358]? = some (.cells #[.int .i64 t351, .int .i64 t352, .int .i64 t353, .int .i64 t354, .int .i64 t355, .int .i64 t356] 87 (0, 0))) := ⟨by rw [← hq_]; exact (kv_ BK358.out)⟩; have n3_ : Aside0 (Below w.heap.size w wc) := ⟨by rw [← hq_]; exact (bS3_ HB.out GE349.out GE350.out GE358.out)⟩; clear BK349 BK350 BK358 HB hq_; have BK349 := n0_; have BK350 := n1_; have BK358 := n2_; have HB := n3_; clear n0_ n1_ n2_ n3_)); have hnb34 := NB349_350.out; have hnc34 := NB350_349.out; obtain ⟨⟨Z35_0, Y35_0⟩, ⟨Z35_1, Y35_1⟩, ⟨Z35_2, Y35_2⟩, Z35_3, Y35_3⟩ := cs4_ BK349.out; have hy1 : wc.cell? ⟨gb358, 1, none⟩ = some (.int .i64 t352) := (blk_cell BK358.out 1).trans rfl))
       refine bodyPost_ret (results_ct rfl _ _ gb349 56 #[.int .i64 (-1), .int .i64 0, .int .i64 t359, .int .i64 1000000] (0, 0) _ rfl (kp0_ BK349.out) Try.underlying56 rfl (by kernel_rfl)) rfl ?_
       exact ⟨by first | rfl | (simp [errW_none, errW_some] <;> rfl) | (simp [*, errW_none, errW_some] <;> rfl), bS3_ HB.out GE349.out GE350.out GE358.out⟩
      ·rw [if_neg c30] at H
       have c30b0 : decide (t352 < (wrap64 (-t359))) = false := decide_eq_false c30
       clear c30
       simp only [Option.some.injEq, Prod.mk.injEq] at H
       obtain ⟨rfl, rfl, rfl, rfl, rfl⟩ := H
       have hnb36 := NB358_349.out
       have hnc36 := NB349_358.out
       have hnb37 := NB358_350.out
       have hnc37 := NB350_358.out
       obtain ⟨⟨Z38_0, Y38_0⟩, ⟨Z38_1, Y38_1⟩, ⟨Z38_2, Y38_2⟩, ⟨Z38_3, Y38_3⟩, ⟨Z38_4, Y38_4⟩, Z38_5, Y38_5⟩ := cs6_ BK358.out
       go_wp2_with (first | ((with_reducible refine gate_callee (f := 49) rfl ?_); refine gl_ (some 42) Try.func49 (by kernel_rfl) #[.int .i64 (wrap64 (-t359)), .int .i64 t352] ?_; (with_reducible refine (variorumref03_Badness.calls kj4 (wrap64 (-t359)) t352 t361 _ A29.out).mono ?_); rintro e w' ⟨rfl, ⟨nd, rfl⟩⟩; refine ⟨_, rfl, ?_⟩; (try (rw [drewN_self wc]; generalize hq_ : World.drewN wc _ = wc; have n0_ : Aside0 (wc.heap[gb349]? = some (.cells #[.int .i64 0, .int .i64 0, .int .i64 0, .int .i64 0] 56 (0, 0))) := ⟨by rw [← hq_]; exact (kv_ BK349.out)⟩; have n1_ : Aside0 (wc.heap[gb350]? = some (.cells #[.int .i64 0, .int .i64 0, .int .i64 0, .int .i64 0] 56 (0, 0))) := ⟨by rw [← hq_]; exact (kv_ BK350.out)⟩; have n2_ : Aside0 (wc.heap[gb358]? = some (.cells #[.int .i64 t351, .int .i64 t352, .int .i64 t353, .int .i64 t354, .int .i64 t355, .int .i64 t356] 87 (0, 0))) := ⟨by rw [← hq_]; exact (kv_ BK358.out)⟩; have n3_ : Aside0 (Below w.heap.size w wc) := ⟨by rw [← hq_]; exact (bS3_ HB.out GE349.out GE350.out GE358.out)⟩; clear BK349 BK350 BK358 HB hq_; have BK349 := n0_; have BK350 := n1_; have BK358 := n2_; have HB := n3_; clear n0_ n1_ n2_ n3_)); have hnb39 := NB349_350.out; have hnc39 := NB350_349.out; obtain ⟨⟨Z40_0, Y40_0⟩, ⟨Z40_1, Y40_1⟩, ⟨Z40_2, Y40_2⟩, Z40_3, Y40_3⟩ := cs4_ BK349.out; have hy1 : wc.cell? ⟨gb358, 1, none⟩ = some (.int .i64 t352) := (blk_cell BK358.out 1).trans rfl))
       refine bodyPost_ret (results_ct rfl _ _ gb349 56 #[.int .i64 (-1), .int .i64 0, .int .i64 t359, .int .i64 t361] (0, 0) _ rfl (kp0_ BK349.out) Try.underlying56 rfl (by kernel_rfl)) rfl ?_
       exact ⟨by first | rfl | (simp [errW_none, errW_some] <;> rfl) | (simp [*, errW_none, errW_some] <;> rfl), bS3_ HB.out GE349.out GE350.out GE358.out⟩
     ·rw [if_neg c28] at H
      have c28b0 : decide (t359 < 0) = false := decide_eq_false c28
      clear c28
      by_cases c41 : t356 > 0
      ·rw [if_pos c41] at H
       have c41b0 : decide (0 < t356) = true := decide_eq_true c41
       clear c41
       simp only [Option.some.injEq, Prod.mk.injEq] at H
       obtain ⟨rfl, rfl, rfl, rfl, rfl⟩ := H
       have hnb42 := NB358_349.out
       have hnc42 := NB349_358.out
       have hnb43 := NB358_350.out
       have hnc43 := NB350_358.out
       obtain ⟨⟨Z44_0, Y44_0⟩, ⟨Z44_1, Y44_1⟩, ⟨Z44_2, Y44_2⟩, ⟨Z44_3, Y44_3⟩, ⟨Z44_4, Y44_4⟩, Z44_5, Y44_5⟩ := cs6_ BK358.out
       have hnb45 := NB349_350.out
       have hnc45 := NB350_349.out
       obtain ⟨⟨Z46_0, Y46_0⟩, ⟨Z46_1, Y46_1⟩, ⟨Z46_2, Y46_2⟩, Z46_3, Y46_3⟩ := cs4_ BK349.out
       go_wp2
       refine wp_loop_rounds 4 ?_
       repeat (rw [rounds_succ]; go_wp2)
       refine bodyPost_ret (results_ct rfl _ _ gb349 56 #[.int .i64 1, .int .i64 3, .int .i64 t359, .int .i64 0] (0, 0) _ rfl (kp0_ BK349.out) Try.underlying56 rfl (by kernel_rfl)) rfl ?_
       exact ⟨by first | rfl | (simp [errW_none, errW_some] <;> rfl) | (simp [*, errW_none, errW_some] <;> rfl), bS3_ HB.out GE349.out GE350.out GE358.out⟩
      ·rw [if_neg c41] at H
       have c41b0 : decide (0 < t356) = false := decide_eq_false c41
       clear c41
       by_cases c47 : t355 > 0
       ·rw [if_pos c47] at H
        have c47b0 : decide (0 < t355) = true := decide_eq_true c47
        clear c47
        simp only [Option.some.injEq, Prod.mk.injEq] at H
        obtain ⟨rfl, rfl, rfl, rfl, rfl⟩ := H
        have hnb48 := NB358_349.out
        have hnc48 := NB349_358.out
        have hnb49 := NB358_350.out
        have hnc49 := NB350_358.out
        obtain ⟨⟨Z50_0, Y50_0⟩, ⟨Z50_1, Y50_1⟩, ⟨Z50_2, Y50_2⟩, ⟨Z50_3, Y50_3⟩, ⟨Z50_4, Y50_4⟩, Z50_5, Y50_5⟩ := cs6_ BK358.out
        have hnb51 := NB349_350.out
        have hnc51 := NB350_349.out
        obtain ⟨⟨Z52_0, Y52_0⟩, ⟨Z52_1, Y52_1⟩, ⟨Z52_2, Y52_2⟩, Z52_3, Y52_3⟩ := cs4_ BK349.out
        go_wp2
        refine wp_loop_rounds 4 ?_
        repeat (rw [rounds_succ]; go_wp2)
        refine bodyPost_ret (results_ct rfl _ _ gb349 56 #[.int .i64 1, .int .i64 2, .int .i64 t359, .int .i64 0] (0, 0) _ rfl (kp0_ BK349.out) Try.underlying56 rfl (by kernel_rfl)) rfl ?_
        exact ⟨by first | rfl | (simp [errW_none, errW_some] <;> rfl) | (simp [*, errW_none, errW_some] <;> rfl), bS3_ HB.out GE349.out GE350.out GE358.out⟩
       ·rw [if_neg c47] at H
        have c47b0 : decide (0 < t355) = false := decide_eq_false c47
        clear c47
        by_cases c53 : t354 > 0
        ·rw [if_pos c53] at H
         have c53b0 : decide (0 < t354) = true := decide_eq_true c53
         clear c53
         simp only [Option.some.injEq, Prod.mk.injEq] at H
         obtain ⟨rfl, rfl, rfl, rfl, rfl⟩ := H
         have hnb54 := NB358_349.out
         have hnc54 := NB349_358.out
         have hnb55 := NB358_350.out
         have hnc55 := NB350_358.out
         obtain ⟨⟨Z56_0, Y56_0⟩, ⟨Z56_1, Y56_1⟩, ⟨Z56_2, Y56_2⟩, ⟨Z56_3, Y56_3⟩, ⟨Z56_4, Y56_4⟩, Z56_5, Y56_5⟩ := cs6_ BK358.out
         have hnb57 := NB349_350.out
         have hnc57 := NB350_349.out
         obtain ⟨⟨Z58_0, Y58_0⟩, ⟨Z58_1, Y58_1⟩, ⟨Z58_2, Y58_2⟩, Z58_3, Y58_3⟩ := cs4_ BK349.out
         go_wp2
         refine wp_loop_rounds 4 ?_
         repeat (rw [rounds_succ]; go_wp2)
         refine bodyPost_ret (results_ct rfl _ _ gb349 56 #[.int .i64 1, .int .i64 1, .int .i64 t359, .int .i64 0] (0, 0) _ rfl (kp0_ BK349.out) Try.underlying56 rfl (by kernel_rfl)) rfl ?_
         exact ⟨by first | rfl | (simp [errW_none, errW_some] <;> rfl) | (simp [*, errW_none, errW_some] <;> rfl), bS3_ HB.out GE349.out GE350.out GE358.out⟩
        ·rw [if_neg c53] at H
         have c53b0 : decide (0 < t354) = false := decide_eq_false c53
         clear c53
         by_cases c59 : t353 > 0
         ·rw [if_pos c59] at H
          have c59b0 : decide (0 < t353) = true := decide_eq_true c59
          clear c59
          replace H := Option.bind_eq_some_iff.mp H
          obtain ⟨t362, A600, H⟩ := H
          replace H : (some (1, 0, t359, t362, true)) = some (r1, r2, r3, r4, r5) := H
          have A60 := a_ A600
          clear A600
          simp only [Option.some.injEq, Prod.mk.injEq] at H
          obtain ⟨rfl, rfl, rfl, rfl, rfl⟩ := H
          have hnb61 := NB358_349.out
          have hnc61 := NB349_358.out
          have hnb62 := NB358_350.out
          have hnc62 := NB350_358.out
          obtain ⟨⟨Z63_0, Y63_0⟩, ⟨Z63_1, Y63_1⟩, ⟨Z63_2, Y63_2⟩, ⟨Z63_3, Y63_3⟩, ⟨Z63_4, Y63_4⟩, Z63_5, Y63_5⟩ := cs6_ BK358.out
          go_wp2_with (first | ((with_reducible refine gate_callee (f := 49) rfl ?_); refine gl_ (some 72) Try.func49 (by kernel_rfl) #[.int .i64 t359, .int .i64 t353] ?_; (with_reducible refine (variorumref03_Badness.calls kj4 t359 t353 t362 _ A60.out).mono ?_); rintro e w' ⟨rfl, ⟨nd, rfl⟩⟩; refine ⟨_, rfl, ?_⟩; (try (rw [drewN_self wc]; generalize hq_ : World.drewN wc _ = wc; have n0_ : Aside0 (wc.heap[gb349]? = some (.cells #[.int .i64 0, .int .i64 0, .int .i64 0, .int .i64 0] 56 (0, 0))) := ⟨by rw [← hq_]; exact (kv_ BK349.out)⟩; have n1_ : Aside0 (wc.heap[gb350]? = some (.cells #[.int .i64 0, .int .i64 0, .int .i64 0, .int .i64 0] 56 (0, 0))) := ⟨by rw [← hq_]; exact (kv_ BK350.out)⟩; have n2_ : Aside0 (wc.heap[gb358]? = some (.cells #[.int .i64 t351, .int .i64 t352, .int .i64 t353, .int .i64 t354, .int .i64 t355, .int .i64 t356] 87 (0, 0))) := ⟨by rw [← hq_]; exact (kv_ BK358.out)⟩; have n3_ : Aside0 (Below w.heap.size w wc) := ⟨by rw [← hq_]; exact (bS3_ HB.out GE349.out GE350.out GE358.out)⟩; clear BK349 BK350 BK358 HB hq_; have BK349 := n0_; have BK350 := n1_; have BK358 := n2_; have HB := n3_; clear n0_ n1_ n2_ n3_)); have hnb64 := NB349_350.out; have hnc64 := NB350_349.out; obtain ⟨⟨Z65_0, Y65_0⟩, ⟨Z65_1, Y65_1⟩, ⟨Z65_2, Y65_2⟩, Z65_3, Y65_3⟩ := cs4_ BK349.out))
          refine wp_loop_rounds 4 ?_
          repeat (rw [rounds_succ]; go_wp2_with (first | ((with_reducible refine gate_callee (f := 49) rfl ?_); refine gl_ (some 72) Try.func49 (by kernel_rfl) #[.int .i64 t359, .int .i64 t353] ?_; (with_reducible refine (variorumref03_Badness.calls kj4 t359 t353 t362 _ A60.out).mono ?_); rintro e w' ⟨rfl, ⟨nd, rfl⟩⟩; refine ⟨_, rfl, ?_⟩; (try (rw [drewN_self wc]; generalize hq_ : World.drewN wc _ = wc; have n0_ : Aside0 (wc.heap[gb349]? = some (.cells #[.int .i64 0, .int .i64 0, .int .i64 0, .int .i64 0] 56 (0, 0))) := ⟨by rw [← hq_]; exact (kv_ BK349.out)⟩; have n1_ : Aside0 (wc.heap[gb350]? = some (.cells #[.int .i64 0, .int .i64 0, .int .i64 0, .int .i64 0] 56 (0, 0))) := ⟨by rw [← hq_]; exact (kv_ BK350.out)⟩; have n2_ : Aside0 (wc.heap[gb358]? = some (.cells #[.int .i64 t351, .int .i64 t352, .int .i64 t353, .int .i64 t354, .int .i64 t355, .int .i64 t356] 87 (0, 0))) := ⟨by rw [← hq_]; exact (kv_ BK358.out)⟩; have n3_ : Aside0 (Below w.heap.size w wc) := ⟨by rw [← hq_]; exact (bS3_ HB.out GE349.out GE350.out GE358.out)⟩; clear BK349 BK350 BK358 HB hq_; have BK349 := n0_; have BK350 := n1_; have BK358 := n2_; have HB := n3_; clear n0_ n1_ n2_ n3_)); have hnb64 := NB349_350.out; have hnc64 := NB350_349.out; obtain ⟨⟨Z65_0, Y65_0⟩, ⟨Z65_1, Y65_1⟩, ⟨Z65_2, Y65_2⟩, Z65_3, Y65_3⟩ := cs4_ BK349.out)))
          refine bodyPost_ret (results_ct rfl _ _ gb349 56 #[.int .i64 1, .int .i64 0, .int .i64 t359, .int .i64 t362] (0, 0) _ rfl (kp0_ BK349.out) Try.underlying56 rfl (by kernel_rfl)) rfl ?_
          exact ⟨by first | rfl | (simp [errW_none, errW_some] <;> rfl) | (simp [*, errW_none, errW_some] <;> rfl), bS3_ HB.out GE349.out GE350.out GE358.out⟩
         ·rw [if_neg c59] at H
          have c59b0 : decide (0 < t353) = false := decide_eq_false c59
          clear c59
          simp only [Option.some.injEq, Prod.mk.injEq] at H
          obtain ⟨rfl, rfl, rfl, rfl, rfl⟩ := H
          have hnb66 := NB358_349.out
          have hnc66 := NB349_358.out
          have hnb67 := NB358_350.out
          have hnc67 := NB350_358.out
          obtain ⟨⟨Z68_0, Y68_0⟩, ⟨Z68_1, Y68_1⟩, ⟨Z68_2, Y68_2⟩, ⟨Z68_3, Y68_3⟩, ⟨Z68_4, Y68_4⟩, Z68_5, Y68_5⟩ := cs6_ BK358.out
          have hnb69 := NB349_350.out
          have hnc69 := NB350_349.out
          obtain ⟨⟨Z70_0, Y70_0⟩, ⟨Z70_1, Y70_1⟩, ⟨Z70_2, Y70_2⟩, Z70_3, Y70_3⟩ := cs4_ BK349.out
          go_wp2
          refine wp_loop_rounds 4 ?_
          repeat (rw [rounds_succ]; go_wp2)
          refine bodyPost_ret (results_ct rfl _ _ gb349 56 #[.int .i64 0, .int .i64 0, .int .i64 t359, .int .i64 10000] (0, 0) _ rfl (kp0_ BK349.out) Try.underlying56 rfl (by kernel_rfl)) rfl ?_
          exact ⟨by first | rfl | (simp [errW_none, errW_some] <;> rfl) | (simp [*, errW_none, errW_some] <;> rfl), bS3_ HB.out GE349.out GE350.out GE358.out⟩

/-! ### variorumref10_Glues: function 36 -/
mutual
def variorumref10_Glues.j0 : Nat → List (S40) → Int → Int → List (S38) → Bool → Option ((List (S38)))
 | 0, _, _, _, _, _ => none
 | k + 1, x0, x1, x2, x7, x18 => if x18 = true then (some x7) else ((variorumref10_Start.f k x0 x1).bind fun t366 => (variorumref10_Glues.l0 k x0 x2 x7 t366))
def variorumref10_Glues.l0 : Nat → List (S40) → Int → List (S38) → Int → Option ((List (S38)))
 | 0, _, _, _, _ => none
 | k + 1, x0, x2, x7, x9 => if x9 < x2 then (if 0 ≤ x9 then (if x9 < (x0.length : Int) then (if ((rd_T40 x0 x9).f0) = 0 then (if x7.length < 4398046511104 then (variorumref10_Glues.l0 k x0 x2 (x7 ++ [(⟨(rd_T40 x0 x9).f1.f0, (rd_T40 x0 x9).f1.f1, (rd_T40 x0 x9).f1.f2, (rd_T40 x0 x9).f1.f3⟩ : S38)]) (wrap64 (x9 + 1))) else (none)) else (if ((rd_T40 x0 x9).f0) = 1 then (if x7.length < 4398046511104 then (variorumref10_Glues.l0 k x0 x2 (x7 ++ [(⟨(rd_T40 x0 x9).f1.f0, (rd_T40 x0 x9).f1.f1, (rd_T40 x0 x9).f1.f2, (rd_T40 x0 x9).f1.f3⟩ : S38)]) (wrap64 (x9 + 1))) else (none)) else (variorumref10_Glues.l0 k x0 x2 x7 (wrap64 (x9 + 1))))) else (none)) else (none)) else (if 0 ≤ x2 then (if x2 < (x0.length : Int) then (if ((rd_T40 x0 x2).f0) = 2 then (if x7.length < 4398046511104 then (some (x7 ++ [(⟨(rd_T40 x0 x2).f1.f0, 0, 0, 0⟩ : S38)])) else (none)) else (some x7)) else (none)) else (none))
end
def variorumref10_Glues.f (k : Nat) (l0 : List (S40)) (a1 : Int) (a2 : Int) : Option ((List (S38))) := (some (([] : List (S38)) : List (S38))).bind fun y363 => (if a2 < 0 then (variorumref10_Glues.j0 k l0 a1 a2 y363 true) else (variorumref10_Glues.j0 k l0 a1 a2 y363 (decide (a2 ≥ (l0.length : Int)))))
theorem variorumref10_Glues.mono_l : ∀ k, (∀ y0 y1 y2 y3 y4, LeO (variorumref10_Glues.j0 k y0 y1 y2 y3 y4) (variorumref10_Glues.j0 (k + 1) y0 y1 y2 y3 y4)) ∧ (∀ y0 y1 y2 y3, LeO (variorumref10_Glues.l0 k y0 y1 y2 y3) (variorumref10_Glues.l0 (k + 1) y0 y1 y2 y3))
 | 0 => ⟨fun _ _ _ _ _ r h => by simp [variorumref10_Glues.j0] at h, fun _ _ _ _ r h => by simp [variorumref10_Glues.l0] at h⟩
 | k + 1 => by
  obtain ⟨ih0, ih1⟩ := variorumref10_Glues.mono_l k
  refine ⟨?_, ?_⟩
  ·intro y0 y1 y2 y3 y4
   unfold variorumref10_Glues.j0
   repeat' first | (with_reducible first | exact ih0 _ _ _ _ _ | exact ih1 _ _ _ _ | exact variorumref10_Start.mono _ _ _ | exact LeO.refl _ | exact LeO.none _ | refine LeO.ite ?_ ?_ | refine LeO.bind ?_ (fun _ => ?_)) | exact LeO.none _ | refine LeO.ite ?_ ?_ | refine LeO.bind ?_ (fun _ => ?_)
  ·intro y0 y1 y2 y3
   unfold variorumref10_Glues.l0
   repeat' first | (with_reducible first | exact ih0 _ _ _ _ _ | exact ih1 _ _ _ _ | exact variorumref10_Start.mono _ _ _ | exact LeO.refl _ | exact LeO.none _ | refine LeO.ite ?_ ?_ | refine LeO.bind ?_ (fun _ => ?_)) | exact LeO.none _ | refine LeO.ite ?_ ?_ | refine LeO.bind ?_ (fun _ => ?_)
theorem variorumref10_Glues.mono : ∀ a0 a1 a2 k, LeO (variorumref10_Glues.f k a0 a1 a2) (variorumref10_Glues.f (k + 1) a0 a1 a2) := by
 intro a0 a1 a2 k
 obtain ⟨ih0, ih1⟩ := variorumref10_Glues.mono_l k
 unfold variorumref10_Glues.f
 repeat' first
   | (with_reducible exact ih0 _ _ _ _ _)
   | (with_reducible exact ih1 _ _ _ _)
   | (with_reducible exact variorumref10_Start.mono _ _ _)
   | (with_reducible exact LeO.refl _)
   | (with_reducible exact LeO.none _)
   | (with_reducible refine LeO.ite ?_ ?_)
   | (with_reducible refine LeO.bind ?_ (fun _ => ?_))
   | exact ih0 _ _ _ _ _
   | exact ih1 _ _ _ _
   | exact variorumref10_Start.mono _ _ _
   | exact LeO.none _
   | refine LeO.ite ?_ ?_
   | refine LeO.bind ?_ (fun _ => ?_)
set_option maxHeartbeats 8000000 in
set_option maxRecDepth 100000 in
theorem variorumref10_Glues.calls (k : Nat) (A0 : Option Addr) (c0 : Nat) (l0 : List (S40)) (a1 : Int) (a2 : Int) (r : List (S38)) (w : World) (hr0 : Kd.C k40 w A0 l0.length l0) (hc0 : l0.length ≤ c0) (h : variorumref10_Glues.f k l0 a1 a2 = some r) :
  Calls Try.prog 36 #[.slice A0 l0.length c0, .int .i64 a1, .int .i64 a2] w fun e w' => ∃ v0_ : Value, e = .returned (v0_) ∧ Kd.R k38 38 w' w.heap.size (fun _ => True) v0_ r ∧ Below w.heap.size w w' := by
 have hu38 := Try.underlying38
 have HR0 := a_ hr0
 have HC0 := a_ hc0
 clear hr0 hc0
 have HB := a_ (Below.refl w.heap.size w)
 have H : ((some (([] : List (S38)) : List (S38))).bind fun y363 => (if a2 < 0 then (variorumref10_Glues.j0 k l0 a1 a2 y363 true) else (variorumref10_Glues.j0 k l0 a1 a2 y363 (decide (a2 ≥ (l0.length : Int)))))) = some r := h
 clear h
 obtain ⟨y363, hy363⟩ : ∃ y_ : List (S38), y_ = (([] : List (S38))) := ⟨_, rfl⟩
 replace H : (if a2 < 0 then (variorumref10_Glues.j0 k l0 a1 a2 y363 true) else (variorumref10_Glues.j0 k l0 a1 a2 y363 (decide (a2 ≥ (l0.length : Int))))) = some r := by first | (rw [hy363]; with_reducible exact H) | (have H2_ := (Option.bind_some _ _).symm.trans H; rw [hy363]; with_reducible exact H2_) | (have H2_ := (Option.bind_some _ _).symm.trans H; with_reducible exact H2_) | with_reducible exact H | (rw [hy363]; exact H) | exact H
 have Ny363 := a_ hy363
 clear hy363
 have HC4 := a_ H
 clear H
 go_enter Try.func36, Try.ntmps36
 go_upto_region 2 with (first | ((with_reducible refine gate_dst (N := 10) rfl ?_); (try (refine gate_guard (by rfl) ?_; dsimp only)); refine Kd.R_lit k38 _ 38 ?hg (N := 10) ?hd (xs := ([] : List (S38))) (inner := []) (ok := fun _ => True) (okp := fun _ => True) ?hr ?hp (fun _ hk => hk) trivial (Below.refl _ _) (Nat.le_refl _) (by simp) ?_; (case hd => rfl); (case hg => rfl); (case hr => first | (go_simp; done) | (go_simp; rfl)); (case hp => exact (Reps.none _ _)); intro v364 w5 ho6 hb hg_ hnew_; clear hg_ hnew_; (first | rw [← Ny363.out] at ho6 | (simp only [Int.reduceToNat] at ho6; rw [← Ny363.out] at ho6)); have n0_ := a_ (Kd.R_lower ho6 (below_size (bv_ HB.out))); have n1_ := a_ (bs_ HB.out hb); clear HB; have HO365 := n0_; have HB := n1_; clear n0_ n1_; clear hb ho6))
 (try simp only [Act.put, List.setIfInBounds_toArray, List.set_cons_zero, List.set_cons_succ])
 go_cut [18] (fun v18 wc => ∃ (kq : Nat) (x18_3 : Bool), v18 = .bool x18_3 ∧ Aside0 (variorumref10_Glues.j0 kq l0 a1 a2 y363 x18_3 = some r) ∧ Aside0 (kq ≤ k) ∧ Aside0 (Kd.R k38 38 wc w.heap.size (fun _ => True) v364 y363) ∧ Aside0 (Below w.heap.size w wc))
 case first =>
  have H := HC4.out
  clear HC4
  by_cases c7 : a2 < 0
  ·rw [if_pos c7] at H
   have c7b0 : decide (a2 < 0) = true := decide_eq_true c7
   clear c7
   (first | rw [c7b0] | (simp only [i64_w, i32_w]; rw [c7b0]) | skip)
   have H' := a_ H
   clear H
   go_wp2
   go_meet
   case rel => exact ⟨_, (true), (by first | rfl | (simp; done) | (simp [*]; done)), H', ⟨by first | omega | exact Nat.le_refl _⟩, ⟨by (with_reducible repeat (first | apply Kd.R_alloc | apply Kd.R_drewN | apply Kd.R_drew)); exact HO365.out⟩, ⟨bv_ HB.out⟩⟩
  ·rw [if_neg c7] at H
   have c7b0 : decide (a2 < 0) = false := decide_eq_false c7
   clear c7
   (first | rw [c7b0] | (simp only [i64_w, i32_w]; rw [c7b0]) | skip)
   have H' := a_ H
   clear H
   go_wp2
   go_meet
   case rel => exact ⟨_, (decide (a2 ≥ (l0.length : Int))), (by first | rfl | (simp; done) | (simp [*]; done)), H', ⟨by first | omega | exact Nat.le_refl _⟩, ⟨by (with_reducible repeat (first | apply Kd.R_alloc | apply Kd.R_drewN | apply Kd.R_drew)); exact HO365.out⟩, ⟨bv_ HB.out⟩⟩
 case rest =>
  clear HC4
  try clear p2
  try clear c3
  try clear c7
  try clear c7b0
  obtain ⟨kq, x18_3, rfl, HA, HJ3, HO_7, HB⟩ := hcut
  cases kq with
  | zero => exact absurd HA.out (by simp [variorumref10_Glues.j0])
  | succ kj3 =>
   have H := HA.out
   clear HA
   simp only [variorumref10_Glues.j0] at H
   by_cases c8 : x18_3 = true
   ·subst c8
    have H1 : (some y363) = some r := by rw [if_pos rfl] at H; exact H
    clear H
    have H := H1
    clear H1
    obtain rfl := Option.some.inj H
    go_wp2
    go_ret
    exact ⟨_, by first | rfl | (simp [errW_none, errW_some] <;> rfl) | (simp [*, errW_none, errW_some] <;> rfl), by (with_reducible repeat (first | apply Kd.R_alloc | apply Kd.R_drewN | apply Kd.R_drew)); exact HO_7.out, bv_ HB.out⟩
   ·replace c8 := Bool.eq_false_iff.mpr c8
    subst c8
    have H1 : ((variorumref10_Start.f kj3 l0 a1).bind fun t366 => (variorumref10_Glues.l0 kj3 l0 a2 y363 t366)) = some r := by rw [if_neg (show ¬ (false = true) by decide)] at H; exact H
    clear H
    have H := H1
    clear H1
    replace H := Option.bind_eq_some_iff.mp H
    obtain ⟨t366, A90, H⟩ := H
    replace H : (variorumref10_Glues.l0 kj3 l0 a2 y363 t366) = some r := H
    have A9 := a_ A90
    clear A90
    have H' := a_ H
    clear H
    go_wp2_with (first | ((with_reducible refine gate_callee (f := 33) rfl ?_); refine gl_ (some 22) Try.func33 (by kernel_rfl) #[.slice A0 l0.length c0, .int .i64 a1] ?_; (with_reducible refine (variorumref10_Start.calls kj3 _ _ l0 a1 t366 _ ?side1 ?side2 A9.out).mono ?_); (case side1 => exact cw_ HR0.out HB.out); (case side2 => exact HC0.out); rintro e w10 ⟨rfl, hb⟩; refine ⟨_, rfl, ?_⟩; have n0_ := a_ (Kd.R_below (rv_ HO_7.out) hb); have n1_ := a_ (bs_ HB.out hb); clear HO_7; clear HB; have HO_7 := n0_; have HB := n1_; clear n0_ n1_; (try clear hb); (try clear hb2); (try clear hk); (try clear hi)))
    go_loopg [7, 9] kj3 (fun kq v7 v9 w' => ∃ (x7_2 : List (S38)) (x9_2 : Int), v9 = .int .i64 x9_2 ∧ Aside0 (variorumref10_Glues.l0 kq l0 a2 x7_2 x9_2 = some r) ∧ Aside0 (kq ≤ kj3) ∧ Aside0 (Kd.R k38 38 w' w.heap.size (fun _ => True) v7 x7_2) ∧ Aside0 (Below w.heap.size w w'))
    case atStart => exact ⟨(y363), (t366), (by first | rfl | (simp; done) | (simp [*]; done)), H', ⟨Nat.le_refl _⟩, ⟨by (with_reducible repeat (first | apply Kd.R_alloc | apply Kd.R_drewN | apply Kd.R_drew)); exact HO_7.out⟩, ⟨bv_ HB.out⟩⟩
    case round =>
     clear H'
     try clear p2
     try clear c3
     try clear c7
     try clear c7b0
     try clear c8
     try clear p2
     obtain ⟨x7_2, x9_2, rfl, HA, HK2, HO_7, HB⟩ := hrel
     cases gk with
     | zero => exact absurd HA.out (by simp [variorumref10_Glues.l0])
     | succ k2 =>
      have H := HA.out
      clear HA
      simp only [variorumref10_Glues.l0] at H
      by_cases c11 : x9_2 < a2
      ·rw [if_pos c11] at H
       have c11b0 : decide (x9_2 < a2) = true := decide_eq_true c11
       clear c11
       by_cases c12 : 0 ≤ x9_2
       ·rw [if_pos c12] at H
        have c12b0 : decide (0 ≤ x9_2) = true := decide_eq_true c12
        clear c12
        by_cases c13 : x9_2 < (l0.length : Int)
        ·rw [if_pos c13] at H
         have c13b0 : decide (x9_2 < (l0.length : Int)) = true := decide_eq_true c13
         clear c13
         by_cases c14 : ((rd_T40 l0 x9_2).f0) = 0
         ·rw [if_pos c14] at H
          have c14b0 : (((rd_T40 l0 x9_2).f0) == 0) = true := beq_iff_eq.mpr c14
          have c14b1 : (((rd_T40 l0 x9_2).f0) != 0) = false := bne_eq_false_iff_eq.mpr c14
          clear c14
          by_cases c15 : x7_2.length < 4398046511104
          ·rw [if_pos c15] at H
           have LMc15 := a_ c15
           clear c15
           obtain ⟨y369, hy369⟩ : ∃ y_ : List (S38), y_ = (x7_2 ++ [(⟨(rd_T40 l0 x9_2).f1.f0, (rd_T40 l0 x9_2).f1.f1, (rd_T40 l0 x9_2).f1.f2, (rd_T40 l0 x9_2).f1.f3⟩ : S38)]) := ⟨_, rfl⟩
           replace H : (variorumref10_Glues.l0 k2 l0 a2 y369 (wrap64 (x9_2 + 1))) = some r := by first | (rw [hy369]; with_reducible exact H) | (have H2_ := (Option.bind_some _ _).symm.trans H; rw [hy369]; with_reducible exact H2_) | (have H2_ := (Option.bind_some _ _).symm.trans H; with_reducible exact H2_) | with_reducible exact H | (rw [hy369]; exact H) | exact H
           have Ny369 := a_ hy369
           clear hy369
           have H' := a_ H
           clear H
           have p367 : 0 ≤ (x9_2 : Int) := od_
           have q367 : x9_2 < (l0.length : Int) := od_
           obtain ⟨ad367, e367, hx367_0, hx367_1, hx367_2, hx367_3, hx367_4, hx367_5, hx367_6, hx367_7, hx367_8⟩ := at_T40 (Kd.C_below HR0.out HB.out) x9_2 p367 q367
           cases e367
           replace p367 := eq_true p367
           replace q367 := eq_true q367
           have p368 : 0 ≤ (x9_2 : Int) := od_
           have q368 : x9_2 < (l0.length : Int) := od_
           obtain ⟨ad368, e368, hx368_0, hx368_1, hx368_2, hx368_3, hx368_4, hx368_5, hx368_6, hx368_7, hx368_8⟩ := at_T40 (Kd.C_below HR0.out HB.out) x9_2 p368 q368
           obtain rfl : ad367 = ad368 := (by injection e368)
           replace p368 := eq_true p368
           replace q368 := eq_true q368
           go_wp2_with (first | ((with_reducible refine gate_builtin (b := .append) (xs := #[.tmp 43, .tmp 49]) rfl ?_); (try (refine gate_guard (by rfl) ?_; dsimp only)); at_builtin; refine Kd.R_append k38 (w0 := w) w.heap.size rfl (.tmp 43) (.tmp 49) 62 38 (.agg #[(.int .i64 0), (.int .i64 0), (.int .i64 0), (.int .i64 0)]) 32 rfl Try.underlying62 info38 rfl (by decide) (by omega) u7 x7_2 (⟨(rd_T40 l0 x9_2).f1.f0, (rd_T40 l0 x9_2).f1.f1, (rd_T40 l0 x9_2).f1.f2, (rd_T40 l0 x9_2).f1.f3⟩ : S38) [.int .i64 ((rd_T40 l0 x9_2).f1.f0), .int .i64 ((rd_T40 l0 x9_2).f1.f1), .int .i64 ((rd_T40 l0 x9_2).f1.f2), .int .i64 ((rd_T40 l0 x9_2).f1.f3)] (fun _ => True) (fun _ => False) rfl rfl ?aP (fun _ hk => hk.elim) ?aF ?aO ?aB ?aS ?aL ?_; (case aP => exact k38_mkM _ _ _ (⟨(rd_T40 l0 x9_2).f1.f0, (rd_T40 l0 x9_2).f1.f1, (rd_T40 l0 x9_2).f1.f2, (rd_T40 l0 x9_2).f1.f3⟩ : S38)); (case aB => exact (bv_ HB.out)); (case aF => exact (fun _ _ => trivial)); (case aO => exact (rv_ HO_7.out)); (case aS => exact (below_size (bv_ HB.out))); (case aL => have := LMc15.out; omega); intro v370 w16 ho hb hg hat; rw [← Ny369.out] at ho; have n0_ := a_ (hb); have n1_ := a_ (ho); clear HB; clear HO_7; have HB := n0_; have HO371 := n1_; clear n0_ n1_; clear ho hb hg hat))
           go_roundg k2
           case measure => have := HJ3.out; have := HK2.out; omega
           case rel => exact ⟨(y369), (wrap64 (x9_2 + 1)), (by first | rfl | (simp; done) | (simp [*]; done)), H', ⟨by have := HJ3.out; have := HK2.out; omega⟩, ⟨by (with_reducible repeat (first | apply Kd.R_alloc | apply Kd.R_drewN | apply Kd.R_drew)); exact HO371.out⟩, ⟨bv_ HB.out⟩⟩
          ·rw [if_neg c15] at H
           exact absurd H (by simp)
         ·rw [if_neg c14] at H
          have c14b0 : (((rd_T40 l0 x9_2).f0) == 0) = false := beq_eq_false_iff_ne.mpr c14
          have c14b1 : (((rd_T40 l0 x9_2).f0) != 0) = true := bne_iff_ne.mpr c14
          by_cases c17 : ((rd_T40 l0 x9_2).f0) = 1
          ·rw [if_pos c17] at H
           have c17b0 : (((rd_T40 l0 x9_2).f0) == 1) = true := beq_iff_eq.mpr c17
           have c17b1 : (((rd_T40 l0 x9_2).f0) != 1) = false := bne_eq_false_iff_eq.mpr c17
           clear c17
           by_cases c18 : x7_2.length < 4398046511104
           ·rw [if_pos c18] at H
            have LMc18 := a_ c18
            clear c18
            obtain ⟨y374, hy374⟩ : ∃ y_ : List (S38), y_ = (x7_2 ++ [(⟨(rd_T40 l0 x9_2).f1.f0, (rd_T40 l0 x9_2).f1.f1, (rd_T40 l0 x9_2).f1.f2, (rd_T40 l0 x9_2).f1.f3⟩ : S38)]) := ⟨_, rfl⟩
            replace H : (variorumref10_Glues.l0 k2 l0 a2 y374 (wrap64 (x9_2 + 1))) = some r := by first | (rw [hy374]; with_reducible exact H) | (have H2_ := (Option.bind_some _ _).symm.trans H; rw [hy374]; with_reducible exact H2_) | (have H2_ := (Option.bind_some _ _).symm.trans H; with_reducible exact H2_) | with_reducible exact H | (rw [hy374]; exact H) | exact H
            have Ny374 := a_ hy374
            clear hy374
            have H' := a_ H
            clear H
            have p367 : 0 ≤ (x9_2 : Int) := od_
            have q367 : x9_2 < (l0.length : Int) := od_
            obtain ⟨ad367, e367, hx367_0, hx367_1, hx367_2, hx367_3, hx367_4, hx367_5, hx367_6, hx367_7, hx367_8⟩ := at_T40 (Kd.C_below HR0.out HB.out) x9_2 p367 q367
            cases e367
            replace p367 := eq_true p367
            replace q367 := eq_true q367
            have p372 : 0 ≤ (x9_2 : Int) := od_
            have q372 : x9_2 < (l0.length : Int) := od_
            obtain ⟨ad372, e372, hx372_0, hx372_1, hx372_2, hx372_3, hx372_4, hx372_5, hx372_6, hx372_7, hx372_8⟩ := at_T40 (Kd.C_below HR0.out HB.out) x9_2 p372 q372
            obtain rfl : ad367 = ad372 := (by injection e372)
            replace p372 := eq_true p372
            replace q372 := eq_true q372
            have p373 : 0 ≤ (x9_2 : Int) := od_
            have q373 : x9_2 < (l0.length : Int) := od_
            obtain ⟨ad373, e373, hx373_0, hx373_1, hx373_2, hx373_3, hx373_4, hx373_5, hx373_6, hx373_7, hx373_8⟩ := at_T40 (Kd.C_below HR0.out HB.out) x9_2 p373 q373
            obtain rfl : ad367 = ad373 := (by injection e373)
            replace p373 := eq_true p373
            replace q373 := eq_true q373
            go_wp2_with (first | ((with_reducible refine gate_builtin (b := .append) (xs := #[.tmp 43, .tmp 49]) rfl ?_); (try (refine gate_guard (by rfl) ?_; dsimp only)); at_builtin; refine Kd.R_append k38 (w0 := w) w.heap.size rfl (.tmp 43) (.tmp 49) 62 38 (.agg #[(.int .i64 0), (.int .i64 0), (.int .i64 0), (.int .i64 0)]) 32 rfl Try.underlying62 info38 rfl (by decide) (by omega) u7 x7_2 (⟨(rd_T40 l0 x9_2).f1.f0, (rd_T40 l0 x9_2).f1.f1, (rd_T40 l0 x9_2).f1.f2, (rd_T40 l0 x9_2).f1.f3⟩ : S38) [.int .i64 ((rd_T40 l0 x9_2).f1.f0), .int .i64 ((rd_T40 l0 x9_2).f1.f1), .int .i64 ((rd_T40 l0 x9_2).f1.f2), .int .i64 ((rd_T40 l0 x9_2).f1.f3)] (fun _ => True) (fun _ => False) rfl rfl ?aP (fun _ hk => hk.elim) ?aF ?aO ?aB ?aS ?aL ?_; (case aP => exact k38_mkM _ _ _ (⟨(rd_T40 l0 x9_2).f1.f0, (rd_T40 l0 x9_2).f1.f1, (rd_T40 l0 x9_2).f1.f2, (rd_T40 l0 x9_2).f1.f3⟩ : S38)); (case aB => exact (bv_ HB.out)); (case aF => exact (fun _ _ => trivial)); (case aO => exact (rv_ HO_7.out)); (case aS => exact (below_size (bv_ HB.out))); (case aL => have := LMc18.out; omega); intro v375 w19 ho hb hg hat; rw [← Ny374.out] at ho; have n0_ := a_ (hb); have n1_ := a_ (ho); clear HB; clear HO_7; have HB := n0_; have HO376 := n1_; clear n0_ n1_; clear ho hb hg hat))
            go_roundg k2
            case measure => have := HJ3.out; have := HK2.out; omega
            case rel => exact ⟨(y374), (wrap64 (x9_2 + 1)), (by first | rfl | (simp; done) | (simp [*]; done)), H', ⟨by have := HJ3.out; have := HK2.out; omega⟩, ⟨by (with_reducible repeat (first | apply Kd.R_alloc | apply Kd.R_drewN | apply Kd.R_drew)); exact HO376.out⟩, ⟨bv_ HB.out⟩⟩
           ·rw [if_neg c18] at H
            exact absurd H (by simp)
          ·rw [if_neg c17] at H
           have c17b0 : (((rd_T40 l0 x9_2).f0) == 1) = false := beq_eq_false_iff_ne.mpr c17
           have c17b1 : (((rd_T40 l0 x9_2).f0) != 1) = true := bne_iff_ne.mpr c17
           have H' := a_ H
           clear H
           have p367 : 0 ≤ (x9_2 : Int) := od_
           have q367 : x9_2 < (l0.length : Int) := od_
           obtain ⟨ad367, e367, hx367_0, hx367_1, hx367_2, hx367_3, hx367_4, hx367_5, hx367_6, hx367_7, hx367_8⟩ := at_T40 (Kd.C_below HR0.out HB.out) x9_2 p367 q367
           cases e367
           replace p367 := eq_true p367
           replace q367 := eq_true q367
           have p372 : 0 ≤ (x9_2 : Int) := od_
           have q372 : x9_2 < (l0.length : Int) := od_
           obtain ⟨ad372, e372, hx372_0, hx372_1, hx372_2, hx372_3, hx372_4, hx372_5, hx372_6, hx372_7, hx372_8⟩ := at_T40 (Kd.C_below HR0.out HB.out) x9_2 p372 q372
           obtain rfl : ad367 = ad372 := (by injection e372)
           replace p372 := eq_true p372
           replace q372 := eq_true q372
           go_wp2
           go_roundg k2
           case measure => have := HJ3.out; have := HK2.out; omega
           case rel => exact ⟨(x7_2), (wrap64 (x9_2 + 1)), (by first | rfl | (simp; done) | (simp [*]; done)), H', ⟨by have := HJ3.out; have := HK2.out; omega⟩, ⟨by (with_reducible repeat (first | apply Kd.R_alloc | apply Kd.R_drewN | apply Kd.R_drew)); exact HO_7.out⟩, ⟨bv_ HB.out⟩⟩
        ·rw [if_neg c13] at H
         exact absurd H (by simp)
       ·rw [if_neg c12] at H
        exact absurd H (by simp)
      ·rw [if_neg c11] at H
       have c11b0 : decide (x9_2 < a2) = false := decide_eq_false c11
       clear c11
       by_cases c20 : 0 ≤ a2
       ·rw [if_pos c20] at H
        have c20b0 : decide (0 ≤ a2) = true := decide_eq_true c20
        clear c20
        by_cases c21 : a2 < (l0.length : Int)
        ·rw [if_pos c21] at H
         have c21b0 : decide (a2 < (l0.length : Int)) = true := decide_eq_true c21
         clear c21
         by_cases c22 : ((rd_T40 l0 a2).f0) = 2
         ·rw [if_pos c22] at H
          have c22b0 : (((rd_T40 l0 a2).f0) == 2) = true := beq_iff_eq.mpr c22
          have c22b1 : (((rd_T40 l0 a2).f0) != 2) = false := bne_eq_false_iff_eq.mpr c22
          clear c22
          by_cases c23 : x7_2.length < 4398046511104
          ·rw [if_pos c23] at H
           have LMc23 := a_ c23
           clear c23
           obtain ⟨y379, hy379⟩ : ∃ y_ : List (S38), y_ = (x7_2 ++ [(⟨(rd_T40 l0 a2).f1.f0, 0, 0, 0⟩ : S38)]) := ⟨_, rfl⟩
           replace H : (some y379) = some r := by first | (rw [hy379]; with_reducible exact H) | (have H2_ := (Option.bind_some _ _).symm.trans H; rw [hy379]; with_reducible exact H2_) | (have H2_ := (Option.bind_some _ _).symm.trans H; with_reducible exact H2_) | with_reducible exact H | (rw [hy379]; exact H) | exact H
           have Ny379 := a_ hy379
           clear hy379
           obtain rfl := Option.some.inj H
           have p377 : 0 ≤ (a2 : Int) := od_
           have q377 : a2 < (l0.length : Int) := od_
           obtain ⟨ad377, e377, hx377_0, hx377_1, hx377_2, hx377_3, hx377_4, hx377_5, hx377_6, hx377_7, hx377_8⟩ := at_T40 (Kd.C_below HR0.out HB.out) a2 p377 q377
           cases e377
           replace p377 := eq_true p377
           replace q377 := eq_true q377
           have p378 : 0 ≤ (a2 : Int) := od_
           have q378 : a2 < (l0.length : Int) := od_
           obtain ⟨ad378, e378, hx378_0, hx378_1, hx378_2, hx378_3, hx378_4, hx378_5, hx378_6, hx378_7, hx378_8⟩ := at_T40 (Kd.C_below HR0.out HB.out) a2 p378 q378
           obtain rfl : ad377 = ad378 := (by injection e378)
           replace p378 := eq_true p378
           replace q378 := eq_true q378
           go_wp2_with (first | ((with_reducible refine gate_builtin (b := .append) (xs := #[.tmp 57, .tmp 65]) rfl ?_); (try (refine gate_guard (by rfl) ?_; dsimp only)); at_builtin; refine Kd.R_append k38 (w0 := w) w.heap.size rfl (.tmp 57) (.tmp 65) 62 38 (.agg #[(.int .i64 0), (.int .i64 0), (.int .i64 0), (.int .i64 0)]) 32 rfl Try.underlying62 info38 rfl (by decide) (by omega) u7 x7_2 (⟨(rd_T40 l0 a2).f1.f0, 0, 0, 0⟩ : S38) [.int .i64 ((rd_T40 l0 a2).f1.f0), .int .i64 0, .int .i64 0, .int .i64 0] (fun _ => True) (fun _ => False) rfl rfl ?aP (fun _ hk => hk.elim) ?aF ?aO ?aB ?aS ?aL ?_; (case aP => exact k38_mkM _ _ _ (⟨(rd_T40 l0 a2).f1.f0, 0, 0, 0⟩ : S38)); (case aB => exact (bv_ HB.out)); (case aF => exact (fun _ _ => trivial)); (case aO => exact (rv_ HO_7.out)); (case aS => exact (below_size (bv_ HB.out))); (case aL => have := LMc23.out; omega); intro v380 w24 ho hb hg hat; rw [← Ny379.out] at ho; have n0_ := a_ (hb); have n1_ := a_ (ho); clear HB; clear HO_7; have HB := n0_; have HO381 := n1_; clear n0_ n1_; clear ho hb hg hat))
           go_ret
           exact ⟨_, by first | rfl | (simp [errW_none, errW_some] <;> rfl) | (simp [*, errW_none, errW_some] <;> rfl), by (with_reducible repeat (first | apply Kd.R_alloc | apply Kd.R_drewN | apply Kd.R_drew)); exact HO381.out, bv_ HB.out⟩
          ·rw [if_neg c23] at H
           exact absurd H (by simp)
         ·rw [if_neg c22] at H
          have c22b0 : (((rd_T40 l0 a2).f0) == 2) = false := beq_eq_false_iff_ne.mpr c22
          have c22b1 : (((rd_T40 l0 a2).f0) != 2) = true := bne_iff_ne.mpr c22
          obtain rfl := Option.some.inj H
          have p377 : 0 ≤ (a2 : Int) := od_
          have q377 : a2 < (l0.length : Int) := od_
          obtain ⟨ad377, e377, hx377_0, hx377_1, hx377_2, hx377_3, hx377_4, hx377_5, hx377_6, hx377_7, hx377_8⟩ := at_T40 (Kd.C_below HR0.out HB.out) a2 p377 q377
          cases e377
          replace p377 := eq_true p377
          replace q377 := eq_true q377
          go_wp2
          go_ret
          exact ⟨_, by first | rfl | (simp [errW_none, errW_some] <;> rfl) | (simp [*, errW_none, errW_some] <;> rfl), by (with_reducible repeat (first | apply Kd.R_alloc | apply Kd.R_drewN | apply Kd.R_drew)); exact HO_7.out, bv_ HB.out⟩
        ·rw [if_neg c21] at H
         exact absurd H (by simp)
       ·rw [if_neg c20] at H
        exact absurd H (by simp)

end Go.Proofs.Ytpfnfofaajpdmaa.PWi

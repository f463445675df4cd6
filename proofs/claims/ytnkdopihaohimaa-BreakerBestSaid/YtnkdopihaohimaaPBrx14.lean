/- Written by a program of this session: functions of the given program as plain Lean functions, the walks that show it, and the row of each law, for every input that its statement speaks of. -/
import Derived.Test.YtnkdopihaohimaaPBrx0
import Derived.Test.YtnkdopihaohimaaPBrx12
import Derived.Test.YtnkdopihaohimaaPBrx13
namespace Go.Proofs.Ytnkdopihaohimaa.PBr
open Go.RowKit Go.Proofs.YtnkdopihaohimaaW.PrintWords Go.Proofs.YtnkdopihaohimaaW.PrintLast Go.Proofs.YtnkdopihaohimaaW.PrintMore
attribute [local go_sem] max2_int min2_int max_two min_two max_three min_three max_four min_four   -- for this text's walks alone
set_option linter.unusedVariables false
set_option linter.unusedSimpArgs false

/-! ### variorumref03_Set: function 41 -/
def variorumref03_Set.j0 : Nat → Int → Bool → Int → Int → Int → Int → Int → Int → Int → Int → Int → Int → Option (Int × Int × Int × Int × Bool)
 | 0, _, _, _, _, _, _, _, _, _, _, _, _ => none
 | k + 1, x9, x31, x268000, x268001, x268002, x268003, x276000, x276001, x276002, x276003, x276004, x276005 => if x31 = true then (some (x268000, x268001, x268002, x268003, false)) else (if x9 = 0 then (some (x268000, x268001, x268002, x268003, true)) else (if x9 < 0 then ((variorumref03_Badness.f k (wrap64 (-x9)) x276001).bind fun t278 => (if x276001 < (wrap64 (-x9)) then (some ((-1), 0, x9, 1000000, true)) else (some ((-1), 0, x9, t278, true)))) else (if x276005 > 0 then (some (1, 3, x9, 0, true)) else (if x276004 > 0 then (some (1, 2, x9, 0, true)) else (if x276003 > 0 then (some (1, 1, x9, 0, true)) else (if x276002 > 0 then ((variorumref03_Badness.f k x9 x276002).bind fun t279 => (some (1, 0, x9, t279, true))) else (some (0, 0, x9, 10000, true))))))))
def variorumref03_Set.f (k : Nat) (l0 : List (S45)) (a1 : Int) : Option (Int × Int × Int × Int × Bool) := (variorumref03_Total.f k l0).bind fun bt268 => ((variorumref02_Sub.f a1 bt268.1).bind fun bt276 => (if bt268.2.2.2.2.2.2 = true then (variorumref03_Set.j0 k bt276.1 (!bt276.2) 0 0 0 0 bt268.1 bt268.2.1 bt268.2.2.1 bt268.2.2.2.1 bt268.2.2.2.2.1 bt268.2.2.2.2.2.1) else (variorumref03_Set.j0 k bt276.1 true 0 0 0 0 bt268.1 bt268.2.1 bt268.2.2.1 bt268.2.2.2.1 bt268.2.2.2.2.1 bt268.2.2.2.2.2.1)))
theorem variorumref03_Set.mono_l : ∀ k, (∀ y0 y1 y2 y3 y4 y5 y6 y7 y8 y9 y10 y11, LeO (variorumref03_Set.j0 k y0 y1 y2 y3 y4 y5 y6 y7 y8 y9 y10 y11) (variorumref03_Set.j0 (k + 1) y0 y1 y2 y3 y4 y5 y6 y7 y8 y9 y10 y11))
 | 0 => fun _ _ _ _ _ _ _ _ _ _ _ _ r h => by simp [variorumref03_Set.j0] at h
 | k + 1 => by
  have ih0 := variorumref03_Set.mono_l k
  ·intro y0 y1 y2 y3 y4 y5 y6 y7 y8 y9 y10 y11
   unfold variorumref03_Set.j0
   repeat' first | (with_reducible first | exact ih0 _ _ _ _ _ _ _ _ _ _ _ _ | exact variorumref03_Badness.mono _ _ _ | exact variorumref03_Total.mono _ _ | exact LeO.refl _ | exact LeO.none _ | refine LeO.ite ?_ ?_ | refine LeO.bind ?_ (fun _ => ?_)) | exact LeO.none _ | refine LeO.ite ?_ ?_ | refine LeO.bind ?_ (fun _ => ?_)
theorem variorumref03_Set.mono : ∀ a0 a1 k, LeO (variorumref03_Set.f k a0 a1) (variorumref03_Set.f (k + 1) a0 a1) := by
 intro a0 a1 k
 have ih0 := variorumref03_Set.mono_l k
 unfold variorumref03_Set.f
 repeat' first
   | (with_reducible exact ih0 _ _ _ _ _ _ _ _ _ _ _ _)
   | (with_reducible exact variorumref03_Badness.mono _ _ _)
   | (with_reducible exact variorumref03_Total.mono _ _)
   | (with_reducible exact LeO.refl _)
   | (with_reducible exact LeO.none _)
   | (with_reducible refine LeO.ite ?_ ?_)
   | (with_reducible refine LeO.bind ?_ (fun _ => ?_))
   | exact ih0 _ _ _ _ _ _ _ _ _ _ _ _
   | exact variorumref03_Badness.mono _ _ _
   | exact variorumref03_Total.mono _ _
   | exact LeO.none _
   | refine LeO.ite ?_ ?_
   | refine LeO.bind ?_ (fun _ => ?_)
set_option maxHeartbeats 8000000 in
set_option maxRecDepth 100000 in
theorem variorumref03_Set.calls (k : Nat) (A0 : Option Addr) (c0 : Nat) (l0 : List (S45)) (a1 : Int) (r1 : Int) (r2 : Int) (r3 : Int) (r4 : Int) (r5 : Bool) (w : World) (hr0 : Kd.C k45 w A0 l0.length l0) (hc0 : l0.length ≤ c0) (h : variorumref03_Set.f k l0 a1 = some (r1, r2, r3, r4, r5)) :
  Calls Try.prog 41 #[.slice A0 l0.length c0, .int .i64 a1] w fun e w' => e = .returned (.tuple #[.agg #[.int .i64 r1, .int .i64 r2, .int .i64 r3, .int .i64 r4], .bool r5]) ∧ Below w.heap.size w w' := by
 have hu70 := Try.underlying70
 have hu93 := Try.underlying93
 have HR0 := a_ hr0
 have HC0 := a_ hc0
 clear hr0 hc0
 have HB := a_ (Below.refl w.heap.size w)
 have H : ((variorumref03_Total.f k l0).bind fun bt268 => ((variorumref02_Sub.f a1 bt268.1).bind fun bt276 => (if bt268.2.2.2.2.2.2 = true then (variorumref03_Set.j0 k bt276.1 (!bt276.2) 0 0 0 0 bt268.1 bt268.2.1 bt268.2.2.1 bt268.2.2.2.1 bt268.2.2.2.2.1 bt268.2.2.2.2.2.1) else (variorumref03_Set.j0 k bt276.1 true 0 0 0 0 bt268.1 bt268.2.1 bt268.2.2.1 bt268.2.2.2.1 bt268.2.2.2.2.1 bt268.2.2.2.2.2.1)))) = some (r1, r2, r3, r4, r5) := h
 clear h
 replace H := Option.bind_eq_some_iff.mp H
 obtain ⟨⟨t268, t269, t270, t271, t272, t273, t274⟩, A30, H⟩ := H
 replace H : ((variorumref02_Sub.f a1 t268).bind fun bt276 => (if t274 = true then (variorumref03_Set.j0 k bt276.1 (!bt276.2) 0 0 0 0 t268 t269 t270 t271 t272 t273) else (variorumref03_Set.j0 k bt276.1 true 0 0 0 0 t268 t269 t270 t271 t272 t273))) = some (r1, r2, r3, r4, r5) := H
 have A3 := a_ A30
 clear A30
 replace H := Option.bind_eq_some_iff.mp H
 obtain ⟨⟨t276, t277⟩, A40, H⟩ := H
 replace H : (if t274 = true then (variorumref03_Set.j0 k t276 (!t277) 0 0 0 0 t268 t269 t270 t271 t272 t273) else (variorumref03_Set.j0 k t276 true 0 0 0 0 t268 t269 t270 t271 t272 t273)) = some (r1, r2, r3, r4, r5) := H
 have A4 := a_ A40
 clear A40
 have HC5 := a_ H
 clear H
 go_enter Try.func41, Try.ntmps41
 go_upto_region 4 with (first | ((with_reducible refine gate_dst (N := 4) rfl ?_); refine box_event ?hg (N := 4) ?hd (cs := #[.int .i64 0, .int .i64 0, .int .i64 0, .int .i64 0]) (t := 70) ?hr ?_; (case hd => rfl); (case hg => rfl); (case hr => first | (go_simp; done) | (go_simp; rfl)); intro gb266 hg w6 hbox hb; have n0_ := a_ (bs_ HB.out hb); have n1_ := a_ (hbox); have n2_ := a_ ((by rw [hg]; exact (below_size (bv_ HB.out)) : w.heap.size ≤ gb266)); have n3_ := a_ ((by rw [hg]; exact (below_size (bv_ HB.out)) : w.heap.size ≤ gb266)); clear HB; have HB := n0_; have BK266 := n1_; have GW266 := n2_; have GE266 := n3_; clear n0_ n1_ n2_ n3_; clear hb hbox hg) | ((with_reducible refine gate_dst (N := 6) rfl ?_); refine box_event ?hg (N := 6) ?hd (cs := #[.int .i64 0, .int .i64 0, .int .i64 0, .int .i64 0]) (t := 70) ?hr ?_; (case hd => rfl); (case hg => rfl); (case hr => first | (go_simp; done) | (go_simp; rfl)); intro gb267 hg w7 hbox hb; have n0_ := a_ (kb_ BK266.out hb); have n1_ := a_ (below_step (bS1_ HB.out GE266.out) hb); have n2_ := a_ (hbox); have n3_ := a_ ((by rw [hg]; exact (below_size (bS1_ HB.out GE266.out)) : w.heap.size ≤ gb267)); have n4_ := a_ ((by rw [hg]; exact (below_size (bS1_ HB.out GE266.out)) : w.heap.size ≤ gb267)); have n5_ := a_ ((by rw [hg]; exact Nat.ne_of_lt (blk_lt (kv_ BK266.out)) : gb266 ≠ gb267)); have n6_ := a_ ((by rw [hg]; exact Nat.ne_of_gt (blk_lt (kv_ BK266.out)) : gb267 ≠ gb266)); clear BK266; clear HB; have BK266 := n0_; have HB := n1_; have BK267 := n2_; have GW267 := n3_; have GE267 := n4_; have NB266_267 := n5_; have NB267_266 := n6_; clear n0_ n1_ n2_ n3_ n4_ n5_ n6_; clear hb hbox hg; have hnb8 := NB267_266.out; have hnc8 := NB266_267.out; obtain ⟨⟨Z9_0, Y9_0⟩, ⟨Z9_1, Y9_1⟩, ⟨Z9_2, Y9_2⟩, Z9_3, Y9_3⟩ := cs4_ BK267.out) | ((with_reducible refine gate_callee (f := 50) rfl ?_); refine gl_ (some 16) Try.func50 (by kernel_rfl) #[.slice A0 l0.length c0] ?_; (with_reducible refine (variorumref03_Total.calls k _ _ l0 t268 t269 t270 t271 t272 t273 t274 _ ?side1 ?side2 A3.out).mono ?_); (case side1 => exact Kd.C_below HR0.out (bS2_ HB.out GE266.out GE267.out)); (case side2 => exact HC0.out); rintro e w10 ⟨rfl, hb⟩; refine ⟨_, rfl, ?_⟩; have n0_ := a_ (blk_below (kf1_ BK266.out NB266_267.out) hb); have n1_ := a_ (blk_below (g := gb267) (o := .cells #[.int .i64 0, .int .i64 0, .int .i64 0, .int .i64 0] 70 (0, 0)) (kp0_ BK267.out) hb); have n2_ := a_ (below_step (bS2_ HB.out GE266.out GE267.out) hb); clear BK266; clear BK267; clear HB; have BK266 := n0_; have BK267 := n1_; have HB := n2_; clear n0_ n1_ n2_; (try clear hb); (try clear hb2); (try clear hk); (try clear hi)) | ((with_reducible refine gate_dst (N := 7) rfl ?_); refine box_event ?hg (N := 7) ?hd (cs := #[.int .i64 0, .int .i64 0, .int .i64 0, .int .i64 0, .int .i64 0, .int .i64 0]) (t := 93) ?hr ?_; (case hd => rfl); (case hg => rfl); (case hr => first | (go_simp; done) | (go_simp; rfl)); intro gb275 hg w11 hbox hb; have n0_ := a_ (kb_ BK266.out hb); have n1_ := a_ (kb_ BK267.out hb); have n2_ := a_ (below_step (bS2_ HB.out GE266.out GE267.out) hb); have n3_ := a_ (hbox); have n4_ := a_ ((by rw [hg]; exact (below_size (bS2_ HB.out GE266.out GE267.out)) : w.heap.size ≤ gb275)); have n5_ := a_ ((by rw [hg]; exact (below_size (bS2_ HB.out GE266.out GE267.out)) : w.heap.size ≤ gb275)); have n6_ := a_ ((by rw [hg]; exact Nat.ne_of_lt (blk_lt (kv_ BK266.out)) : gb266 ≠ gb275)); have n7_ := a_ ((by rw [hg]; exact Nat.ne_of_gt (blk_lt (kv_ BK266.out)) : gb275 ≠ gb266)); have n8_ := a_ ((by rw [hg]; exact Nat.ne_of_lt (blk_lt (kv_ BK267.out)) : gb267 ≠ gb275)); have n9_ := a_ ((by rw [hg]; exact Nat.ne_of_gt (blk_lt (kv_ BK267.out)) : gb275 ≠ gb267)); clear BK266; clear BK267; clear HB; have BK266 := n0_; have BK267 := n1_; have HB := n2_; have BK275 := n3_; have GW275 := n4_; have GE275 := n5_; have NB266_275 := n6_; have NB275_266 := n7_; have NB267_275 := n8_; have NB275_267 := n9_; clear n0_ n1_ n2_ n3_ n4_ n5_ n6_ n7_ n8_ n9_; clear hb hbox hg; have hnb12 := NB275_266.out; have hnc12 := NB266_275.out; have hnb13 := NB275_267.out; have hnc13 := NB267_275.out; obtain ⟨⟨Z14_0, Y14_0⟩, ⟨Z14_1, Y14_1⟩, ⟨Z14_2, Y14_2⟩, ⟨Z14_3, Y14_3⟩, ⟨Z14_4, Y14_4⟩, Z14_5, Y14_5⟩ := cs6_ BK275.out) | ((with_reducible refine gate_callee (f := 51) rfl ?_); refine gl_ (some 23) Try.func51 (by kernel_rfl) #[.int .i64 a1, .int .i64 t268] ?_; (with_reducible refine (variorumref02_Sub.calls a1 t268 t276 t277 _ A4.out).mono ?_); rintro e w' ⟨rfl, ⟨nd, rfl⟩⟩; refine ⟨_, rfl, ?_⟩))
 (try simp only [Act.put, List.setIfInBounds_toArray, List.set_cons_zero, List.set_cons_succ])
 go_cut [31] (fun v31 wc => ∃ (kq : Nat) (x31_4 : Bool), v31 = .bool x31_4 ∧ Aside0 (variorumref03_Set.j0 kq t276 x31_4 0 0 0 0 t268 t269 t270 t271 t272 t273 = some (r1, r2, r3, r4, r5)) ∧ Aside0 (kq ≤ k) ∧ Aside0 (wc.heap[gb266]? = some (.cells #[.int .i64 0, .int .i64 0, .int .i64 0, .int .i64 0] 70 (0, 0))) ∧ Aside0 (wc.heap[gb267]? = some (.cells #[.int .i64 0, .int .i64 0, .int .i64 0, .int .i64 0] 70 (0, 0))) ∧ Aside0 (wc.heap[gb275]? = some (.cells #[.int .i64 t268, .int .i64 t269, .int .i64 t270, .int .i64 t271, .int .i64 t272, .int .i64 t273] 93 (0, 0))) ∧ Aside0 (Below w.heap.size w wc))
 case first =>
  have H := HC5.out
  clear HC5
  by_cases c15 : t274 = true
  ·subst c15
   have H1 : (variorumref03_Set.j0 k t276 (!t277) 0 0 0 0 t268 t269 t270 t271 t272 t273) = some (r1, r2, r3, r4, r5) := by rw [if_pos rfl] at H; exact H
   clear H
   have H := H1
   clear H1
   have H' := a_ H
   clear H
   go_wp2
   go_meet
   case rel => exact ⟨_, (!t277), (by first | rfl | (simp; done) | (simp [*]; done)), H', ⟨by first | omega | exact Nat.le_refl _⟩, ⟨kf1_ BK266.out NB266_275.out⟩, ⟨kf1_ BK267.out NB267_275.out⟩, ⟨kp0_ BK275.out⟩, ⟨bS3_ HB.out GE266.out GE267.out GE275.out⟩⟩
  ·replace c15 := Bool.eq_false_iff.mpr c15
   subst c15
   have H1 : (variorumref03_Set.j0 k t276 true 0 0 0 0 t268 t269 t270 t271 t272 t273) = some (r1, r2, r3, r4, r5) := by rw [if_neg (show ¬ (false = true) by decide)] at H; exact H
   clear H
   have H := H1
   clear H1
   have H' := a_ H
   clear H
   go_wp2
   go_meet
   case rel => exact ⟨_, (true), (by first | rfl | (simp; done) | (simp [*]; done)), H', ⟨by first | omega | exact Nat.le_refl _⟩, ⟨kf1_ BK266.out NB266_275.out⟩, ⟨kf1_ BK267.out NB267_275.out⟩, ⟨kp0_ BK275.out⟩, ⟨bS3_ HB.out GE266.out GE267.out GE275.out⟩⟩
 case rest =>
  clear HC5
  try clear c1
  try clear p2
  try clear c4
  try clear c5
  try clear c8
  try clear c12
  try clear c13
  try clear c15
  try clear Z14_0
  try clear Z14_1
  try clear Z14_2
  try clear Z14_3
  try clear Z14_4
  try clear Z14_5
  try clear Z9_0
  try clear Z9_1
  try clear Z9_2
  try clear Z9_3
  try clear Y14_0
  try clear Y14_1
  try clear Y14_2
  try clear Y14_3
  try clear Y14_4
  try clear Y14_5
  try clear Y9_0
  try clear Y9_1
  try clear Y9_2
  try clear Y9_3
  obtain ⟨kq, x31_4, rfl, HA, HJ4, BK266, BK267, BK275, HB⟩ := hcut
  cases kq with
  | zero => exact absurd HA.out (by simp [variorumref03_Set.j0])
  | succ kj4 =>
   have H := HA.out
   clear HA
   simp only [variorumref03_Set.j0] at H
   by_cases c16 : x31_4 = true
   ·subst c16
    have H1 : (some (0, 0, 0, 0, false)) = some (r1, r2, r3, r4, r5) := by rw [if_pos rfl] at H; exact H
    clear H
    have H := H1
    clear H1
    simp only [Option.some.injEq, Prod.mk.injEq] at H
    obtain ⟨rfl, rfl, rfl, rfl, rfl⟩ := H
    have hnb17 := NB267_266.out
    have hnc17 := NB266_267.out
    have hnb18 := NB267_275.out
    have hnc18 := NB275_267.out
    obtain ⟨⟨Z19_0, Y19_0⟩, ⟨Z19_1, Y19_1⟩, ⟨Z19_2, Y19_2⟩, Z19_3, Y19_3⟩ := cs4_ BK267.out
    have hnb20 := NB266_275.out
    have hnc20 := NB275_266.out
    obtain ⟨⟨Z21_0, Y21_0⟩, ⟨Z21_1, Y21_1⟩, ⟨Z21_2, Y21_2⟩, Z21_3, Y21_3⟩ := cs4_ BK266.out
    go_wp2
    refine bodyPost_ret (results_ct rfl _ _ gb266 70 #[.int .i64 0, .int .i64 0, .int .i64 0, .int .i64 0] (0, 0) _ rfl (kp0_ BK266.out) Try.underlying70 rfl (by kernel_rfl)) rfl ?_
    exact ⟨by first | rfl | (simp [errW_none, errW_some] <;> rfl) | (simp [*, errW_none, errW_some] <;> rfl), bS3_ HB.out GE266.out GE267.out GE275.out⟩
   ·replace c16 := Bool.eq_false_iff.mpr c16
    subst c16
    have H1 : (if t276 = 0 then (some (0, 0, 0, 0, true)) else (if t276 < 0 then ((variorumref03_Badness.f kj4 (wrap64 (-t276)) t269).bind fun t278 => (if t269 < (wrap64 (-t276)) then (some ((-1), 0, t276, 1000000, true)) else (some ((-1), 0, t276, t278, true)))) else (if t273 > 0 then (some (1, 3, t276, 0, true)) else (if t272 > 0 then (some (1, 2, t276, 0, true)) else (if t271 > 0 then (some (1, 1, t276, 0, true)) else (if t270 > 0 then ((variorumref03_Badness.f kj4 t276 t270).bind fun t279 => (some (1, 0, t276, t279, true))) else (some (0, 0, t276, 10000, true)))))))) = some (r1, r2, r3, r4, r5) := by rw [if_neg (show ¬ (false = true) by decide)] at H; exact H
    clear H
    have H := H1
    clear H1
    by_cases c22 : t276 = 0
    ·rw [if_pos c22] at H
     have c22b0 : (t276 == 0) = true := beq_iff_eq.mpr c22
     have c22b1 : (t276 != 0) = false := bne_eq_false_iff_eq.mpr c22
     clear c22
     simp only [Option.some.injEq, Prod.mk.injEq] at H
     obtain ⟨rfl, rfl, rfl, rfl, rfl⟩ := H
     have hnb23 := NB267_266.out
     have hnc23 := NB266_267.out
     have hnb24 := NB267_275.out
     have hnc24 := NB275_267.out
     obtain ⟨⟨Z25_0, Y25_0⟩, ⟨Z25_1, Y25_1⟩, ⟨Z25_2, Y25_2⟩, Z25_3, Y25_3⟩ := cs4_ BK267.out
     have hnb26 := NB266_275.out
     have hnc26 := NB275_266.out
     obtain ⟨⟨Z27_0, Y27_0⟩, ⟨Z27_1, Y27_1⟩, ⟨Z27_2, Y27_2⟩, Z27_3, Y27_3⟩ := cs4_ BK266.out
     go_wp2
     refine bodyPost_ret (results_ct rfl _ _ gb266 70 #[.int .i64 0, .int .i64 0, .int .i64 0, .int .i64 0] (0, 0) _ rfl (kp0_ BK266.out) Try.underlying70 rfl (by kernel_rfl)) rfl ?_
     exact ⟨by first | rfl | (simp [errW_none, errW_some] <;> rfl) | (simp [*, errW_none, errW_some] <;> rfl), bS3_ HB.out GE266.out GE267.out GE275.out⟩
    ·rw [if_neg c22] at H
     have c22b0 : (t276 == 0) = false := beq_eq_false_iff_ne.mpr c22
     have c22b1 : (t276 != 0) = true := bne_iff_ne.mpr c22
     by_cases c28 : t276 < 0
     ·rw [if_pos c28] at H
      have c28b0 : decide (t276 < 0) = true := decide_eq_true c28
      clear c28
      replace H := Option.bind_eq_some_iff.mp H
      obtain ⟨t278, A290, H⟩ := H
      replace H : (if t269 < (wrap64 (-t276)) then (some ((-1), 0, t276, 1000000, true)) else (some ((-1), 0, t276, t278, true))) = some (r1, r2, r3, r4, r5) := H
      have A29 := a_ A290
      clear A290
      by_cases c30 : t269 < (wrap64 (-t276))
      ·rw [if_pos c30] at H
       have c30b0 : decide (t269 < (wrap64 (-t276))) = true := decide_eq_true c30
       clear c30
       simp only [Option.some.injEq, Prod.mk.injEq] at H
       obtain ⟨rfl, rfl, rfl, rfl, rfl⟩ := H
       have hnb31 := NB275_266.out
       have hnc31 := NB266_275.out
       have hnb32 := NB275_267.out
       have hnc32 := NB267_275.out
       obtain ⟨⟨Z33_0, Y33_0⟩, ⟨Z33_1, Y33_1⟩, ⟨Z33_2, Y33_2⟩, ⟨Z33_3, Y33_3⟩, ⟨Z33_4, Y33_4⟩, Z33_5, Y33_5⟩ := cs6_ BK275.out
       go_wp2_with (first | ((with_reducible refine gate_callee (f := 52) rfl ?_); refine gl_ (some 42) Try.func52 (by kernel_rfl) #[.int .i64 (wrap64 (-t276)), .int .i64 t269] ?_; (with_reducible refine (variorumref03_Badness.calls kj4 (wrap64 (-t276)) t269 t278 _ A29.out).mono ?_); rintro e w' ⟨rfl, ⟨nd, rfl⟩⟩; refine ⟨_, rfl, ?_⟩; (try (rw [drewN_self wc]; generalize hq_ : World.drewN wc _ = wc; have n0_ : Aside0 (wc.heap[gb266]? = some (.cells #[.int .i64 0, .int .i64 0, .int .i64 0, .int .i64 0] 70 (0, 0))) := ⟨by rw [← hq_]; exact (kv_ BK266.out)⟩; have n1_ : Aside0 (wc.heap[gb267]? = some (.cells #[.int .i64 0, .int .i64 0, .int .i64 0, .int .i64 0] 70 (0, 0))) := ⟨by rw [← hq_]; exact (kv_ BK267.out)⟩; have n2_ : Aside0 (wc.heap[gb275]? = some (.cells #[.int .i64 t268, .int .i64 t269, .int .i64 t270, .int .i64 t271, .int .i64 t272, .int .i64 t273] 93 (0, 0))) := ⟨by rw [← hq_]; exact (kv_ BK275.out)⟩; have n3_ : Aside0 (Below w.heap.size w wc) := ⟨by rw [← hq_]; exact (bS3_ HB.out GE266.out GE267.out GE275.out)⟩; clear BK266 BK267 BK275 HB hq_; have BK266 := n0_; have BK267 := n1_; have BK275 := n2_; have HB := n3_; clear n0_ n1_ n2_ n3_)); have hnb34 := NB266_267.out; have hnc34 := NB267_266.out; obtain ⟨⟨Z35_0, Y35_0⟩, ⟨Z35_1, Y35_1⟩, ⟨Z35_2, Y35_2⟩, Z35_3, Y35_3⟩ := cs4_ BK266.out; have hy1 : wc.cell? ⟨gb275, 1, none⟩ = some (.int .i64 t269) := (blk_cell BK275.out 1).trans rfl))
       refine bodyPost_ret (results_ct rfl _ _ gb266 70 #[.int .i64 (-1), .int .i64 0, .int .i64 t276, .int .i64 1000000] (0, 0) _ rfl (kp0_ BK266.out) Try.underlying70 rfl (by kernel_rfl)) rfl ?_
       exact ⟨by first | rfl | (simp [errW_none, errW_some] <;> rfl) | (simp [*, errW_none, errW_some] <;> rfl), bS3_ HB.out GE266.out GE267.out GE275.out⟩
      ·rw [if_neg c30] at H
       have c30b0 : decide (t269 < (wrap64 (-t276))) = false := decide_eq_false c30
       clear c30
       simp only [Option.some.injEq, Prod.mk.injEq] at H
       obtain ⟨rfl, rfl, rfl, rfl, rfl⟩ := H
       have hnb36 := NB275_266.out
       have hnc36 := NB266_275.out
       have hnb37 := NB275_267.out
       have hnc37 := NB267_275.out
       obtain ⟨⟨Z38_0, Y38_0⟩, ⟨Z38_1, Y38_1⟩, ⟨Z38_2, Y38_2⟩, ⟨Z38_3, Y38_3⟩, ⟨Z38_4, Y38_4⟩, Z38_5, Y38_5⟩ := cs6_ BK275.out
       go_wp2_with (first | ((with_reducible refine gate_callee (f := 52) rfl ?_); refine gl_ (some 42) Try.func52 (by kernel_rfl) #[.int .i64 (wrap64 (-t276)), .int .i64 t269] ?_; (with_reducible refine (variorumref03_Badness.calls kj4 (wrap64 (-t276)) t269 t278 _ A29.out).mono ?_); rintro e w' ⟨rfl, ⟨nd, rfl⟩⟩; refine ⟨_, rfl, ?_⟩; (try (rw [drewN_self wc]; generalize hq_ : World.drewN wc _ = wc; have n0_ : Aside0 (wc.heap[gb266]? = some (.cells #[.int .i64 0, .int .i64 0, .int .i64 0, .int .i64 0] 70 (0, 0))) := ⟨by rw [← hq_]; exact (kv_ BK266.out)⟩; have n1_ : Aside0 (wc.heap[gb267]? = some (.cells #[.int .i64 0, .int .i64 0, .int .i64 0, .int .i64 0] 70 (0, 0))) := ⟨by rw [← hq_]; exact (kv_ BK267.out)⟩; have n2_ : Aside0 (wc.heap[gb275]? = some (.cells #[.int .i64 t268, .int .i64 t269, .int .i64 t270, .int .i64 t271, .int .i64 t272, .int .i64 t273] 93 (0, 0))) := ⟨by rw [← hq_]; exact (kv_ BK275.out)⟩; have n3_ : Aside0 (Below w.heap.size w wc) := ⟨by rw [← hq_]; exact (bS3_ HB.out GE266.out GE267.out GE275.out)⟩; clear BK266 BK267 BK275 HB hq_; have BK266 := n0_; have BK267 := n1_; have BK275 := n2_; have HB := n3_; clear n0_ n1_ n2_ n3_)); have hnb39 := NB266_267.out; have hnc39 := NB267_266.out; obtain ⟨⟨Z40_0, Y40_0⟩, ⟨Z40_1, Y40_1⟩, ⟨Z40_2, Y40_2⟩, Z40_3, Y40_3⟩ := cs4_ BK266.out; have hy1 : wc.cell? ⟨gb275, 1, none⟩ = some (.int .i64 t269) := (blk_cell BK275.out 1).trans rfl))
       refine bodyPost_ret (results_ct rfl _ _ gb266 70 #[.int .i64 (-1), .int .i64 0, .int .i64 t276, .int .i64 t278] (0, 0) _ rfl (kp0_ BK266.out) Try.underlying70 rfl (by kernel_rfl)) rfl ?_
       exact ⟨by first | rfl | (simp [errW_none, errW_some] <;> rfl) | (simp [*, errW_none, errW_some] <;> rfl), bS3_ HB.out GE266.out GE267.out GE275.out⟩
     ·rw [if_neg c28] at H
      have c28b0 : decide (t276 < 0) = false := decide_eq_false c28
      clear c28
      by_cases c41 : t273 > 0
      ·rw [if_pos c41] at H
       have c41b0 : decide (0 < t273) = true := decide_eq_true c41
       clear c41
       simp only [Option.some.injEq, Prod.mk.injEq] at H
       obtain ⟨rfl, rfl, rfl, rfl, rfl⟩ := H
       have hnb42 := NB275_266.out
       have hnc42 := NB266_275.out
       have hnb43 := NB275_267.out
       have hnc43 := NB267_275.out
       obtain ⟨⟨Z44_0, Y44_0⟩, ⟨Z44_1, Y44_1⟩, ⟨Z44_2, Y44_2⟩, ⟨Z44_3, Y44_3⟩, ⟨Z44_4, Y44_4⟩, Z44_5, Y44_5⟩ := cs6_ BK275.out
       have hnb45 := NB266_267.out
       have hnc45 := NB267_266.out
       obtain ⟨⟨Z46_0, Y46_0⟩, ⟨Z46_1, Y46_1⟩, ⟨Z46_2, Y46_2⟩, Z46_3, Y46_3⟩ := cs4_ BK266.out
       go_wp2
       refine wp_loop_rounds 4 ?_
       repeat (rw [rounds_succ]; go_wp2)
       refine bodyPost_ret (results_ct rfl _ _ gb266 70 #[.int .i64 1, .int .i64 3, .int .i64 t276, .int .i64 0] (0, 0) _ rfl (kp0_ BK266.out) Try.underlying70 rfl (by kernel_rfl)) rfl ?_
       exact ⟨by first | rfl | (simp [errW_none, errW_some] <;> rfl) | (simp [*, errW_none, errW_some] <;> rfl), bS3_ HB.out GE266.out GE267.out GE275.out⟩
      ·rw [if_neg c41] at H
       have c41b0 : decide (0 < t273) = false := decide_eq_false c41
       clear c41
       by_cases c47 : t272 > 0
       ·rw [if_pos c47] at H
        have c47b0 : decide (0 < t272) = true := decide_eq_true c47
        clear c47
        simp only [Option.some.injEq, Prod.mk.injEq] at H
        obtain ⟨rfl, rfl, rfl, rfl, rfl⟩ := H
        have hnb48 := NB275_266.out
        have hnc48 := NB266_275.out
        have hnb49 := NB275_267.out
        have hnc49 := NB267_275.out
        obtain ⟨⟨Z50_0, Y50_0⟩, ⟨Z50_1, Y50_1⟩, ⟨Z50_2, Y50_2⟩, ⟨Z50_3, Y50_3⟩, ⟨Z50_4, Y50_4⟩, Z50_5, Y50_5⟩ := cs6_ BK275.out
        have hnb51 := NB266_267.out
        have hnc51 := NB267_266.out
        obtain ⟨⟨Z52_0, Y52_0⟩, ⟨Z52_1, Y52_1⟩, ⟨Z52_2, Y52_2⟩, Z52_3, Y52_3⟩ := cs4_ BK266.out
        go_wp2
        refine wp_loop_rounds 4 ?_
        repeat (rw [rounds_succ]; go_wp2)
        refine bodyPost_ret (results_ct rfl _ _ gb266 70 #[.int .i64 1, .int .i64 2, .int .i64 t276, .int .i64 0] (0, 0) _ rfl (kp0_ BK266.out) Try.underlying70 rfl (by kernel_rfl)) rfl ?_
        exact ⟨by first | rfl | (simp [errW_none, errW_some] <;> rfl) | (simp [*, errW_none, errW_some] <;> rfl), bS3_ HB.out GE266.out GE267.out GE275.out⟩
       ·rw [if_neg c47] at H
        have c47b0 : decide (0 < t272) = false := decide_eq_false c47
        clear c47
        by_cases c53 : t271 > 0
        ·rw [if_pos c53] at H
         have c53b0 : decide (0 < t271) = true := decide_eq_true c53
         clear c53
         simp only [Option.some.injEq, Prod.mk.injEq] at H
         obtain ⟨rfl, rfl, rfl, rfl, rfl⟩ := H
         have hnb54 := NB275_266.out
         have hnc54 := NB266_275.out
         have hnb55 := NB275_267.out
         have hnc55 := NB267_275.out
         obtain ⟨⟨Z56_0, Y56_0⟩, ⟨Z56_1, Y56_1⟩, ⟨Z56_2, Y56_2⟩, ⟨Z56_3, Y56_3⟩, ⟨Z56_4, Y56_4⟩, Z56_5, Y56_5⟩ := cs6_ BK275.out
         have hnb57 := NB266_267.out
         have hnc57 := NB267_266.out
         obtain ⟨⟨Z58_0, Y58_0⟩, ⟨Z58_1, Y58_1⟩, ⟨Z58_2, Y58_2⟩, Z58_3, Y58_3⟩ := cs4_ BK266.out
         go_wp2
         refine wp_loop_rounds 4 ?_
         repeat (rw [rounds_succ]; go_wp2)
         refine bodyPost_ret (results_ct rfl _ _ gb266 70 #[.int .i64 1, .int .i64 1, .int .i64 t276, .int .i64 0] (0, 0) _ rfl (kp0_ BK266.out) Try.underlying70 rfl (by kernel_rfl)) rfl ?_
         exact ⟨by first | rfl | (simp [errW_none, errW_some] <;> rfl) | (simp [*, errW_none, errW_some] <;> rfl), bS3_ HB.out GE266.out GE267.out GE275.out⟩
        ·rw [if_neg c53] at H
         have c53b0 : decide (0 < t271) = false := decide_eq_false c53
         clear c53
         by_cases c59 : t270 > 0
         ·rw [if_pos c59] at H
          have c59b0 : decide (0 < t270) = true := decide_eq_true c59
          clear c59
          replace H := Option.bind_eq_some_iff.mp H
          obtain ⟨t279, A600, H⟩ := H
          replace H : (some (1, 0, t276, t279, true)) = some (r1, r2, r3, r4, r5) := H
          have A60 := a_ A600
          clear A600
          simp only [Option.some.injEq, Prod.mk.injEq] at H
          obtain ⟨rfl, rfl, rfl, rfl, rfl⟩ := H
          have hnb61 := NB275_266.out
          have hnc61 := NB266_275.out
          have hnb62 := NB275_267.out
          have hnc62 := NB267_275.out
          obtain ⟨⟨Z63_0, Y63_0⟩, ⟨Z63_1, Y63_1⟩, ⟨Z63_2, Y63_2⟩, ⟨Z63_3, Y63_3⟩, ⟨Z63_4, Y63_4⟩, Z63_5, Y63_5⟩ := cs6_ BK275.out
          go_wp2_with (first | ((with_reducible refine gate_callee (f := 52) rfl ?_); refine gl_ (some 72) Try.func52 (by kernel_rfl) #[.int .i64 t276, .int .i64 t270] ?_; (with_reducible refine (variorumref03_Badness.calls kj4 t276 t270 t279 _ A60.out).mono ?_); rintro e w' ⟨rfl, ⟨nd, rfl⟩⟩; refine ⟨_, rfl, ?_⟩; (try (rw [drewN_self wc]; generalize hq_ : World.drewN wc _ = wc; have n0_ : Aside0 (wc.heap[gb266]? = some (.cells #[.int .i64 0, .int .i64 0, .int .i64 0, .int .i64 0] 70 (0, 0))) := ⟨by rw [← hq_]; exact (kv_ BK266.out)⟩; have n1_ : Aside0 (wc.heap[gb267]? = some (.cells #[.int .i64 0, .int .i64 0, .int .i64 0, .int .i64 0] 70 (0, 0))) := ⟨by rw [← hq_]; exact (kv_ BK267.out)⟩; have n2_ : Aside0 (wc.heap[gb275]? = some (.cells #[.int .i64 t268, .int .i64 t269, .int .i64 t270, .int .i64 t271, .int .i64 t272, .int .i64 t273] 93 (0, 0))) := ⟨by rw [← hq_]; exact (kv_ BK275.out)⟩; have n3_ : Aside0 (Below w.heap.size w wc) := ⟨by rw [← hq_]; exact (bS3_ HB.out GE266.out GE267.out GE275.out)⟩; clear BK266 BK267 BK275 HB hq_; have BK266 := n0_; have BK267 := n1_; have BK275 := n2_; have HB := n3_; clear n0_ n1_ n2_ n3_)); have hnb64 := NB266_267.out; have hnc64 := NB267_266.out; obtain ⟨⟨Z65_0, Y65_0⟩, ⟨Z65_1, Y65_1⟩, ⟨Z65_2, Y65_2⟩, Z65_3, Y65_3⟩ := cs4_ BK266.out))
          refine wp_loop_rounds 4 ?_
          repeat (rw [rounds_succ]; go_wp2_with (first | ((with_reducible refine gate_callee (f := 52) rfl ?_); refine gl_ (some 72) Try.func52 (by kernel_rfl) #[.int .i64 t276, .int .i64 t270] ?_; (with_reducible refine (variorumref03_Badness.calls kj4 t276 t270 t279 _ A60.out).mono ?_); rintro e w' ⟨rfl, ⟨nd, rfl⟩⟩; refine ⟨_, rfl, ?_⟩; (try (rw [drewN_self wc]; generalize hq_ : World.drewN wc _ = wc; have n0_ : Aside0 (wc.heap[gb266]? = some (.cells #[.int .i64 0, .int .i64 0, .int .i64 0, .int .i64 0] 70 (0, 0))) := ⟨by rw [← hq_]; exact (kv_ BK266.out)⟩; have n1_ : Aside0 (wc.heap[gb267]? = some (.cells #[.int .i64 0, .int .i64 0, .int .i64 0, .int .i64 0] 70 (0, 0))) := ⟨by rw [← hq_]; exact (kv_ BK267.out)⟩; have n2_ : Aside0 (wc.heap[gb275]? = some (.cells #[.int .i64 t268, .int .i64 t269, .int .i64 t270, .int .i64 t271, .int .i64 t272, .int .i64 t273] 93 (0, 0))) := ⟨by rw [← hq_]; exact (kv_ BK275.out)⟩; have n3_ : Aside0 (Below w.heap.size w wc) := ⟨by rw [← hq_]; exact (bS3_ HB.out GE266.out GE267.out GE275.out)⟩; clear BK266 BK267 BK275 HB hq_; have BK266 := n0_; have BK267 := n1_; have BK275 := n2_; have HB := n3_; clear n0_ n1_ n2_ n3_)); have hnb64 := NB266_267.out; have hnc64 := NB267_266.out; obtain ⟨⟨Z65_0, Y65_0⟩, ⟨Z65_1, Y65_1⟩, ⟨Z65_2, Y65_2⟩, Z65_3, Y65_3⟩ := cs4_ BK266.out)))
          refine bodyPost_ret (results_ct rfl _ _ gb266 70 #[.int .i64 1, .int .i64 0, .int .i64 t276, .int .i64 t279] (0, 0) _ rfl (kp0_ BK266.out) Try.underlying70 rfl (by kernel_rfl)) rfl ?_
          exact ⟨by first | rfl | (simp [errW_none, errW_some] <;> rfl) | (simp [*, errW_none, errW_some] <;> rfl), bS3_ HB.out GE266.out GE267.out GE275.out⟩
         ·rw [if_neg c59] at H
          have c59b0 : decide (0 < t270) = false := decide_eq_false c59
          clear c59
          simp only [Option.some.injEq, Prod.mk.injEq] at H
          obtain ⟨rfl, rfl, rfl, rfl, rfl⟩ := H
          have hnb66 := NB275_266.out
          have hnc66 := NB266_275.out
          have hnb67 := NB275_267.out
          have hnc67 := NB267_275.out
          obtain ⟨⟨Z68_0, Y68_0⟩, ⟨Z68_1, Y68_1⟩, ⟨Z68_2, Y68_2⟩, ⟨Z68_3, Y68_3⟩, ⟨Z68_4, Y68_4⟩, Z68_5, Y68_5⟩ := cs6_ BK275.out
          have hnb69 := NB266_267.out
          have hnc69 := NB267_266.out
          obtain ⟨⟨Z70_0, Y70_0⟩, ⟨Z70_1, Y70_1⟩, ⟨Z70_2, Y70_2⟩, Z70_3, Y70_3⟩ := cs4_ BK266.out
          go_wp2
          refine wp_loop_rounds 4 ?_
          repeat (rw [rounds_succ]; go_wp2)
          refine bodyPost_ret (results_ct rfl _ _ gb266 70 #[.int .i64 0, .int .i64 0, .int .i64 t276, .int .i64 10000] (0, 0) _ rfl (kp0_ BK266.out) Try.underlying70 rfl (by kernel_rfl)) rfl ?_
          exact ⟨by first | rfl | (simp [errW_none, errW_some] <;> rfl) | (simp [*, errW_none, errW_some] <;> rfl), bS3_ HB.out GE266.out GE267.out GE275.out⟩

/-! ### variorumref10_Glues: function 42 -/
mutual
def variorumref10_Glues.j0 : Nat → List (S47) → Int → Int → List (S45) → Bool → Option ((List (S45)))
 | 0, _, _, _, _, _ => none
 | k + 1, x0, x1, x2, x7, x18 => if x18 = true then (some x7) else ((variorumref10_Start.f k x0 x1).bind fun t283 => (variorumref10_Glues.l0 k x0 x2 x7 t283))
def variorumref10_Glues.l0 : Nat → List (S47) → Int → List (S45) → Int → Option ((List (S45)))
 | 0, _, _, _, _ => none
 | k + 1, x0, x2, x7, x9 => if x9 < x2 then (if 0 ≤ x9 then (if x9 < (x0.length : Int) then (if ((rd_T47 x0 x9).f0) = 0 then (if x7.length < 4398046511104 then (variorumref10_Glues.l0 k x0 x2 (x7 ++ [(⟨(rd_T47 x0 x9).f1.f0, (rd_T47 x0 x9).f1.f1, (rd_T47 x0 x9).f1.f2, (rd_T47 x0 x9).f1.f3⟩ : S45)]) (wrap64 (x9 + 1))) else (none)) else (if ((rd_T47 x0 x9).f0) = 1 then (if x7.length < 4398046511104 then (variorumref10_Glues.l0 k x0 x2 (x7 ++ [(⟨(rd_T47 x0 x9).f1.f0, (rd_T47 x0 x9).f1.f1, (rd_T47 x0 x9).f1.f2, (rd_T47 x0 x9).f1.f3⟩ : S45)]) (wrap64 (x9 + 1))) else (none)) else (variorumref10_Glues.l0 k x0 x2 x7 (wrap64 (x9 + 1))))) else (none)) else (none)) else (if 0 ≤ x2 then (if x2 < (x0.length : Int) then (if ((rd_T47 x0 x2).f0) = 2 then (if x7.length < 4398046511104 then (some (x7 ++ [(⟨(rd_T47 x0 x2).f1.f0, 0, 0, 0⟩ : S45)])) else (none)) else (some x7)) else (none)) else (none))
end
def variorumref10_Glues.f (k : Nat) (l0 : List (S47)) (a1 : Int) (a2 : Int) : Option ((List (S45))) := (some (([] : List (S45)) : List (S45))).bind fun y280 => (if a2 < 0 then (variorumref10_Glues.j0 k l0 a1 a2 y280 true) else (variorumref10_Glues.j0 k l0 a1 a2 y280 (decide (a2 ≥ (l0.length : Int)))))
theorem variorumref10_Glues.mono_l : ∀ k, (∀ y0 y1 y2 y3 y4, LeO (variorumref10_Glues.j0 k y0 y1 y2 y3 y4) (variorumref10_Glues.j0 (k + 1) y0 y1 y2 y3 y4)) ∧ (∀ y0 y1 y2 y3, LeO (variorumref10_Glues.l0 k y0 y1 y2 y3) (variorumref10_Glues.l0 (k + 1) y0 y1 y2 y3))
 | 0 => ⟨fun _ _ _ _ _ r h => by simp [variorumref10_Glues.j0] at h, fun _ _ _ _ r h => by simp [variorumref10_Glues.l0] at h⟩
 | k + 1 => by
  obtain ⟨ih0, ih1⟩ := variorumref10_Glues.mono_l k
  refine ⟨?_, ?_⟩
  ·intro y0 y1 y2 y3 y4
   unfold variorumref10_Glues.j0
   repeat' first | (with_reducible first | exact ih0 _ _ _ _ _ | exact ih1 _ _ _ _ | exact variorumref10_Start.mono _ _ _ | exact LeO.refl _ | exact LeO.none _ | refine LeO.ite ?_ ?_ | refine LeO.bind ?_ (fun _ => ?_)) | exact LeO.none _ | refine LeO.ite ?_ ?_ | refine LeO.bind ?_ (fun _ => ?_)
  ·intro y0 y1 y2 y3
   unfold variorumref10_Glues.l0
   repeat' first | (with_reducible first | exact ih0 _ _ _ _ _ | exact ih1 _ _ _ _ | exact variorumref10_Start.mono _ _ _ | exact LeO.refl _ | exact LeO.none _ | refine LeO.ite ?_ ?_ | refine LeO.bind ?_ (fun _ => ?_)) | exact LeO.none _ | refine LeO.ite ?_ ?_ | refine LeO.bind ?_ (fun _ => ?_)
theorem variorumref10_Glues.mono : ∀ a0 a1 a2 k, LeO (variorumref10_Glues.f k a0 a1 a2) (variorumref10_Glues.f (k + 1) a0 a1 a2) := by
 intro a0 a1 a2 k
 obtain ⟨ih0, ih1⟩ := variorumref10_Glues.mono_l k
 unfold variorumref10_Glues.f
 repeat' first
   | (with_reducible exact ih0 _ _ _ _ _)
   | (with_reducible exact ih1 _ _ _ _)
   | (with_reducible exact variorumref10_Start.mono _ _ _)
   | (with_reducible exact LeO.refl _)
   | (with_reducible exact LeO.none _)
   | (with_reducible refine LeO.ite ?_ ?_)
   | (with_reducible refine LeO.bind ?_ (fun _ => ?_))
   | exact ih0 _ _ _ _ _
   | exact ih1 _ _ _ _
   | exact variorumref10_Start.mono _ _ _
   | exact LeO.none _
   | refine LeO.ite ?_ ?_
   | refine LeO.bind ?_ (fun _ => ?_)
set_option maxHeartbeats 8000000 in
set_option maxRecDepth 100000 in
theorem variorumref10_Glues.calls (k : Nat) (A0 : Option Addr) (c0 : Nat) (l0 : List (S47)) (a1 : Int) (a2 : Int) (r : List (S45)) (w : World) (hr0 : Kd.C k47 w A0 l0.length l0) (hc0 : l0.length ≤ c0) (h : variorumref10_Glues.f k l0 a1 a2 = some r) :
  Calls Try.prog 42 #[.slice A0 l0.length c0, .int .i64 a1, .int .i64 a2] w fun e w' => ∃ v0_ : Value, e = .returned (v0_) ∧ Kd.R k45 45 w' w.heap.size (fun _ => True) v0_ r ∧ Below w.heap.size w w' := by
 have hu45 := Try.underlying45
 have HR0 := a_ hr0
 have HC0 := a_ hc0
 clear hr0 hc0
 have HB := a_ (Below.refl w.heap.size w)
 have H : ((some (([] : List (S45)) : List (S45))).bind fun y280 => (if a2 < 0 then (variorumref10_Glues.j0 k l0 a1 a2 y280 true) else (variorumref10_Glues.j0 k l0 a1 a2 y280 (decide (a2 ≥ (l0.length : Int)))))) = some r := h
 clear h
 obtain ⟨y280, hy280⟩ : ∃ y_ : List (S45), y_ = (([] : List (S45))) := ⟨_, rfl⟩
 replace H : (if a2 < 0 then (variorumref10_Glues.j0 k l0 a1 a2 y280 true) else (variorumref10_Glues.j0 k l0 a1 a2 y280 (decide (a2 ≥ (l0.length : Int))))) = some r := by first | (rw [hy280]; with_reducible exact H) | (have H2_ := (Option.bind_some _ _).symm.trans H; rw [hy280]; with_reducible exact H2_) | (have H2_ := (Option.bind_some _ _).symm.trans H; with_reducible exact H2_) | with_reducible exact H | (rw [hy280]; exact H) | exact H
 have Ny280 := a_ hy280
 clear hy280
 have HC4 := a_ H
 clear H
 go_enter Try.func42, Try.ntmps42
 go_upto_region 2 with (first | ((with_reducible refine gate_dst (N := 10) rfl ?_); (try (refine gate_guard (by rfl) ?_; dsimp only)); refine Kd.R_lit k45 _ 45 ?hg (N := 10) ?hd (xs := ([] : List (S45))) (inner := []) (ok := fun _ => True) (okp := fun _ => True) ?hr ?hp (fun _ hk => hk) trivial (Below.refl _ _) (Nat.le_refl _) (by simp) ?_; (case hd => rfl); (case hg => rfl); (case hr => first | (go_simp; done) | (go_simp; rfl)); (case hp => exact (Reps.none _ _)); intro v281 w5 ho6 hb hg_ hnew_; clear hg_ hnew_; (first | rw [← Ny280.out] at ho6 | (simp only [Int.reduceToNat] at ho6; rw [← Ny280.out] at ho6)); have n0_ := a_ (Kd.R_lower ho6 (below_size (bv_ HB.out))); have n1_ := a_ (bs_ HB.out hb); clear HB; have HO282 := n0_; have HB := n1_; clear n0_ n1_; clear hb ho6))
 (try simp only [Act.put, List.setIfInBounds_toArray, List.set_cons_zero, List.set_cons_succ])
 go_cut [18] (fun v18 wc => ∃ (kq : Nat) (x18_3 : Bool), v18 = .bool x18_3 ∧ Aside0 (variorumref10_Glues.j0 kq l0 a1 a2 y280 x18_3 = some r) ∧ Aside0 (kq ≤ k) ∧ Aside0 (Kd.R k45 45 wc w.heap.size (fun _ => True) v281 y280) ∧ Aside0 (Below w.heap.size w wc))
 case first =>
  have H := HC4.out
  clear HC4
  by_cases c7 : a2 < 0
  ·rw [if_pos c7] at H
   have c7b0 : decide (a2 < 0) = true := decide_eq_true c7
   clear c7
   (first | rw [c7b0] | (simp only [i64_w, i32_w]; rw [c7b0]) | skip)
   have H' := a_ H
   clear H
   go_wp2
   go_meet
   case rel => exact ⟨_, (true), (by first | rfl | (simp; done) | (simp [*]; done)), H', ⟨by first | omega | exact Nat.le_refl _⟩, ⟨by (with_reducible repeat (first | apply Kd.R_alloc | apply Kd.R_drewN | apply Kd.R_drew)); exact HO282.out⟩, ⟨bv_ HB.out⟩⟩
  ·rw [if_neg c7] at H
   have c7b0 : decide (a2 < 0) = false := decide_eq_false c7
   clear c7
   (first | rw [c7b0] | (simp only [i64_w, i32_w]; rw [c7b0]) | skip)
   have H' := a_ H
   clear H
   go_wp2
   go_meet
   case rel => exact ⟨_, (decide (a2 ≥ (l0.length : Int))), (by first | rfl | (simp; done) | (simp [*]; done)), H', ⟨by first | omega | exact Nat.le_refl _⟩, ⟨by (with_reducible repeat (first | apply Kd.R_alloc | apply Kd.R_drewN | apply Kd.R_drew)); exact HO282.out⟩, ⟨bv_ HB.out⟩⟩
 case rest =>
  clear HC4
  try clear p2
  try clear c4
  try clear c7
  try clear c7b0
  obtain ⟨kq, x18_3, rfl, HA, HJ3, HO_7, HB⟩ := hcut
  cases kq with
  | zero => exact absurd HA.out (by simp [variorumref10_Glues.j0])
  | succ kj3 =>
   have H := HA.out
   clear HA
   simp only [variorumref10_Glues.j0] at H
   by_cases c8 : x18_3 = true
   ·subst c8
    have H1 : (some y280) = some r := by rw [if_pos rfl] at H; exact H
    clear H
    have H := H1
    clear H1
    obtain rfl := Option.some.inj H
    go_wp2
    go_ret
    exact ⟨_, by first | rfl | (simp [errW_none, errW_some] <;> rfl) | (simp [*, errW_none, errW_some] <;> rfl), by (with_reducible repeat (first | apply Kd.R_alloc | apply Kd.R_drewN | apply Kd.R_drew)); exact HO_7.out, bv_ HB.out⟩
   ·replace c8 := Bool.eq_false_iff.mpr c8
    subst c8
    have H1 : ((variorumref10_Start.f kj3 l0 a1).bind fun t283 => (variorumref10_Glues.l0 kj3 l0 a2 y280 t283)) = some r := by rw [if_neg (show ¬ (false = true) by decide)] at H; exact H
    clear H
    have H := H1
    clear H1
    replace H := Option.bind_eq_some_iff.mp H
    obtain ⟨t283, A90, H⟩ := H
    replace H : (variorumref10_Glues.l0 kj3 l0 a2 y280 t283) = some r := H
    have A9 := a_ A90
    clear A90
    have H' := a_ H
    clear H
    go_wp2_with (first | ((with_reducible refine gate_callee (f := 40) rfl ?_); refine gl_ (some 22) Try.func40 (by kernel_rfl) #[.slice A0 l0.length c0, .int .i64 a1] ?_; (with_reducible refine (variorumref10_Start.calls kj3 _ _ l0 a1 t283 _ ?side1 ?side2 A9.out).mono ?_); (case side1 => exact cw_ HR0.out HB.out); (case side2 => exact HC0.out); rintro e w10 ⟨rfl, hb⟩; refine ⟨_, rfl, ?_⟩; have n0_ := a_ (Kd.R_below (rv_ HO_7.out) hb); have n1_ := a_ (bs_ HB.out hb); clear HO_7; clear HB; have HO_7 := n0_; have HB := n1_; clear n0_ n1_; (try clear hb); (try clear hb2); (try clear hk); (try clear hi)))
    go_loopg [7, 9] kj3 (fun kq v7 v9 w' => ∃ (x7_2 : List (S45)) (x9_2 : Int), v9 = .int .i64 x9_2 ∧ Aside0 (variorumref10_Glues.l0 kq l0 a2 x7_2 x9_2 = some r) ∧ Aside0 (kq ≤ kj3) ∧ Aside0 (Kd.R k45 45 w' w.heap.size (fun _ => True) v7 x7_2) ∧ Aside0 (Below w.heap.size w w'))
    case atStart => exact ⟨(y280), (t283), (by first | rfl | (simp; done) | (simp [*]; done)), H', ⟨Nat.le_refl _⟩, ⟨by (with_reducible repeat (first | apply Kd.R_alloc | apply Kd.R_drewN | apply Kd.R_drew)); exact HO_7.out⟩, ⟨bv_ HB.out⟩⟩
    case round =>
     clear H'
     try clear p2
     try clear c4
     try clear c7
     try clear c7b0
     try clear c8
     try clear p2
     obtain ⟨x7_2, x9_2, rfl, HA, HK2, HO_7, HB⟩ := hrel
     cases gk with
     | zero => exact absurd HA.out (by simp [variorumref10_Glues.l0])
     | succ k2 =>
      have H := HA.out
      clear HA
      simp only [variorumref10_Glues.l0] at H
      by_cases c11 : x9_2 < a2
      ·rw [if_pos c11] at H
       have c11b0 : decide (x9_2 < a2) = true := decide_eq_true c11
       clear c11
       by_cases c12 : 0 ≤ x9_2
       ·rw [if_pos c12] at H
        have c12b0 : decide (0 ≤ x9_2) = true := decide_eq_true c12
        clear c12
        by_cases c13 : x9_2 < (l0.length : Int)
        ·rw [if_pos c13] at H
         have c13b0 : decide (x9_2 < (l0.length : Int)) = true := decide_eq_true c13
         clear c13
         by_cases c14 : ((rd_T47 l0 x9_2).f0) = 0
         ·rw [if_pos c14] at H
          have c14b0 : (((rd_T47 l0 x9_2).f0) == 0) = true := beq_iff_eq.mpr c14
          have c14b1 : (((rd_T47 l0 x9_2).f0) != 0) = false := bne_eq_false_iff_eq.mpr c14
          clear c14
          by_cases c15 : x7_2.length < 4398046511104
          ·rw [if_pos c15] at H
           have LMc15 := a_ c15
           clear c15
           obtain ⟨y286, hy286⟩ : ∃ y_ : List (S45), y_ = (x7_2 ++ [(⟨(rd_T47 l0 x9_2).f1.f0, (rd_T47 l0 x9_2).f1.f1, (rd_T47 l0 x9_2).f1.f2, (rd_T47 l0 x9_2).f1.f3⟩ : S45)]) := ⟨_, rfl⟩
           replace H : (variorumref10_Glues.l0 k2 l0 a2 y286 (wrap64 (x9_2 + 1))) = some r := by first | (rw [hy286]; with_reducible exact H) | (have H2_ := (Option.bind_some _ _).symm.trans H; rw [hy286]; with_reducible exact H2_) | (have H2_ := (Option.bind_some _ _).symm.trans H; with_reducible exact H2_) | with_reducible exact H | (rw [hy286]; exact H) | exact H
           have Ny286 := a_ hy286
           clear hy286
           have H' := a_ H
           clear H
           have p284 : 0 ≤ (x9_2 : Int) := od_
           have q284 : x9_2 < (l0.length : Int) := od_
           obtain ⟨ad284, e284, hx284_0, hx284_1, hx284_2, hx284_3, hx284_4, hx284_5, hx284_6, hx284_7, hx284_8⟩ := at_T47 (Kd.C_below HR0.out HB.out) x9_2 p284 q284
           cases e284
           replace p284 := eq_true p284
           replace q284 := eq_true q284
           have p285 : 0 ≤ (x9_2 : Int) := od_
           have q285 : x9_2 < (l0.length : Int) := od_
           obtain ⟨ad285, e285, hx285_0, hx285_1, hx285_2, hx285_3, hx285_4, hx285_5, hx285_6, hx285_7, hx285_8⟩ := at_T47 (Kd.C_below HR0.out HB.out) x9_2 p285 q285
           obtain rfl : ad284 = ad285 := (by injection e285)
           replace p285 := eq_true p285
           replace q285 := eq_true q285
           go_wp2_with (first | ((with_reducible refine gate_builtin (b := .append) (xs := #[.tmp 43, .tmp 49]) rfl ?_); (try (refine gate_guard (by rfl) ?_; dsimp only)); at_builtin; refine Kd.R_append k45 (w0 := w) w.heap.size rfl (.tmp 43) (.tmp 49) 67 45 (.agg #[(.int .i64 0), (.int .i64 0), (.int .i64 0), (.int .i64 0)]) 32 rfl Try.underlying67 info45 rfl (by decide) (by omega) u7 x7_2 (⟨(rd_T47 l0 x9_2).f1.f0, (rd_T47 l0 x9_2).f1.f1, (rd_T47 l0 x9_2).f1.f2, (rd_T47 l0 x9_2).f1.f3⟩ : S45) [.int .i64 ((rd_T47 l0 x9_2).f1.f0), .int .i64 ((rd_T47 l0 x9_2).f1.f1), .int .i64 ((rd_T47 l0 x9_2).f1.f2), .int .i64 ((rd_T47 l0 x9_2).f1.f3)] (fun _ => True) (fun _ => False) rfl rfl ?aP (fun _ hk => hk.elim) ?aF ?aO ?aB ?aS ?aL ?_; (case aP => exact k45_mkM _ _ _ (⟨(rd_T47 l0 x9_2).f1.f0, (rd_T47 l0 x9_2).f1.f1, (rd_T47 l0 x9_2).f1.f2, (rd_T47 l0 x9_2).f1.f3⟩ : S45)); (case aB => exact (bv_ HB.out)); (case aF => exact (fun _ _ => trivial)); (case aO => exact (rv_ HO_7.out)); (case aS => exact (below_size (bv_ HB.out))); (case aL => have := LMc15.out; omega); intro v287 w16 ho hb hg hat; rw [← Ny286.out] at ho; have n0_ := a_ (hb); have n1_ := a_ (ho); clear HB; clear HO_7; have HB := n0_; have HO288 := n1_; clear n0_ n1_; clear ho hb hg hat))
           go_roundg k2
           case measure => have := HJ3.out; have := HK2.out; omega
           case rel => exact ⟨(y286), (wrap64 (x9_2 + 1)), (by first | rfl | (simp; done) | (simp [*]; done)), H', ⟨by have := HJ3.out; have := HK2.out; omega⟩, ⟨by (with_reducible repeat (first | apply Kd.R_alloc | apply Kd.R_drewN | apply Kd.R_drew)); exact HO288.out⟩, ⟨bv_ HB.out⟩⟩
          ·rw [if_neg c15] at H
           exact absurd H (by simp)
         ·rw [if_neg c14] at H
          have c14b0 : (((rd_T47 l0 x9_2).f0) == 0) = false := beq_eq_false_iff_ne.mpr c14
          have c14b1 : (((rd_T47 l0 x9_2).f0) != 0) = true := bne_iff_ne.mpr c14
          by_cases c17 : ((rd_T47 l0 x9_2).f0) = 1
          ·rw [if_pos c17] at H
           have c17b0 : (((rd_T47 l0 x9_2).f0) == 1) = true := beq_iff_eq.mpr c17
           have c17b1 : (((rd_T47 l0 x9_2).f0) != 1) = false := bne_eq_false_iff_eq.mpr c17
           clear c17
           by_cases c18 : x7_2.length < 4398046511104
           ·rw [if_pos c18] at H
            have LMc18 := a_ c18
            clear c18
            obtain ⟨y291, hy291⟩ : ∃ y_ : List (S45), y_ = (x7_2 ++ [(⟨(rd_T47 l0 x9_2).f1.f0, (rd_T47 l0 x9_2).f1.f1, (rd_T47 l0 x9_2).f1.f2, (rd_T47 l0 x9_2).f1.f3⟩ : S45)]) := ⟨_, rfl⟩
            replace H : (variorumref10_Glues.l0 k2 l0 a2 y291 (wrap64 (x9_2 + 1))) = some r := by first | (rw [hy291]; with_reducible exact H) | (have H2_ := (Option.bind_some _ _).symm.trans H; rw [hy291]; with_reducible exact H2_) | (have H2_ := (Option.bind_some _ _).symm.trans H; with_reducible exact H2_) | with_reducible exact H | (rw [hy291]; exact H) | exact H
            have Ny291 := a_ hy291
            clear hy291
            have H' := a_ H
            clear H
            have p284 : 0 ≤ (x9_2 : Int) := od_
            have q284 : x9_2 < (l0.length : Int) := od_
            obtain ⟨ad284, e284, hx284_0, hx284_1, hx284_2, hx284_3, hx284_4, hx284_5, hx284_6, hx284_7, hx284_8⟩ := at_T47 (Kd.C_below HR0.out HB.out) x9_2 p284 q284
            cases e284
            replace p284 := eq_true p284
            replace q284 := eq_true q284
            have p289 : 0 ≤ (x9_2 : Int) := od_
            have q289 : x9_2 < (l0.length : Int) := od_
            obtain ⟨ad289, e289, hx289_0, hx289_1, hx289_2, hx289_3, hx289_4, hx289_5, hx289_6, hx289_7, hx289_8⟩ := at_T47 (Kd.C_below HR0.out HB.out) x9_2 p289 q289
            obtain rfl : ad284 = ad289 := (by injection e289)
            replace p289 := eq_true p289
            replace q289 := eq_true q289
            have p290 : 0 ≤ (x9_2 : Int) := od_
            have q290 : x9_2 < (l0.length : Int) := od_
            obtain ⟨ad290, e290, hx290_0, hx290_1, hx290_2, hx290_3, hx290_4, hx290_5, hx290_6, hx290_7, hx290_8⟩ := at_T47 (Kd.C_below HR0.out HB.out) x9_2 p290 q290
            obtain rfl : ad284 = ad290 := (by injection e290)
            replace p290 := eq_true p290
            replace q290 := eq_true q290
            go_wp2_with (first | ((with_reducible refine gate_builtin (b := .append) (xs := #[.tmp 43, .tmp 49]) rfl ?_); (try (refine gate_guard (by rfl) ?_; dsimp only)); at_builtin; refine Kd.R_append k45 (w0 := w) w.heap.size rfl (.tmp 43) (.tmp 49) 67 45 (.agg #[(.int .i64 0), (.int .i64 0), (.int .i64 0), (.int .i64 0)]) 32 rfl Try.underlying67 info45 rfl (by decide) (by omega) u7 x7_2 (⟨(rd_T47 l0 x9_2).f1.f0, (rd_T47 l0 x9_2).f1.f1, (rd_T47 l0 x9_2).f1.f2, (rd_T47 l0 x9_2).f1.f3⟩ : S45) [.int .i64 ((rd_T47 l0 x9_2).f1.f0), .int .i64 ((rd_T47 l0 x9_2).f1.f1), .int .i64 ((rd_T47 l0 x9_2).f1.f2), .int .i64 ((rd_T47 l0 x9_2).f1.f3)] (fun _ => True) (fun _ => False) rfl rfl ?aP (fun _ hk => hk.elim) ?aF ?aO ?aB ?aS ?aL ?_; (case aP => exact k45_mkM _ _ _ (⟨(rd_T47 l0 x9_2).f1.f0, (rd_T47 l0 x9_2).f1.f1, (rd_T47 l0 x9_2).f1.f2, (rd_T47 l0 x9_2).f1.f3⟩ : S45)); (case aB => exact (bv_ HB.out)); (case aF => exact (fun _ _ => trivial)); (case aO => exact (rv_ HO_7.out)); (case aS => exact (below_size (bv_ HB.out))); (case aL => have := LMc18.out; omega); intro v292 w19 ho hb hg hat; rw [← Ny291.out] at ho; have n0_ := a_ (hb); have n1_ := a_ (ho); clear HB; clear HO_7; have HB := n0_; have HO293 := n1_; clear n0_ n1_; clear ho hb hg hat))
            go_roundg k2
            case measure => have := HJ3.out; have := HK2.out; omega
            case rel => exact ⟨(y291), (wrap64 (x9_2 + 1)), (by first | rfl | (simp; done) | (simp [*]; done)), H', ⟨by have := HJ3.out; have := HK2.out; omega⟩, ⟨by (with_reducible repeat (first | apply Kd.R_alloc | apply Kd.R_drewN | apply Kd.R_drew)); exact HO293.out⟩, ⟨bv_ HB.out⟩⟩
           ·rw [if_neg c18] at H
            exact absurd H (by simp)
          ·rw [if_neg c17] at H
           have c17b0 : (((rd_T47 l0 x9_2).f0) == 1) = false := beq_eq_false_iff_ne.mpr c17
           have c17b1 : (((rd_T47 l0 x9_2).f0) != 1) = true := bne_iff_ne.mpr c17
           have H' := a_ H
           clear H
           have p284 : 0 ≤ (x9_2 : Int) := od_
           have q284 : x9_2 < (l0.length : Int) := od_
           obtain ⟨ad284, e284, hx284_0, hx284_1, hx284_2, hx284_3, hx284_4, hx284_5, hx284_6, hx284_7, hx284_8⟩ := at_T47 (Kd.C_below HR0.out HB.out) x9_2 p284 q284
           cases e284
           replace p284 := eq_true p284
           replace q284 := eq_true q284
           have p289 : 0 ≤ (x9_2 : Int) := od_
           have q289 : x9_2 < (l0.length : Int) := od_
           obtain ⟨ad289, e289, hx289_0, hx289_1, hx289_2, hx289_3, hx289_4, hx289_5, hx289_6, hx289_7, hx289_8⟩ := at_T47 (Kd.C_below HR0.out HB.out) x9_2 p289 q289
           obtain rfl : ad284 = ad289 := (by injection e289)
           replace p289 := eq_true p289
           replace q289 := eq_true q289
           go_wp2
           go_roundg k2
           case measure => have := HJ3.out; have := HK2.out; omega
           case rel => exact ⟨(x7_2), (wrap64 (x9_2 + 1)), (by first | rfl | (simp; done) | (simp [*]; done)), H', ⟨by have := HJ3.out; have := HK2.out; omega⟩, ⟨by (with_reducible repeat (first | apply Kd.R_alloc | apply Kd.R_drewN | apply Kd.R_drew)); exact HO_7.out⟩, ⟨bv_ HB.out⟩⟩
        ·rw [if_neg c13] at H
         exact absurd H (by simp)
       ·rw [if_neg c12] at H
        exact absurd H (by simp)
      ·rw [if_neg c11] at H
       have c11b0 : decide (x9_2 < a2) = false := decide_eq_false c11
       clear c11
       by_cases c20 : 0 ≤ a2
       ·rw [if_pos c20] at H
        have c20b0 : decide (0 ≤ a2) = true := decide_eq_true c20
        clear c20
        by_cases c21 : a2 < (l0.length : Int)
        ·rw [if_pos c21] at H
         have c21b0 : decide (a2 < (l0.length : Int)) = true := decide_eq_true c21
         clear c21
         by_cases c22 : ((rd_T47 l0 a2).f0) = 2
         ·rw [if_pos c22] at H
          have c22b0 : (((rd_T47 l0 a2).f0) == 2) = true := beq_iff_eq.mpr c22
          have c22b1 : (((rd_T47 l0 a2).f0) != 2) = false := bne_eq_false_iff_eq.mpr c22
          clear c22
          by_cases c23 : x7_2.length < 4398046511104
          ·rw [if_pos c23] at H
           have LMc23 := a_ c23
           clear c23
           obtain ⟨y296, hy296⟩ : ∃ y_ : List (S45), y_ = (x7_2 ++ [(⟨(rd_T47 l0 a2).f1.f0, 0, 0, 0⟩ : S45)]) := ⟨_, rfl⟩
           replace H : (some y296) = some r := by first | (rw [hy296]; with_reducible exact H) | (have H2_ := (Option.bind_some _ _).symm.trans H; rw [hy296]; with_reducible exact H2_) | (have H2_ := (Option.bind_some _ _).symm.trans H; with_reducible exact H2_) | with_reducible exact H | (rw [hy296]; exact H) | exact H
           have Ny296 := a_ hy296
           clear hy296
           obtain rfl := Option.some.inj H
           have p294 : 0 ≤ (a2 : Int) := od_
           have q294 : a2 < (l0.length : Int) := od_
           obtain ⟨ad294, e294, hx294_0, hx294_1, hx294_2, hx294_3, hx294_4, hx294_5, hx294_6, hx294_7, hx294_8⟩ := at_T47 (Kd.C_below HR0.out HB.out) a2 p294 q294
           cases e294
           replace p294 := eq_true p294
           replace q294 := eq_true q294
           have p295 : 0 ≤ (a2 : Int) := od_
           have q295 : a2 < (l0.length : Int) := od_
           obtain ⟨ad295, e295, hx295_0, hx295_1, hx295_2, hx295_3, hx295_4, hx295_5, hx295_6, hx295_7, hx295_8⟩ := at_T47 (Kd.C_below HR0.out HB.out) a2 p295 q295
           obtain rfl : ad294 = ad295 := (by injection e295)
           replace p295 := eq_true p295
           replace q295 := eq_true q295
           go_wp2_with (first | ((with_reducible refine gate_builtin (b := .append) (xs := #[.tmp 57, .tmp 65]) rfl ?_); (try (refine gate_guard (by rfl) ?_; dsimp only)); at_builtin; refine Kd.R_append k45 (w0 := w) w.heap.size rfl (.tmp 57) (.tmp 65) 67 45 (.agg #[(.int .i64 0), (.int .i64 0), (.int .i64 0), (.int .i64 0)]) 32 rfl Try.underlying67 info45 rfl (by decide) (by omega) u7 x7_2 (⟨(rd_T47 l0 a2).f1.f0, 0, 0, 0⟩ : S45) [.int .i64 ((rd_T47 l0 a2).f1.f0), .int .i64 0, .int .i64 0, .int .i64 0] (fun _ => True) (fun _ => False) rfl rfl ?aP (fun _ hk => hk.elim) ?aF ?aO ?aB ?aS ?aL ?_; (case aP => exact k45_mkM _ _ _ (⟨(rd_T47 l0 a2).f1.f0, 0, 0, 0⟩ : S45)); (case aB => exact (bv_ HB.out)); (case aF => exact (fun _ _ => trivial)); (case aO => exact (rv_ HO_7.out)); (case aS => exact (below_size (bv_ HB.out))); (case aL => have := LMc23.out; omega); intro v297 w24 ho hb hg hat; rw [← Ny296.out] at ho; have n0_ := a_ (hb); have n1_ := a_ (ho); clear HB; clear HO_7; have HB := n0_; have HO298 := n1_; clear n0_ n1_; clear ho hb hg hat))
           go_ret
           exact ⟨_, by first | rfl | (simp [errW_none, errW_some] <;> rfl) | (simp [*, errW_none, errW_some] <;> rfl), by (with_reducible repeat (first | apply Kd.R_alloc | apply Kd.R_drewN | apply Kd.R_drew)); exact HO298.out, bv_ HB.out⟩
          ·rw [if_neg c23] at H
           exact absurd H (by simp)
         ·rw [if_neg c22] at H
          have c22b0 : (((rd_T47 l0 a2).f0) == 2) = false := beq_eq_false_iff_ne.mpr c22
          have c22b1 : (((rd_T47 l0 a2).f0) != 2) = true := bne_iff_ne.mpr c22
          obtain rfl := Option.some.inj H
          have p294 : 0 ≤ (a2 : Int) := od_
          have q294 : a2 < (l0.length : Int) := od_
          obtain ⟨ad294, e294, hx294_0, hx294_1, hx294_2, hx294_3, hx294_4, hx294_5, hx294_6, hx294_7, hx294_8⟩ := at_T47 (Kd.C_below HR0.out HB.out) a2 p294 q294
          cases e294
          replace p294 := eq_true p294
          replace q294 := eq_true q294
          go_wp2
          go_ret
          exact ⟨_, by first | rfl | (simp [errW_none, errW_some] <;> rfl) | (simp [*, errW_none, errW_some] <;> rfl), by (with_reducible repeat (first | apply Kd.R_alloc | apply Kd.R_drewN | apply Kd.R_drew)); exact HO_7.out, bv_ HB.out⟩
        ·rw [if_neg c21] at H
         exact absurd H (by simp)
       ·rw [if_neg c20] at H
        exact absurd H (by simp)

end Go.Proofs.Ytnkdopihaohimaa.PBr

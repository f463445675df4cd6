/- Written by a program of this session: functions of the given program as plain Lean functions, the walks that show it, and the row of each law, for every input that its statement speaks of. -/
import Derived.Test.YtpfnfofaajpdmaaPWix0
import Derived.Test.YtpfnfofaajpdmaaPWix7
import Derived.Test.YtpfnfofaajpdmaaPWix8
namespace Go.Proofs.Ytpfnfofaajpdmaa.PWi
open Go.RowKit Go.Proofs.YtpfnfofaajpdmaaW.PrintWords Go.Proofs.YtpfnfofaajpdmaaW.PrintLast Go.Proofs.YtpfnfofaajpdmaaW.PrintMore
attribute [local go_sem] max2_int min2_int max_two min_two max_three min_three max_four min_four   -- for this text's walks alone
set_option linter.unusedVariables false
set_option linter.unusedSimpArgs false

/-! ### glue_Set: function 44 -/
mutual
def glue_Set.j0 : Nat → Int → Bool → Int → Int → Int → Int → Int → Int → Option (Int × Int × Int × Int × Bool)
 | 0, _, _, _, _, _, _, _, _ => none
 | k + 1, x8, x30, x172000, x172001, x172002, x172003, x172004, x172005 => if x30 = true then (some (0, 0, 0, 0, false)) else (if x8 < 0 then ((glue_Badness.f k (wrap64 (-x8)) x172001).bind fun t175 => (if (wrap64 (-x8)) > x172001 then (some ((-1), 0, x8, 1000000, true)) else (some ((-1), 0, x8, t175, true)))) else (if x8 > 0 then (if x172002 = 0 then (glue_Set.j1 k x172000 x172001 x172002 x172003 x172004 x172005 0 0 x8 10000) else ((glue_Badness.f k x8 x172002).bind fun t176 => (glue_Set.j1 k x172000 x172001 x172002 x172003 x172004 x172005 1 0 x8 t176))) else (some (0, 0, x8, 0, true))))
def glue_Set.j1 : Nat → Int → Int → Int → Int → Int → Int → Int → Int → Int → Int → Option (Int × Int × Int × Int × Bool)
 | 0, _, _, _, _, _, _, _, _, _, _ => none
 | k + 1, x172000, x172001, x172002, x172003, x172004, x172005, x175000, x175001, x175002, x175003 => if x172003 = 0 then (glue_Set.j2 k x172000 x172001 x172002 x172003 x172004 x172005 x175000 x175001 x175002 x175003) else (glue_Set.j2 k x172000 x172001 x172002 x172003 x172004 x172005 1 1 x175002 0)
def glue_Set.j2 : Nat → Int → Int → Int → Int → Int → Int → Int → Int → Int → Int → Option (Int × Int × Int × Int × Bool)
 | 0, _, _, _, _, _, _, _, _, _, _ => none
 | k + 1, x172000, x172001, x172002, x172003, x172004, x172005, x175000, x175001, x175002, x175003 => if x172004 = 0 then (if x172005 = 0 then (some (x175000, x175001, x175002, x175003, true)) else (some (1, 3, x175002, 0, true))) else (if x172005 = 0 then (some (1, 2, x175002, 0, true)) else (some (1, 3, x175002, 0, true)))
end
def glue_Set.f (k : Nat) (l0 : List (S38)) (a1 : Int) : Option (Int × Int × Int × Int × Bool) := (glue_Total.f k l0).bind fun bt164 => ((scaled_Sub.f a1 bt164.1).bind fun bt172 => (if bt164.2.2.2.2.2.2 = true then (glue_Set.j0 k bt172.1 (!bt172.2) bt164.1 bt164.2.1 bt164.2.2.1 bt164.2.2.2.1 bt164.2.2.2.2.1 bt164.2.2.2.2.2.1) else (glue_Set.j0 k bt172.1 true bt164.1 bt164.2.1 bt164.2.2.1 bt164.2.2.2.1 bt164.2.2.2.2.1 bt164.2.2.2.2.2.1)))
theorem glue_Set.mono_l : ∀ k, (∀ y0 y1 y2 y3 y4 y5 y6 y7, LeO (glue_Set.j0 k y0 y1 y2 y3 y4 y5 y6 y7) (glue_Set.j0 (k + 1) y0 y1 y2 y3 y4 y5 y6 y7)) ∧ (∀ y0 y1 y2 y3 y4 y5 y6 y7 y8 y9, LeO (glue_Set.j1 k y0 y1 y2 y3 y4 y5 y6 y7 y8 y9) (glue_Set.j1 (k + 1) y0 y1 y2 y3 y4 y5 y6 y7 y8 y9)) ∧ (∀ y0 y1 y2 y3 y4 y5 y6 y7 y8 y9, LeO (glue_Set.j2 k y0 y1 y2 y3 y4 y5 y6 y7 y8 y9) (glue_Set.j2 (k + 1) y0 y1 y2 y3 y4 y5 y6 y7 y8 y9))
 | 0 => ⟨fun _ _ _ _ _ _ _ _ r h => by simp [glue_Set.j0] at h, fun _ _ _ _ _ _ _ _ _ _ r h => by simp [glue_Set.j1] at h, fun _ _ _ _ _ _ _ _ _ _ r h => by simp [glue_Set.j2] at h⟩
 | k + 1 => by
  obtain ⟨ih0, ih1, ih2⟩ := glue_Set.mono_l k
  refine ⟨?_, ?_, ?_⟩
  ·intro y0 y1 y2 y3 y4 y5 y6 y7
   unfold glue_Set.j0
   repeat' first | (with_reducible first | exact ih0 _ _ _ _ _ _ _ _ | exact ih1 _ _ _ _ _ _ _ _ _ _ | exact ih2 _ _ _ _ _ _ _ _ _ _ | exact glue_Badness.mono _ _ _ | exact glue_Total.mono _ _ | exact LeO.refl _ | exact LeO.none _ | refine LeO.ite ?_ ?_ | refine LeO.bind ?_ (fun _ => ?_)) | exact LeO.none _ | refine LeO.ite ?_ ?_ | refine LeO.bind ?_ (fun _ => ?_)
  ·intro y0 y1 y2 y3 y4 y5 y6 y7 y8 y9
   unfold glue_Set.j1
   repeat' first | (with_reducible first | exact ih0 _ _ _ _ _ _ _ _ | exact ih1 _ _ _ _ _ _ _ _ _ _ | exact ih2 _ _ _ _ _ _ _ _ _ _ | exact glue_Badness.mono _ _ _ | exact glue_Total.mono _ _ | exact LeO.refl _ | exact LeO.none _ | refine LeO.ite ?_ ?_ | refine LeO.bind ?_ (fun _ => ?_)) | exact LeO.none _ | refine LeO.ite ?_ ?_ | refine LeO.bind ?_ (fun _ => ?_)
  ·intro y0 y1 y2 y3 y4 y5 y6 y7 y8 y9
   unfold glue_Set.j2
   repeat' first | (with_reducible first | exact ih0 _ _ _ _ _ _ _ _ | exact ih1 _ _ _ _ _ _ _ _ _ _ | exact ih2 _ _ _ _ _ _ _ _ _ _ | exact glue_Badness.mono _ _ _ | exact glue_Total.mono _ _ | exact LeO.refl _ | exact LeO.none _ | refine LeO.ite ?_ ?_ | refine LeO.bind ?_ (fun _ => ?_)) | exact LeO.none _ | refine LeO.ite ?_ ?_ | refine LeO.bind ?_ (fun _ => ?_)
theorem glue_Set.mono : ∀ a0 a1 k, LeO (glue_Set.f k a0 a1) (glue_Set.f (k + 1) a0 a1) := by
 intro a0 a1 k
 obtain ⟨ih0, ih1, ih2⟩ := glue_Set.mono_l k
 unfold glue_Set.f
 repeat' first
   | (with_reducible exact ih0 _ _ _ _ _ _ _ _)
   | (with_reducible exact ih1 _ _ _ _ _ _ _ _ _ _)
   | (with_reducible exact ih2 _ _ _ _ _ _ _ _ _ _)
   | (with_reducible exact glue_Badness.mono _ _ _)
   | (with_reducible exact glue_Total.mono _ _)
   | (with_reducible exact LeO.refl _)
   | (with_reducible exact LeO.none _)
   | (with_reducible refine LeO.ite ?_ ?_)
   | (with_reducible refine LeO.bind ?_ (fun _ => ?_))
   | exact ih0 _ _ _ _ _ _ _ _
   | exact ih1 _ _ _ _ _ _ _ _ _ _
   | exact ih2 _ _ _ _ _ _ _ _ _ _
   | exact glue_Badness.mono _ _ _
   | exact glue_Total.mono _ _
   | exact LeO.none _
   | refine LeO.ite ?_ ?_
   | refine LeO.bind ?_ (fun _ => ?_)
set_option maxHeartbeats 8000000 in
set_option maxRecDepth 100000 in
theorem glue_Set.calls (k : Nat) (A0 : Option Addr) (c0 : Nat) (l0 : List (S38)) (a1 : Int) (r1 : Int) (r2 : Int) (r3 : Int) (r4 : Int) (r5 : Bool) (w : World) (hr0 : Kd.C k38 w A0 l0.length l0) (hc0 : l0.length ≤ c0) (h : glue_Set.f k l0 a1 = some (r1, r2, r3, r4, r5)) :
  Calls Try.prog 44 #[.slice A0 l0.length c0, .int .i64 a1] w fun e w' => e = .returned (.tuple #[.agg #[.int .i64 r1, .int .i64 r2, .int .i64 r3, .int .i64 r4], .bool r5]) ∧ Below w.heap.size w w' := by
 have hu56 := Try.underlying56
 have hu87 := Try.underlying87
 have hu85 := Try.underlying85
 have ix0 : ∀ (a b c d : Int) (w : World), (Instr.index 85 (.agg #[.int .i64 a, .int .i64 b, .int .i64 c, .int .i64 d]) (.int .i64 0)).run Try.prog w = .ok (.int .i64 a) w := fun _ _ _ _ _ => by kernel_rfl
 have ix1 : ∀ (a b c d : Int) (w : World), (Instr.index 85 (.agg #[.int .i64 a, .int .i64 b, .int .i64 c, .int .i64 d]) (.int .i64 1)).run Try.prog w = .ok (.int .i64 b) w := fun _ _ _ _ _ => by kernel_rfl
 have ix2 : ∀ (a b c d : Int) (w : World), (Instr.index 85 (.agg #[.int .i64 a, .int .i64 b, .int .i64 c, .int .i64 d]) (.int .i64 2)).run Try.prog w = .ok (.int .i64 c) w := fun _ _ _ _ _ => by kernel_rfl
 have ix3 : ∀ (a b c d : Int) (w : World), (Instr.index 85 (.agg #[.int .i64 a, .int .i64 b, .int .i64 c, .int .i64 d]) (.int .i64 3)).run Try.prog w = .ok (.int .i64 d) w := fun _ _ _ _ _ => by kernel_rfl
 have HR0 := a_ hr0
 have HC0 := a_ hc0
 clear hr0 hc0
 have HB := a_ (Below.refl w.heap.size w)
 have H : ((glue_Total.f k l0).bind fun bt164 => ((scaled_Sub.f a1 bt164.1).bind fun bt172 => (if bt164.2.2.2.2.2.2 = true then (glue_Set.j0 k bt172.1 (!bt172.2) bt164.1 bt164.2.1 bt164.2.2.1 bt164.2.2.2.1 bt164.2.2.2.2.1 bt164.2.2.2.2.2.1) else (glue_Set.j0 k bt172.1 true bt164.1 bt164.2.1 bt164.2.2.1 bt164.2.2.2.1 bt164.2.2.2.2.1 bt164.2.2.2.2.2.1)))) = some (r1, r2, r3, r4, r5) := h
 clear h
 replace H := Option.bind_eq_some_iff.mp H
 obtain ⟨⟨t164, t165, t166, t167, t168, t169, t170⟩, A30, H⟩ := H
 replace H : ((scaled_Sub.f a1 t164).bind fun bt172 => (if t170 = true then (glue_Set.j0 k bt172.1 (!bt172.2) t164 t165 t166 t167 t168 t169) else (glue_Set.j0 k bt172.1 true t164 t165 t166 t167 t168 t169))) = some (r1, r2, r3, r4, r5) := H
 have A3 := a_ A30
 clear A30
 replace H := Option.bind_eq_some_iff.mp H
 obtain ⟨⟨t172, t173⟩, A40, H⟩ := H
 replace H : (if t170 = true then (glue_Set.j0 k t172 (!t173) t164 t165 t166 t167 t168 t169) else (glue_Set.j0 k t172 true t164 t165 t166 t167 t168 t169)) = some (r1, r2, r3, r4, r5) := H
 have A4 := a_ A40
 clear A40
 have HC5 := a_ H
 clear H
 go_enter Try.func44, Try.ntmps44
 go_upto_region 3 with (first | ((with_reducible refine gate_dst (N := 4) rfl ?_); refine box_event ?hg (N := 4) ?hd (cs := #[.int .i64 0, .int .i64 0, .int .i64 0, .int .i64 0]) (t := 56) ?hr ?_; (case hd => rfl); (case hg => rfl); (case hr => first | (go_simp; done) | (go_simp; rfl)); intro gb163 hg w6 hbox hb; have n0_ := a_ (bs_ HB.out hb); have n1_ := a_ (hbox); have n2_ := a_ ((by rw [hg]; exact (below_size (bv_ HB.out)) : w.heap.size ≤ gb163)); have n3_ := a_ ((by rw [hg]; exact (below_size (bv_ HB.out)) : w.heap.size ≤ gb163)); clear HB; have HB := n0_; have BK163 := n1_; have GW163 := n2_; have GE163 := n3_; clear n0_ n1_ n2_ n3_; clear hb hbox hg) | ((with_reducible refine gate_callee (f := 53) rfl ?_); refine gl_ (some 15) Try.func53 (by kernel_rfl) #[.slice A0 l0.length c0] ?_; (with_reducible refine (glue_Total.calls k _ _ l0 t164 t165 t166 t167 t168 t169 t170 _ ?side1 ?side2 A3.out).mono ?_); (case side1 => exact cw_ HR0.out HB.out); (case side2 => exact HC0.out); rintro e w7 ⟨rfl, hb⟩; refine ⟨_, rfl, ?_⟩; have n0_ := a_ (kb_ BK163.out hb); have n1_ := a_ (below_step (bS1_ HB.out GE163.out) hb); clear BK163; clear HB; have BK163 := n0_; have HB := n1_; clear n0_ n1_; (try clear hb); (try clear hb2); (try clear hk); (try clear hi)) | ((with_reducible refine gate_dst (N := 6) rfl ?_); refine box_event ?hg (N := 6) ?hd (cs := #[.int .i64 0, .int .i64 0, .int .i64 0, .int .i64 0, .int .i64 0, .int .i64 0]) (t := 87) ?hr ?_; (case hd => rfl); (case hg => rfl); (case hr => first | (go_simp; done) | (go_simp; rfl)); intro gb171 hg w8 hbox hb; have n0_ := a_ (kb_ BK163.out hb); have n1_ := a_ (below_step (bS1_ HB.out GE163.out) hb); have n2_ := a_ (hbox); have n3_ := a_ ((by rw [hg]; exact (below_size (bS1_ HB.out GE163.out)) : w.heap.size ≤ gb171)); have n4_ := a_ ((by rw [hg]; exact (below_size (bS1_ HB.out GE163.out)) : w.heap.size ≤ gb171)); have n5_ := a_ ((by rw [hg]; exact Nat.ne_of_lt (blk_lt (kv_ BK163.out)) : gb163 ≠ gb171)); have n6_ := a_ ((by rw [hg]; exact Nat.ne_of_gt (blk_lt (kv_ BK163.out)) : gb171 ≠ gb163)); clear BK163; clear HB; have BK163 := n0_; have HB := n1_; have BK171 := n2_; have GW171 := n3_; have GE171 := n4_; have NB163_171 := n5_; have NB171_163 := n6_; clear n0_ n1_ n2_ n3_ n4_ n5_ n6_; clear hb hbox hg; have hnb9 := NB171_163.out; have hnc9 := NB163_171.out; obtain ⟨⟨Z10_0, Y10_0⟩, ⟨Z10_1, Y10_1⟩, ⟨Z10_2, Y10_2⟩, ⟨Z10_3, Y10_3⟩, ⟨Z10_4, Y10_4⟩, Z10_5, Y10_5⟩ := cs6_ BK171.out) | ((with_reducible refine gate_callee (f := 54) rfl ?_); refine gl_ (some 22) Try.func54 (by kernel_rfl) #[.int .i64 a1, .int .i64 t164] ?_; (with_reducible refine (scaled_Sub.calls a1 t164 t172 t173 _ A4.out).mono ?_); rintro e w' ⟨rfl, ⟨nd, rfl⟩⟩; refine ⟨_, rfl, ?_⟩))
 (try simp only [Act.put, List.setIfInBounds_toArray, List.set_cons_zero, List.set_cons_succ])
 go_cut [30] (fun v30 wc => ∃ (kq : Nat) (x30_4 : Bool), v30 = .bool x30_4 ∧ Aside0 (glue_Set.j0 kq t172 x30_4 t164 t165 t166 t167 t168 t169 = some (r1, r2, r3, r4, r5)) ∧ Aside0 (kq ≤ k) ∧ Aside0 (wc.heap[gb163]? = some (.cells #[.int .i64 0, .int .i64 0, .int .i64 0, .int .i64 0] 56 (0, 0))) ∧ Aside0 (wc.heap[gb171]? = some (.cells #[.int .i64 t164, .int .i64 t165, .int .i64 t166, .int .i64 t167, .int .i64 t168, .int .i64 t169] 87 (0, 0))) ∧ Aside0 (Below w.heap.size w wc))
 case first =>
  have H := HC5.out
  clear HC5
  by_cases c11 : t170 = true
  ·subst c11
   have H1 : (glue_Set.j0 k t172 (!t173) t164 t165 t166 t167 t168 t169) = some (r1, r2, r3, r4, r5) := by rw [if_pos rfl] at H; exact H
   clear H
   have H := H1
   clear H1
   have H' := a_ H
   clear H
   go_wp2
   go_meet
   case rel => exact ⟨_, (!t173), (by first | rfl | (simp; done) | (simp [*]; done)), H', ⟨by first | omega | exact Nat.le_refl _⟩, ⟨kf1_ BK163.out NB163_171.out⟩, ⟨kp0_ BK171.out⟩, ⟨bS2_ HB.out GE163.out GE171.out⟩⟩
  ·replace c11 := Bool.eq_false_iff.mpr c11
   subst c11
   have H1 : (glue_Set.j0 k t172 true t164 t165 t166 t167 t168 t169) = some (r1, r2, r3, r4, r5) := by rw [if_neg (show ¬ (false = true) by decide)] at H; exact H
   clear H
   have H := H1
   clear H1
   have H' := a_ H
   clear H
   go_wp2
   go_meet
   case rel => exact ⟨_, (true), (by first | rfl | (simp; done) | (simp [*]; done)), H', ⟨by first | omega | exact Nat.le_refl _⟩, ⟨kf1_ BK163.out NB163_171.out⟩, ⟨kp0_ BK171.out⟩, ⟨bS2_ HB.out GE163.out GE171.out⟩⟩
 case rest =>
  clear HC5
  try clear c1
  try clear p2
  try clear c4
  try clear c5
  try clear c9
  try clear c11
  try clear Z10_0
  try clear Z10_1
  try clear Z10_2
  try clear Z10_3
  try clear Z10_4
  try clear Z10_5
  try clear Y10_0
  try clear Y10_1
  try clear Y10_2
  try clear Y10_3
  try clear Y10_4
  try clear Y10_5
  obtain ⟨kq, x30_4, rfl, HA, HJ4, BK163, BK171, HB⟩ := hcut
  cases kq with
  | zero => exact absurd HA.out (by simp [glue_Set.j0])
  | succ kj4 =>
   have H := HA.out
   clear HA
   simp only [glue_Set.j0] at H
   by_cases c12 : x30_4 = true
   ·subst c12
    have H1 : (some (0, 0, 0, 0, false)) = some (r1, r2, r3, r4, r5) := by rw [if_pos rfl] at H; exact H
    clear H
    have H := H1
    clear H1
    simp only [Option.some.injEq, Prod.mk.injEq] at H
    obtain ⟨rfl, rfl, rfl, rfl, rfl⟩ := H
    have hnb13 := NB163_171.out
    have hnc13 := NB171_163.out
    obtain ⟨⟨Z14_0, Y14_0⟩, ⟨Z14_1, Y14_1⟩, ⟨Z14_2, Y14_2⟩, Z14_3, Y14_3⟩ := cs4_ BK163.out
    go_wp2
    refine bodyPost_ret (results_ct rfl _ _ gb163 56 #[.int .i64 0, .int .i64 0, .int .i64 0, .int .i64 0] (0, 0) _ rfl (kp0_ BK163.out) Try.underlying56 rfl (by kernel_rfl)) rfl ?_
    exact ⟨by first | rfl | (simp [errW_none, errW_some] <;> rfl) | (simp [*, errW_none, errW_some] <;> rfl), bS2_ HB.out GE163.out GE171.out⟩
   ·replace c12 := Bool.eq_false_iff.mpr c12
    subst c12
    have H1 : (if t172 < 0 then ((glue_Badness.f kj4 (wrap64 (-t172)) t165).bind fun t175 => (if (wrap64 (-t172)) > t165 then (some ((-1), 0, t172, 1000000, true)) else (some ((-1), 0, t172, t175, true)))) else (if t172 > 0 then (if t166 = 0 then (glue_Set.j1 kj4 t164 t165 t166 t167 t168 t169 0 0 t172 10000) else ((glue_Badness.f kj4 t172 t166).bind fun t176 => (glue_Set.j1 kj4 t164 t165 t166 t167 t168 t169 1 0 t172 t176))) else (some (0, 0, t172, 0, true)))) = some (r1, r2, r3, r4, r5) := by rw [if_neg (show ¬ (false = true) by decide)] at H; exact H
    clear H
    have H := H1
    clear H1
    by_cases c15 : t172 < 0
    ·rw [if_pos c15] at H
     have c15b0 : decide (t172 < 0) = true := decide_eq_true c15
     clear c15
     replace H := Option.bind_eq_some_iff.mp H
     obtain ⟨t175, A160, H⟩ := H
     replace H : (if (wrap64 (-t172)) > t165 then (some ((-1), 0, t172, 1000000, true)) else (some ((-1), 0, t172, t175, true))) = some (r1, r2, r3, r4, r5) := H
     have A16 := a_ A160
     clear A160
     by_cases c17 : (wrap64 (-t172)) > t165
     ·rw [if_pos c17] at H
      have c17b0 : decide (t165 < (wrap64 (-t172))) = true := decide_eq_true c17
      clear c17
      simp only [Option.some.injEq, Prod.mk.injEq] at H
      obtain ⟨rfl, rfl, rfl, rfl, rfl⟩ := H
      go_upto_region 9 with (first | ((with_reducible refine gate_dst (N := 10) rfl ?_); refine box_event ?hg (N := 10) ?hd (cs := #[.int .i64 0, .int .i64 0, .int .i64 0, .int .i64 0]) (t := 56) ?hr ?_; (case hd => rfl); (case hg => rfl); (case hr => first | (go_simp; done) | (go_simp; rfl)); intro gb174 hg w18 hbox hb; have n0_ := a_ (kb_ BK163.out hb); have n1_ := a_ (kb_ BK171.out hb); have n2_ := a_ (below_step (bS2_ HB.out GE163.out GE171.out) hb); have n3_ := a_ (hbox); have n4_ := a_ ((by rw [hg]; exact (below_size (bS2_ HB.out GE163.out GE171.out)) : w.heap.size ≤ gb174)); have n5_ := a_ ((by rw [hg]; exact (below_size (bS2_ HB.out GE163.out GE171.out)) : w.heap.size ≤ gb174)); have n6_ := a_ ((by rw [hg]; exact Nat.ne_of_lt (blk_lt (kv_ BK163.out)) : gb163 ≠ gb174)); have n7_ := a_ ((by rw [hg]; exact Nat.ne_of_gt (blk_lt (kv_ BK163.out)) : gb174 ≠ gb163)); have n8_ := a_ ((by rw [hg]; exact Nat.ne_of_lt (blk_lt (kv_ BK171.out)) : gb171 ≠ gb174)); have n9_ := a_ ((by rw [hg]; exact Nat.ne_of_gt (blk_lt (kv_ BK171.out)) : gb174 ≠ gb171)); clear BK163; clear BK171; clear HB; have BK163 := n0_; have BK171 := n1_; have HB := n2_; have BK174 := n3_; have GW174 := n4_; have GE174 := n5_; have NB163_174 := n6_; have NB174_163 := n7_; have NB171_174 := n8_; have NB174_171 := n9_; clear n0_ n1_ n2_ n3_ n4_ n5_ n6_ n7_ n8_ n9_; clear hb hbox hg; have hnb19 := NB174_163.out; have hnc19 := NB163_174.out; have hnb20 := NB174_171.out; have hnc20 := NB171_174.out; obtain ⟨⟨Z21_0, Y21_0⟩, ⟨Z21_1, Y21_1⟩, ⟨Z21_2, Y21_2⟩, Z21_3, Y21_3⟩ := cs4_ BK174.out; have hnb22 := NB171_163.out; have hnc22 := NB163_171.out; obtain ⟨⟨Z23_0, Y23_0⟩, ⟨Z23_1, Y23_1⟩, ⟨Z23_2, Y23_2⟩, ⟨Z23_3, Y23_3⟩, ⟨Z23_4, Y23_4⟩, Z23_5, Y23_5⟩ := cs6_ BK171.out) | ((with_reducible refine gate_callee (f := 55) rfl ?_); refine gl_ (some 41) Try.func55 (by kernel_rfl) #[.int .i64 (wrap64 (-t172)), .int .i64 t165] ?_; (with_reducible refine (glue_Badness.calls kj4 (wrap64 (-t172)) t165 t175 _ A16.out).mono ?_); rintro e w' ⟨rfl, ⟨nd, rfl⟩⟩; refine ⟨_, rfl, ?_⟩; obtain ⟨⟨Z24_0, Y24_0⟩, ⟨Z24_1, Y24_1⟩, ⟨Z24_2, Y24_2⟩, Z24_3, Y24_3⟩ := cs4_ BK163.out))
      obtain ⟨w9, hw9⟩ : ∃ w9, w9 = (((((((w18.setCell ⟨gb174, 0, none⟩ (Value.int IntKind.i64 0)).setCell ⟨gb174, 1, none⟩ (Value.int IntKind.i64 0)).setCell ⟨gb174, 2, none⟩ (Value.int IntKind.i64 t172)).setCell ⟨gb174, 3, none⟩ (Value.int IntKind.i64 0)).drewN nd).setCell ⟨gb174, 0, none⟩ (Value.int IntKind.i64 (-1))).setCell ⟨gb174, 3, none⟩ (Value.int IntKind.i64 t175)) := ⟨_, rfl⟩
      rw [← hw9]
      have K9 := a_ (show w9.heap[gb174]? = some (.cells #[.int .i64 (-1), .int .i64 0, .int .i64 t172, .int .i64 t175] 56 (0, 0)) by rw [hw9]; exact blk_put (cs := #[.int .i64 (-1), .int .i64 0, .int .i64 t172, .int .i64 0]) (blk_put (cs := #[.int .i64 0, .int .i64 0, .int .i64 t172, .int .i64 0]) (blk_drewN (blk_put (cs := #[.int .i64 0, .int .i64 0, .int .i64 t172, .int .i64 0]) (blk_put (cs := #[.int .i64 0, .int .i64 0, .int .i64 0, .int .i64 0]) (blk_put (cs := #[.int .i64 0, .int .i64 0, .int .i64 0, .int .i64 0]) (blk_put (cs := #[.int .i64 0, .int .i64 0, .int .i64 0, .int .i64 0]) (BK174.out) 0 _ rfl) 1 _ rfl) 2 _ rfl) 3 _ rfl) nd) 0 _ rfl) 3 _ rfl)
      have K8 := a_ (show w9.heap[gb163]? = some (.cells #[.int .i64 0, .int .i64 0, .int .i64 0, .int .i64 0] 56 (0, 0)) by rw [hw9]; exact blk_far (blk_far (blk_drewN (blk_far (blk_far (blk_far (blk_far (BK163.out) (p := ⟨gb174, 0, none⟩) NB163_174.out _) (p := ⟨gb174, 1, none⟩) NB163_174.out _) (p := ⟨gb174, 2, none⟩) NB163_174.out _) (p := ⟨gb174, 3, none⟩) NB163_174.out _) nd) (p := ⟨gb174, 0, none⟩) NB163_174.out _) (p := ⟨gb174, 3, none⟩) NB163_174.out _)
      have K7 := a_ (show Below w.heap.size w w9 by rw [hw9]; exact Below.setCell (Below.setCell (pw_below_drewN (Below.setCell (Below.setCell (Below.setCell (Below.setCell (HB.out) GE174.out _) GE174.out _) GE174.out _) GE174.out _) nd) GE174.out _) GE174.out _)
      clear hw9
      try clear Z21_0 Y21_0
      try clear Z21_1 Y21_1
      try clear Z21_2 Y21_2
      try clear Z21_3 Y21_3
      try clear Z21_4 Y21_4
      try clear Z21_5 Y21_5
      try clear Z23_0 Y23_0
      try clear Z23_1 Y23_1
      try clear Z23_2 Y23_2
      try clear Z23_3 Y23_3
      try clear Z23_4 Y23_4
      try clear Z23_5 Y23_5
      try clear Z24_0 Y24_0
      try clear Z24_1 Y24_1
      try clear Z24_2 Y24_2
      try clear Z24_3 Y24_3
      try clear Z24_4 Y24_4
      try clear Z24_5 Y24_5
      have hp0 : w9.cell? ⟨gb174, 0, none⟩ = some (.int .i64 (-1)) := (blk_cell K9.out 0).trans rfl
      have hq0 := blk_frozen K9.out 0
      have hr0 : w9.cell? ⟨gb163, 0, none⟩ = some (.int .i64 0) := (blk_cell K8.out 0).trans rfl
      have hs0 := blk_frozen K8.out 0
      have hp1 : w9.cell? ⟨gb174, 1, none⟩ = some (.int .i64 0) := (blk_cell K9.out 1).trans rfl
      have hq1 := blk_frozen K9.out 1
      have hr1 : w9.cell? ⟨gb163, 1, none⟩ = some (.int .i64 0) := (blk_cell K8.out 1).trans rfl
      have hs1 := blk_frozen K8.out 1
      have hp2 : w9.cell? ⟨gb174, 2, none⟩ = some (.int .i64 t172) := (blk_cell K9.out 2).trans rfl
      have hq2 := blk_frozen K9.out 2
      have hr2 : w9.cell? ⟨gb163, 2, none⟩ = some (.int .i64 0) := (blk_cell K8.out 2).trans rfl
      have hs2 := blk_frozen K8.out 2
      have hp3 : w9.cell? ⟨gb174, 3, none⟩ = some (.int .i64 t175) := (blk_cell K9.out 3).trans rfl
      have hq3 := blk_frozen K9.out 3
      have hr3 : w9.cell? ⟨gb163, 3, none⟩ = some (.int .i64 0) := (blk_cell K8.out 3).trans rfl
      have hs3 := blk_frozen K8.out 3
      go_wp2
      refine bodyPost_ret (results_ct rfl _ _ gb163 56 #[.int .i64 (-1), .int .i64 0, .int .i64 t172, .int .i64 1000000] (0, 0) _ rfl (by exact blk_put (cs := #[.int .i64 (-1), .int .i64 0, .int .i64 t172, .int .i64 0]) (blk_put (cs := #[.int .i64 (-1), .int .i64 0, .int .i64 0, .int .i64 0]) (blk_put (cs := #[.int .i64 (-1), .int .i64 0, .int .i64 0, .int .i64 0]) (blk_put (cs := #[.int .i64 0, .int .i64 0, .int .i64 0, .int .i64 0]) (blk_far K8.out (p := ⟨gb174, 3, none⟩) NB163_174.out _) 0 _ rfl) 1 _ rfl) 2 _ rfl) 3 _ rfl) Try.underlying56 rfl (by kernel_rfl)) rfl ?_
      exact ⟨rfl, Below.setCell (Below.setCell (Below.setCell (Below.setCell (Below.setCell K7.out GE174.out _) GE163.out _) GE163.out _) GE163.out _) GE163.out _⟩
     ·rw [if_neg c17] at H
      have c17b0 : decide (t165 < (wrap64 (-t172))) = false := decide_eq_false c17
      clear c17
      simp only [Option.some.injEq, Prod.mk.injEq] at H
      obtain ⟨rfl, rfl, rfl, rfl, rfl⟩ := H
      go_upto_region 20 with (first | ((with_reducible refine gate_dst (N := 10) rfl ?_); refine box_event ?hg (N := 10) ?hd (cs := #[.int .i64 0, .int .i64 0, .int .i64 0, .int .i64 0]) (t := 56) ?hr ?_; (case hd => rfl); (case hg => rfl); (case hr => first | (go_simp; done) | (go_simp; rfl)); intro gb174 hg w25 hbox hb; have n0_ := a_ (kb_ BK163.out hb); have n1_ := a_ (kb_ BK171.out hb); have n2_ := a_ (below_step (bS2_ HB.out GE163.out GE171.out) hb); have n3_ := a_ (hbox); have n4_ := a_ ((by rw [hg]; exact (below_size (bS2_ HB.out GE163.out GE171.out)) : w.heap.size ≤ gb174)); have n5_ := a_ ((by rw [hg]; exact (below_size (bS2_ HB.out GE163.out GE171.out)) : w.heap.size ≤ gb174)); have n6_ := a_ ((by rw [hg]; exact Nat.ne_of_lt (blk_lt (kv_ BK163.out)) : gb163 ≠ gb174)); have n7_ := a_ ((by rw [hg]; exact Nat.ne_of_gt (blk_lt (kv_ BK163.out)) : gb174 ≠ gb163)); have n8_ := a_ ((by rw [hg]; exact Nat.ne_of_lt (blk_lt (kv_ BK171.out)) : gb171 ≠ gb174)); have n9_ := a_ ((by rw [hg]; exact Nat.ne_of_gt (blk_lt (kv_ BK171.out)) : gb174 ≠ gb171)); clear BK163; clear BK171; clear HB; have BK163 := n0_; have BK171 := n1_; have HB := n2_; have BK174 := n3_; have GW174 := n4_; have GE174 := n5_; have NB163_174 := n6_; have NB174_163 := n7_; have NB171_174 := n8_; have NB174_171 := n9_; clear n0_ n1_ n2_ n3_ n4_ n5_ n6_ n7_ n8_ n9_; clear hb hbox hg; have hnb26 := NB174_163.out; have hnc26 := NB163_174.out; have hnb27 := NB174_171.out; have hnc27 := NB171_174.out; obtain ⟨⟨Z28_0, Y28_0⟩, ⟨Z28_1, Y28_1⟩, ⟨Z28_2, Y28_2⟩, Z28_3, Y28_3⟩ := cs4_ BK174.out; have hnb29 := NB171_163.out; have hnc29 := NB163_171.out; obtain ⟨⟨Z30_0, Y30_0⟩, ⟨Z30_1, Y30_1⟩, ⟨Z30_2, Y30_2⟩, ⟨Z30_3, Y30_3⟩, ⟨Z30_4, Y30_4⟩, Z30_5, Y30_5⟩ := cs6_ BK171.out) | ((with_reducible refine gate_callee (f := 55) rfl ?_); refine gl_ (some 41) Try.func55 (by kernel_rfl) #[.int .i64 (wrap64 (-t172)), .int .i64 t165] ?_; (with_reducible refine (glue_Badness.calls kj4 (wrap64 (-t172)) t165 t175 _ A16.out).mono ?_); rintro e w' ⟨rfl, ⟨nd, rfl⟩⟩; refine ⟨_, rfl, ?_⟩; obtain ⟨⟨Z31_0, Y31_0⟩, ⟨Z31_1, Y31_1⟩, ⟨Z31_2, Y31_2⟩, Z31_3, Y31_3⟩ := cs4_ BK163.out))
      obtain ⟨w9, hw9⟩ : ∃ w9, w9 = (((((((w25.setCell ⟨gb174, 0, none⟩ (Value.int IntKind.i64 0)).setCell ⟨gb174, 1, none⟩ (Value.int IntKind.i64 0)).setCell ⟨gb174, 2, none⟩ (Value.int IntKind.i64 t172)).setCell ⟨gb174, 3, none⟩ (Value.int IntKind.i64 0)).drewN nd).setCell ⟨gb174, 0, none⟩ (Value.int IntKind.i64 (-1))).setCell ⟨gb174, 3, none⟩ (Value.int IntKind.i64 t175)) := ⟨_, rfl⟩
      rw [← hw9]
      have K9 := a_ (show w9.heap[gb174]? = some (.cells #[.int .i64 (-1), .int .i64 0, .int .i64 t172, .int .i64 t175] 56 (0, 0)) by rw [hw9]; exact blk_put (cs := #[.int .i64 (-1), .int .i64 0, .int .i64 t172, .int .i64 0]) (blk_put (cs := #[.int .i64 0, .int .i64 0, .int .i64 t172, .int .i64 0]) (blk_drewN (blk_put (cs := #[.int .i64 0, .int .i64 0, .int .i64 t172, .int .i64 0]) (blk_put (cs := #[.int .i64 0, .int .i64 0, .int .i64 0, .int .i64 0]) (blk_put (cs := #[.int .i64 0, .int .i64 0, .int .i64 0, .int .i64 0]) (blk_put (cs := #[.int .i64 0, .int .i64 0, .int .i64 0, .int .i64 0]) (BK174.out) 0 _ rfl) 1 _ rfl) 2 _ rfl) 3 _ rfl) nd) 0 _ rfl) 3 _ rfl)
      have K8 := a_ (show w9.heap[gb163]? = some (.cells #[.int .i64 0, .int .i64 0, .int .i64 0, .int .i64 0] 56 (0, 0)) by rw [hw9]; exact blk_far (blk_far (blk_drewN (blk_far (blk_far (blk_far (blk_far (BK163.out) (p := ⟨gb174, 0, none⟩) NB163_174.out _) (p := ⟨gb174, 1, none⟩) NB163_174.out _) (p := ⟨gb174, 2, none⟩) NB163_174.out _) (p := ⟨gb174, 3, none⟩) NB163_174.out _) nd) (p := ⟨gb174, 0, none⟩) NB163_174.out _) (p := ⟨gb174, 3, none⟩) NB163_174.out _)
      have K7 := a_ (show Below w.heap.size w w9 by rw [hw9]; exact Below.setCell (Below.setCell (pw_below_drewN (Below.setCell (Below.setCell (Below.setCell (Below.setCell (HB.out) GE174.out _) GE174.out _) GE174.out _) GE174.out _) nd) GE174.out _) GE174.out _)
      clear hw9
      try clear Z28_0 Y28_0
      try clear Z28_1 Y28_1
      try clear Z28_2 Y28_2
      try clear Z28_3 Y28_3
      try clear Z28_4 Y28_4
      try clear Z28_5 Y28_5
      try clear Z30_0 Y30_0
      try clear Z30_1 Y30_1
      try clear Z30_2 Y30_2
      try clear Z30_3 Y30_3
      try clear Z30_4 Y30_4
      try clear Z30_5 Y30_5
      try clear Z31_0 Y31_0
      try clear Z31_1 Y31_1
      try clear Z31_2 Y31_2
      try clear Z31_3 Y31_3
      try clear Z31_4 Y31_4
      try clear Z31_5 Y31_5
      have hp0 : w9.cell? ⟨gb174, 0, none⟩ = some (.int .i64 (-1)) := (blk_cell K9.out 0).trans rfl
      have hq0 := blk_frozen K9.out 0
      have hr0 : w9.cell? ⟨gb163, 0, none⟩ = some (.int .i64 0) := (blk_cell K8.out 0).trans rfl
      have hs0 := blk_frozen K8.out 0
      have hp1 : w9.cell? ⟨gb174, 1, none⟩ = some (.int .i64 0) := (blk_cell K9.out 1).trans rfl
      have hq1 := blk_frozen K9.out 1
      have hr1 : w9.cell? ⟨gb163, 1, none⟩ = some (.int .i64 0) := (blk_cell K8.out 1).trans rfl
      have hs1 := blk_frozen K8.out 1
      have hp2 : w9.cell? ⟨gb174, 2, none⟩ = some (.int .i64 t172) := (blk_cell K9.out 2).trans rfl
      have hq2 := blk_frozen K9.out 2
      have hr2 : w9.cell? ⟨gb163, 2, none⟩ = some (.int .i64 0) := (blk_cell K8.out 2).trans rfl
      have hs2 := blk_frozen K8.out 2
      have hp3 : w9.cell? ⟨gb174, 3, none⟩ = some (.int .i64 t175) := (blk_cell K9.out 3).trans rfl
      have hq3 := blk_frozen K9.out 3
      have hr3 : w9.cell? ⟨gb163, 3, none⟩ = some (.int .i64 0) := (blk_cell K8.out 3).trans rfl
      have hs3 := blk_frozen K8.out 3
      go_wp2
      refine bodyPost_ret (results_ct rfl _ _ gb163 56 #[.int .i64 (-1), .int .i64 0, .int .i64 t172, .int .i64 t175] (0, 0) _ rfl (by exact blk_put (cs := #[.int .i64 (-1), .int .i64 0, .int .i64 t172, .int .i64 0]) (blk_put (cs := #[.int .i64 (-1), .int .i64 0, .int .i64 0, .int .i64 0]) (blk_put (cs := #[.int .i64 (-1), .int .i64 0, .int .i64 0, .int .i64 0]) (blk_put (cs := #[.int .i64 0, .int .i64 0, .int .i64 0, .int .i64 0]) (K8.out) 0 _ rfl) 1 _ rfl) 2 _ rfl) 3 _ rfl) Try.underlying56 rfl (by kernel_rfl)) rfl ?_
      exact ⟨rfl, Below.setCell (Below.setCell (Below.setCell (Below.setCell (K7.out) GE163.out _) GE163.out _) GE163.out _) GE163.out _⟩
    ·rw [if_neg c15] at H
     have c15b0 : decide (t172 < 0) = false := decide_eq_false c15
     clear c15
     by_cases c32 : t172 > 0
     ·rw [if_pos c32] at H
      have c32b0 : decide (0 < t172) = true := decide_eq_true c32
      clear c32
      have HC33 := a_ H
      clear H
      go_wp2_with (first | ((with_reducible refine gate_dst (N := 10) rfl ?_); refine box_event ?hg (N := 10) ?hd (cs := #[.int .i64 0, .int .i64 0, .int .i64 0, .int .i64 0]) (t := 56) ?hr ?_; (case hd => rfl); (case hg => rfl); (case hr => first | (go_simp; done) | (go_simp; rfl)); intro gb174 hg w34 hbox hb; have n0_ := a_ (kb_ BK163.out hb); have n1_ := a_ (kb_ BK171.out hb); have n2_ := a_ (below_step (bS2_ HB.out GE163.out GE171.out) hb); have n3_ := a_ (hbox); have n4_ := a_ ((by rw [hg]; exact (below_size (bS2_ HB.out GE163.out GE171.out)) : w.heap.size ≤ gb174)); have n5_ := a_ ((by rw [hg]; exact (below_size (bS2_ HB.out GE163.out GE171.out)) : w.heap.size ≤ gb174)); have n6_ := a_ ((by rw [hg]; exact Nat.ne_of_lt (blk_lt (kv_ BK163.out)) : gb163 ≠ gb174)); have n7_ := a_ ((by rw [hg]; exact Nat.ne_of_gt (blk_lt (kv_ BK163.out)) : gb174 ≠ gb163)); have n8_ := a_ ((by rw [hg]; exact Nat.ne_of_lt (blk_lt (kv_ BK171.out)) : gb171 ≠ gb174)); have n9_ := a_ ((by rw [hg]; exact Nat.ne_of_gt (blk_lt (kv_ BK171.out)) : gb174 ≠ gb171)); clear BK163; clear BK171; clear HB; have BK163 := n0_; have BK171 := n1_; have HB := n2_; have BK174 := n3_; have GW174 := n4_; have GE174 := n5_; have NB163_174 := n6_; have NB174_163 := n7_; have NB171_174 := n8_; have NB174_171 := n9_; clear n0_ n1_ n2_ n3_ n4_ n5_ n6_ n7_ n8_ n9_; clear hb hbox hg; have hnb35 := NB174_163.out; have hnc35 := NB163_174.out; have hnb36 := NB174_171.out; have hnc36 := NB171_174.out; obtain ⟨⟨Z37_0, Y37_0⟩, ⟨Z37_1, Y37_1⟩, ⟨Z37_2, Y37_2⟩, Z37_3, Y37_3⟩ := cs4_ BK174.out; have hnb38 := NB171_163.out; have hnc38 := NB163_171.out; obtain ⟨⟨Z39_0, Y39_0⟩, ⟨Z39_1, Y39_1⟩, ⟨Z39_2, Y39_2⟩, ⟨Z39_3, Y39_3⟩, ⟨Z39_4, Y39_4⟩, Z39_5, Y39_5⟩ := cs6_ BK171.out))
      refine wp_loop_rounds 5 ?_
      rw [rounds_succ]
      go_upto_block 2 with (fail)
      obtain ⟨w35, hw35⟩ : ∃ w35, w35 = (((((w34.setCell ⟨gb174, 0, none⟩ (Value.int IntKind.i64 0)).setCell ⟨gb174, 1, none⟩ (Value.int IntKind.i64 0)).setCell ⟨gb174, 2, none⟩ (Value.int IntKind.i64 t172)).setCell ⟨gb174, 3, none⟩ (Value.int IntKind.i64 0)).setCell ⟨gb174, 3, none⟩ (Value.int IntKind.i64 10000)) := ⟨_, rfl⟩
      rw [← hw35]
      have n1 := a_ (show w35.heap[gb174]? = some (.cells #[.int .i64 0, .int .i64 0, .int .i64 t172, .int .i64 10000] 56 (0, 0)) by rw [hw35]; exact blk_put (cs := #[.int .i64 0, .int .i64 0, .int .i64 t172, .int .i64 0]) (blk_put (cs := #[.int .i64 0, .int .i64 0, .int .i64 t172, .int .i64 0]) (blk_put (cs := #[.int .i64 0, .int .i64 0, .int .i64 0, .int .i64 0]) (blk_put (cs := #[.int .i64 0, .int .i64 0, .int .i64 0, .int .i64 0]) (blk_put (cs := #[.int .i64 0, .int .i64 0, .int .i64 0, .int .i64 0]) (BK174.out) 0 _ rfl) 1 _ rfl) 2 _ rfl) 3 _ rfl) 3 _ rfl)
      have n2 := a_ (show w35.heap[gb163]? = some (.cells #[.int .i64 0, .int .i64 0, .int .i64 0, .int .i64 0] 56 (0, 0)) by rw [hw35]; exact blk_far (blk_far (blk_far (blk_far (blk_far (BK163.out) (p := ⟨gb174, 0, none⟩) NB163_174.out _) (p := ⟨gb174, 1, none⟩) NB163_174.out _) (p := ⟨gb174, 2, none⟩) NB163_174.out _) (p := ⟨gb174, 3, none⟩) NB163_174.out _) (p := ⟨gb174, 3, none⟩) NB163_174.out _)
      have n3 := a_ (show w35.heap[gb171]? = some (.cells #[.int .i64 t164, .int .i64 t165, .int .i64 t166, .int .i64 t167, .int .i64 t168, .int .i64 t169] 87 (0, 0)) by rw [hw35]; exact blk_far (blk_far (blk_far (blk_far (blk_far (BK171.out) (p := ⟨gb174, 0, none⟩) NB171_174.out _) (p := ⟨gb174, 1, none⟩) NB171_174.out _) (p := ⟨gb174, 2, none⟩) NB171_174.out _) (p := ⟨gb174, 3, none⟩) NB171_174.out _) (p := ⟨gb174, 3, none⟩) NB171_174.out _)
      have n4 := a_ (show Below w.heap.size w w35 by rw [hw35]; exact Below.setCell (Below.setCell (Below.setCell (Below.setCell (Below.setCell (HB.out) GE174.out _) GE174.out _) GE174.out _) GE174.out _) GE174.out _)
      clear hw35 BK174 BK163 BK171 HB
      have BK174 := n1
      have BK163 := n2
      have BK171 := n3
      have HB := n4
      clear n1 n2 n3 n4
      try clear Z37_0 Y37_0
      try clear Z37_1 Y37_1
      try clear Z37_2 Y37_2
      try clear Z37_3 Y37_3
      try clear Z37_4 Y37_4
      try clear Z37_5 Y37_5
      try clear Z39_0 Y39_0
      try clear Z39_1 Y39_1
      try clear Z39_2 Y39_2
      try clear Z39_3 Y39_3
      try clear Z39_4 Y39_4
      try clear Z39_5 Y39_5
      (try simp only [Act.put, List.setIfInBounds_toArray, List.set_cons_zero, List.set_cons_succ])
      go_cut [] (fun wc => ∃ (kq : Nat) (x175000_32 : Int) (x175001_32 : Int) (x175003_32 : Int), Aside0 (glue_Set.j1 kq t164 t165 t166 t167 t168 t169 x175000_32 x175001_32 t172 x175003_32 = some (r1, r2, r3, r4, r5)) ∧ Aside0 (kq ≤ kj4) ∧ Aside0 (wc.heap[gb163]? = some (.cells #[.int .i64 0, .int .i64 0, .int .i64 0, .int .i64 0] 56 (0, 0))) ∧ Aside0 (wc.heap[gb171]? = some (.cells #[.int .i64 t164, .int .i64 t165, .int .i64 t166, .int .i64 t167, .int .i64 t168, .int .i64 t169] 87 (0, 0))) ∧ Aside0 (wc.heap[gb174]? = some (.cells #[.int .i64 x175000_32, .int .i64 x175001_32, .int .i64 t172, .int .i64 x175003_32] 56 (0, 0))) ∧ Aside0 (Below w.heap.size w wc))
      case first =>
       have H := HC33.out
       clear HC33
       by_cases c40 : t166 = 0
       ·rw [if_pos c40] at H
        have c40b0 : (t166 == 0) = true := beq_iff_eq.mpr c40
        have c40b1 : (t166 != 0) = false := bne_eq_false_iff_eq.mpr c40
        clear c40
        (first | rw [c40b0] | (simp only [i64_w, i32_w]; rw [c40b0]) | skip)
        have H' := a_ H
        clear H
        have hnb41 := NB171_163.out
        have hnc41 := NB163_171.out
        have hnb42 := NB171_174.out
        have hnc42 := NB174_171.out
        obtain ⟨⟨Z43_0, Y43_0⟩, ⟨Z43_1, Y43_1⟩, ⟨Z43_2, Y43_2⟩, ⟨Z43_3, Y43_3⟩, ⟨Z43_4, Y43_4⟩, Z43_5, Y43_5⟩ := cs6_ BK171.out
        go_wp2
        go_meet
        case rel => exact ⟨_, (0), (0), (10000), H', ⟨by have := HJ4.out; first | omega | exact Nat.le_refl _⟩, ⟨by (with_reducible repeat (first | refine blk_drewN ?_ _ | refine blk_drew ?_ | refine blk_alloc ?_ _)); (with_reducible repeat (first | refine blk_drewN ?_ _ | refine blk_drew ?_)); exact BK163.out⟩, ⟨by (with_reducible repeat (first | refine blk_drewN ?_ _ | refine blk_drew ?_ | refine blk_alloc ?_ _)); (with_reducible repeat (first | refine blk_drewN ?_ _ | refine blk_drew ?_)); exact BK171.out⟩, ⟨by (with_reducible repeat (first | refine blk_drewN ?_ _ | refine blk_drew ?_ | refine blk_alloc ?_ _)); (with_reducible repeat (first | refine blk_drewN ?_ _ | refine blk_drew ?_)); exact BK174.out⟩, ⟨bS3_ HB.out GE163.out GE171.out GE174.out⟩⟩
       ·rw [if_neg c40] at H
        have c40b0 : (t166 == 0) = false := beq_eq_false_iff_ne.mpr c40
        have c40b1 : (t166 != 0) = true := bne_iff_ne.mpr c40
        (first | rw [c40b0] | (simp only [i64_w, i32_w]; rw [c40b0]) | skip)
        replace H := Option.bind_eq_some_iff.mp H
        obtain ⟨t176, A440, H⟩ := H
        replace H : (glue_Set.j1 kj4 t164 t165 t166 t167 t168 t169 1 0 t172 t176) = some (r1, r2, r3, r4, r5) := H
        have A44 := a_ A440
        clear A440
        have H' := a_ H
        clear H
        have hnb45 := NB171_163.out
        have hnc45 := NB163_171.out
        have hnb46 := NB171_174.out
        have hnc46 := NB174_171.out
        obtain ⟨⟨Z47_0, Y47_0⟩, ⟨Z47_1, Y47_1⟩, ⟨Z47_2, Y47_2⟩, ⟨Z47_3, Y47_3⟩, ⟨Z47_4, Y47_4⟩, Z47_5, Y47_5⟩ := cs6_ BK171.out
        have hnb48 := NB174_163.out
        have hnc48 := NB163_174.out
        obtain ⟨⟨Z49_0, Y49_0⟩, ⟨Z49_1, Y49_1⟩, ⟨Z49_2, Y49_2⟩, Z49_3, Y49_3⟩ := cs4_ BK174.out
        go_wp2_with (first | ((with_reducible refine gate_callee (f := 55) rfl ?_); refine gl_ (some 70) Try.func55 (by kernel_rfl) #[.int .i64 t172, .int .i64 t166] ?_; (with_reducible refine (glue_Badness.calls kj4 t172 t166 t176 _ A44.out).mono ?_); rintro e w' ⟨rfl, ⟨nd, rfl⟩⟩; refine ⟨_, rfl, ?_⟩))
        go_meet
        case rel => exact ⟨_, (1), (0), (t176), H', ⟨by have := HJ4.out; first | omega | exact Nat.le_refl _⟩, ⟨by (with_reducible repeat (first | refine blk_drewN ?_ _ | refine blk_drew ?_ | refine blk_alloc ?_ _)); refine blk_far ?_ NB163_174.out _; (with_reducible repeat (first | refine blk_drewN ?_ _ | refine blk_drew ?_ | refine blk_alloc ?_ _)); refine blk_far ?_ NB163_174.out _; (with_reducible repeat (first | refine blk_drewN ?_ _ | refine blk_drew ?_ | refine blk_alloc ?_ _)); refine blk_far ?_ NB163_174.out _; (with_reducible repeat (first | refine blk_drewN ?_ _ | refine blk_drew ?_ | refine blk_alloc ?_ _)); refine blk_far ?_ NB163_174.out _; (with_reducible repeat (first | refine blk_drewN ?_ _ | refine blk_drew ?_ | refine blk_alloc ?_ _)); (with_reducible repeat (first | refine blk_drewN ?_ _ | refine blk_drew ?_)); exact BK163.out⟩, ⟨by (with_reducible repeat (first | refine blk_drewN ?_ _ | refine blk_drew ?_ | refine blk_alloc ?_ _)); refine blk_far ?_ NB171_174.out _; (with_reducible repeat (first | refine blk_drewN ?_ _ | refine blk_drew ?_ | refine blk_alloc ?_ _)); refine blk_far ?_ NB171_174.out _; (with_reducible repeat (first | refine blk_drewN ?_ _ | refine blk_drew ?_ | refine blk_alloc ?_ _)); refine blk_far ?_ NB171_174.out _; (with_reducible repeat (first | refine blk_drewN ?_ _ | refine blk_drew ?_ | refine blk_alloc ?_ _)); refine blk_far ?_ NB171_174.out _; (with_reducible repeat (first | refine blk_drewN ?_ _ | refine blk_drew ?_ | refine blk_alloc ?_ _)); (with_reducible repeat (first | refine blk_drewN ?_ _ | refine blk_drew ?_)); exact BK171.out⟩, ⟨by (with_reducible repeat (first | refine blk_drewN ?_ _ | refine blk_drew ?_ | refine blk_alloc ?_ _)); refine blk_put (cs := #[.int .i64 1, .int .i64 0, .int .i64 t172, .int .i64 0]) ?_ 3 _ rfl; (with_reducible repeat (first | refine blk_drewN ?_ _ | refine blk_drew ?_ | refine blk_alloc ?_ _)); refine blk_put (cs := #[.int .i64 1, .int .i64 0, .int .i64 t172, .int .i64 10000]) ?_ 3 _ rfl; (with_reducible repeat (first | refine blk_drewN ?_ _ | refine blk_drew ?_ | refine blk_alloc ?_ _)); refine blk_put (cs := #[.int .i64 1, .int .i64 0, .int .i64 t172, .int .i64 10000]) ?_ 1 _ rfl; (with_reducible repeat (first | refine blk_drewN ?_ _ | refine blk_drew ?_ | refine blk_alloc ?_ _)); refine blk_put (cs := #[.int .i64 0, .int .i64 0, .int .i64 t172, .int .i64 10000]) ?_ 0 _ rfl; (with_reducible repeat (first | refine blk_drewN ?_ _ | refine blk_drew ?_ | refine blk_alloc ?_ _)); (with_reducible repeat (first | refine blk_drewN ?_ _ | refine blk_drew ?_)); exact BK174.out⟩, ⟨bS3_ HB.out GE163.out GE171.out GE174.out⟩⟩
      case rest =>
       clear HC33
       try clear c1
       try clear c2
       try clear p2
       try clear c3
       try clear c4
       try clear c5
       try clear p6
       try clear c9
       try clear c11
       try clear c12
       try clear c13
       try clear c15
       try clear c15b0
       try clear c17
       try clear c17b0
       try clear c19
       try clear c20
       try clear c22
       try clear c26
       try clear c27
       try clear c29
       try clear c32
       try clear c32b0
       try clear c35
       try clear c36
       try clear c38
       try clear c40
       try clear c40b0
       try clear c40b1
       try clear c41
       try clear c42
       try clear c44
       try clear c45
       try clear c46
       try clear c48
       try clear Z10_0
       try clear Z10_1
       try clear Z10_2
       try clear Z10_3
       try clear Z10_4
       try clear Z10_5
       try clear Z14_0
       try clear Z14_1
       try clear Z14_2
       try clear Z14_3
       try clear Z21_0
       try clear Z21_1
       try clear Z21_2
       try clear Z21_3
       try clear Z23_0
       try clear Z23_1
       try clear Z23_2
       try clear Z23_3
       try clear Z23_4
       try clear Z23_5
       try clear Z24_0
       try clear Z24_1
       try clear Z24_2
       try clear Z24_3
       try clear Z28_0
       try clear Z28_1
       try clear Z28_2
       try clear Z28_3
       try clear Z30_0
       try clear Z30_1
       try clear Z30_2
       try clear Z30_3
       try clear Z30_4
       try clear Z30_5
       try clear Z31_0
       try clear Z31_1
       try clear Z31_2
       try clear Z31_3
       try clear Z37_0
       try clear Z37_1
       try clear Z37_2
       try clear Z37_3
       try clear Z39_0
       try clear Z39_1
       try clear Z39_2
       try clear Z39_3
       try clear Z39_4
       try clear Z39_5
       try clear Z43_0
       try clear Z43_1
       try clear Z43_2
       try clear Z43_3
       try clear Z43_4
       try clear Z43_5
       try clear Z47_0
       try clear Z47_1
       try clear Z47_2
       try clear Z47_3
       try clear Z47_4
       try clear Z47_5
       try clear Z49_0
       try clear Z49_1
       try clear Z49_2
       try clear Z49_3
       try clear Y10_0
       try clear Y10_1
       try clear Y10_2
       try clear Y10_3
       try clear Y10_4
       try clear Y10_5
       try clear Y14_0
       try clear Y14_1
       try clear Y14_2
       try clear Y14_3
       try clear Y21_0
       try clear Y21_1
       try clear Y21_2
       try clear Y21_3
       try clear Y23_0
       try clear Y23_1
       try clear Y23_2
       try clear Y23_3
       try clear Y23_4
       try clear Y23_5
       try clear Y24_0
       try clear Y24_1
       try clear Y24_2
       try clear Y24_3
       try clear Y28_0
       try clear Y28_1
       try clear Y28_2
       try clear Y28_3
       try clear Y30_0
       try clear Y30_1
       try clear Y30_2
       try clear Y30_3
       try clear Y30_4
       try clear Y30_5
       try clear Y31_0
       try clear Y31_1
       try clear Y31_2
       try clear Y31_3
       try clear Y37_0
       try clear Y37_1
       try clear Y37_2
       try clear Y37_3
       try clear Y39_0
       try clear Y39_1
       try clear Y39_2
       try clear Y39_3
       try clear Y39_4
       try clear Y39_5
       try clear Y43_0
       try clear Y43_1
       try clear Y43_2
       try clear Y43_3
       try clear Y43_4
       try clear Y43_5
       try clear Y47_0
       try clear Y47_1
       try clear Y47_2
       try clear Y47_3
       try clear Y47_4
       try clear Y47_5
       try clear Y49_0
       try clear Y49_1
       try clear Y49_2
       try clear Y49_3
       try clear p2
       obtain ⟨kq, x175000_32, x175001_32, x175003_32, HA, HJ32, BK163, BK171, BK174, HB⟩ := hcut
       cases kq with
       | zero => exact absurd HA.out (by simp [glue_Set.j1])
       | succ kj32 =>
        have H := HA.out
        clear HA
        simp only [glue_Set.j1] at H
        have HC50 := a_ H
        clear H
        go_wp2
        rw [rounds_succ]
        go_upto_block 2 with (fail)
        go_cut [] (fun wc => ∃ (kq : Nat) (x175000_49 : Int) (x175001_49 : Int) (x175003_49 : Int), Aside0 (glue_Set.j2 kq t164 t165 t166 t167 t168 t169 x175000_49 x175001_49 t172 x175003_49 = some (r1, r2, r3, r4, r5)) ∧ Aside0 (kq ≤ kj32) ∧ Aside0 (wc.heap[gb163]? = some (.cells #[.int .i64 0, .int .i64 0, .int .i64 0, .int .i64 0] 56 (0, 0))) ∧ Aside0 (wc.heap[gb171]? = some (.cells #[.int .i64 t164, .int .i64 t165, .int .i64 t166, .int .i64 t167, .int .i64 t168, .int .i64 t169] 87 (0, 0))) ∧ Aside0 (wc.heap[gb174]? = some (.cells #[.int .i64 x175000_49, .int .i64 x175001_49, .int .i64 t172, .int .i64 x175003_49] 56 (0, 0))) ∧ Aside0 (Below w.heap.size w wc))
        case first =>
         have H := HC50.out
         clear HC50
         by_cases c51 : t167 = 0
         ·rw [if_pos c51] at H
          have c51b0 : (t167 == 0) = true := beq_iff_eq.mpr c51
          have c51b1 : (t167 != 0) = false := bne_eq_false_iff_eq.mpr c51
          clear c51
          (first | rw [c51b0] | (simp only [i64_w, i32_w]; rw [c51b0]) | skip)
          have H' := a_ H
          clear H
          have hnb52 := NB171_163.out
          have hnc52 := NB163_171.out
          have hnb53 := NB171_174.out
          have hnc53 := NB174_171.out
          obtain ⟨⟨Z54_0, Y54_0⟩, ⟨Z54_1, Y54_1⟩, ⟨Z54_2, Y54_2⟩, ⟨Z54_3, Y54_3⟩, ⟨Z54_4, Y54_4⟩, Z54_5, Y54_5⟩ := cs6_ BK171.out
          go_wp2
          go_meet
          case rel => exact ⟨_, (x175000_32), (x175001_32), (x175003_32), H', ⟨by have := HJ4.out; have := HJ32.out; first | omega | exact Nat.le_refl _⟩, ⟨kv_ BK163.out⟩, ⟨kv_ BK171.out⟩, ⟨kv_ BK174.out⟩, ⟨bS3_ HB.out GE163.out GE171.out GE174.out⟩⟩
         ·rw [if_neg c51] at H
          have c51b0 : (t167 == 0) = false := beq_eq_false_iff_ne.mpr c51
          have c51b1 : (t167 != 0) = true := bne_iff_ne.mpr c51
          (first | rw [c51b0] | (simp only [i64_w, i32_w]; rw [c51b0]) | skip)
          have H' := a_ H
          clear H
          have hnb55 := NB171_163.out
          have hnc55 := NB163_171.out
          have hnb56 := NB171_174.out
          have hnc56 := NB174_171.out
          obtain ⟨⟨Z57_0, Y57_0⟩, ⟨Z57_1, Y57_1⟩, ⟨Z57_2, Y57_2⟩, ⟨Z57_3, Y57_3⟩, ⟨Z57_4, Y57_4⟩, Z57_5, Y57_5⟩ := cs6_ BK171.out
          have hnb58 := NB174_163.out
          have hnc58 := NB163_174.out
          obtain ⟨⟨Z59_0, Y59_0⟩, ⟨Z59_1, Y59_1⟩, ⟨Z59_2, Y59_2⟩, Z59_3, Y59_3⟩ := cs4_ BK174.out
          go_wp2
          go_meet
          case rel => exact ⟨_, (1), (1), (0), H', ⟨by have := HJ4.out; have := HJ32.out; first | omega | exact Nat.le_refl _⟩, ⟨kf1_ BK163.out NB163_174.out⟩, ⟨kf1_ BK171.out NB171_174.out⟩, ⟨kp0_ BK174.out⟩, ⟨bS3_ HB.out GE163.out GE171.out GE174.out⟩⟩
        case rest =>
         clear HC50
         try clear c1
         try clear c2
         try clear p2
         try clear c3
         try clear c4
         try clear c5
         try clear p6
         try clear c9
         try clear c11
         try clear c12
         try clear c13
         try clear c15
         try clear c15b0
         try clear c17
         try clear c17b0
         try clear c19
         try clear c20
         try clear c22
         try clear c26
         try clear c27
         try clear c29
         try clear c32
         try clear c32b0
         try clear c35
         try clear c36
         try clear c38
         try clear c40
         try clear c40b0
         try clear c40b1
         try clear c41
         try clear c42
         try clear c44
         try clear c45
         try clear c46
         try clear c48
         try clear c51
         try clear c51b0
         try clear c51b1
         try clear c52
         try clear c53
         try clear c54
         try clear c55
         try clear c56
         try clear c58
         try clear Z10_0
         try clear Z10_1
         try clear Z10_2
         try clear Z10_3
         try clear Z10_4
         try clear Z10_5
         try clear Z14_0
         try clear Z14_1
         try clear Z14_2
         try clear Z14_3
         try clear Z21_0
         try clear Z21_1
         try clear Z21_2
         try clear Z21_3
         try clear Z23_0
         try clear Z23_1
         try clear Z23_2
         try clear Z23_3
         try clear Z23_4
         try clear Z23_5
         try clear Z24_0
         try clear Z24_1
         try clear Z24_2
         try clear Z24_3
         try clear Z28_0
         try clear Z28_1
         try clear Z28_2
         try clear Z28_3
         try clear Z30_0
         try clear Z30_1
         try clear Z30_2
         try clear Z30_3
         try clear Z30_4
         try clear Z30_5
         try clear Z31_0
         try clear Z31_1
         try clear Z31_2
         try clear Z31_3
         try clear Z37_0
         try clear Z37_1
         try clear Z37_2
         try clear Z37_3
         try clear Z39_0
         try clear Z39_1
         try clear Z39_2
         try clear Z39_3
         try clear Z39_4
         try clear Z39_5
         try clear Z43_0
         try clear Z43_1
         try clear Z43_2
         try clear Z43_3
         try clear Z43_4
         try clear Z43_5
         try clear Z47_0
         try clear Z47_1
         try clear Z47_2
         try clear Z47_3
         try clear Z47_4
         try clear Z47_5
         try clear Z49_0
         try clear Z49_1
         try clear Z49_2
         try clear Z49_3
         try clear Z54_0
         try clear Z54_1
         try clear Z54_2
         try clear Z54_3
         try clear Z54_4
         try clear Z54_5
         try clear Z57_0
         try clear Z57_1
         try clear Z57_2
         try clear Z57_3
         try clear Z57_4
         try clear Z57_5
         try clear Z59_0
         try clear Z59_1
         try clear Z59_2
         try clear Z59_3
         try clear Y10_0
         try clear Y10_1
         try clear Y10_2
         try clear Y10_3
         try clear Y10_4
         try clear Y10_5
         try clear Y14_0
         try clear Y14_1
         try clear Y14_2
         try clear Y14_3
         try clear Y21_0
         try clear Y21_1
         try clear Y21_2
         try clear Y21_3
         try clear Y23_0
         try clear Y23_1
         try clear Y23_2
         try clear Y23_3
         try clear Y23_4
         try clear Y23_5
         try clear Y24_0
         try clear Y24_1
         try clear Y24_2
         try clear Y24_3
         try clear Y28_0
         try clear Y28_1
         try clear Y28_2
         try clear Y28_3
         try clear Y30_0
         try clear Y30_1
         try clear Y30_2
         try clear Y30_3
         try clear Y30_4
         try clear Y30_5
         try clear Y31_0
         try clear Y31_1
         try clear Y31_2
         try clear Y31_3
         try clear Y37_0
         try clear Y37_1
         try clear Y37_2
         try clear Y37_3
         try clear Y39_0
         try clear Y39_1
         try clear Y39_2
         try clear Y39_3
         try clear Y39_4
         try clear Y39_5
         try clear Y43_0
         try clear Y43_1
         try clear Y43_2
         try clear Y43_3
         try clear Y43_4
         try clear Y43_5
         try clear Y47_0
         try clear Y47_1
         try clear Y47_2
         try clear Y47_3
         try clear Y47_4
         try clear Y47_5
         try clear Y49_0
         try clear Y49_1
         try clear Y49_2
         try clear Y49_3
         try clear Y54_0
         try clear Y54_1
         try clear Y54_2
         try clear Y54_3
         try clear Y54_4
         try clear Y54_5
         try clear Y57_0
         try clear Y57_1
         try clear Y57_2
         try clear Y57_3
         try clear Y57_4
         try clear Y57_5
         try clear Y59_0
         try clear Y59_1
         try clear Y59_2
         try clear Y59_3
         try clear p2
         try clear p6
         obtain ⟨kq, x175000_49, x175001_49, x175003_49, HA, HJ49, BK163, BK171, BK174, HB⟩ := hcut
         cases kq with
         | zero => exact absurd HA.out (by simp [glue_Set.j2])
         | succ kj49 =>
          have H := HA.out
          clear HA
          simp only [glue_Set.j2] at H
          by_cases c60 : t168 = 0
          ·rw [if_pos c60] at H
           have c60b0 : (t168 == 0) = true := beq_iff_eq.mpr c60
           have c60b1 : (t168 != 0) = false := bne_eq_false_iff_eq.mpr c60
           clear c60
           by_cases c61 : t169 = 0
           ·rw [if_pos c61] at H
            have c61b0 : (t169 == 0) = true := beq_iff_eq.mpr c61
            have c61b1 : (t169 != 0) = false := bne_eq_false_iff_eq.mpr c61
            clear c61
            simp only [Option.some.injEq, Prod.mk.injEq] at H
            obtain ⟨rfl, rfl, rfl, rfl, rfl⟩ := H
            have hnb62 := NB171_163.out
            have hnc62 := NB163_171.out
            have hnb63 := NB171_174.out
            have hnc63 := NB174_171.out
            obtain ⟨⟨Z64_0, Y64_0⟩, ⟨Z64_1, Y64_1⟩, ⟨Z64_2, Y64_2⟩, ⟨Z64_3, Y64_3⟩, ⟨Z64_4, Y64_4⟩, Z64_5, Y64_5⟩ := cs6_ BK171.out
            have hnb65 := NB174_163.out
            have hnc65 := NB163_174.out
            obtain ⟨⟨Z66_0, Y66_0⟩, ⟨Z66_1, Y66_1⟩, ⟨Z66_2, Y66_2⟩, Z66_3, Y66_3⟩ := cs4_ BK174.out
            obtain ⟨⟨Z67_0, Y67_0⟩, ⟨Z67_1, Y67_1⟩, ⟨Z67_2, Y67_2⟩, Z67_3, Y67_3⟩ := cs4_ BK163.out
            go_wp2
            repeat (rw [rounds_succ]; go_wp2)
            refine bodyPost_ret (results_ct rfl _ _ gb163 56 #[.int .i64 x175000_49, .int .i64 x175001_49, .int .i64 t172, .int .i64 x175003_49] (0, 0) _ rfl (kp0_ BK163.out) Try.underlying56 rfl (by kernel_rfl)) rfl ?_
            exact ⟨by first | rfl | (simp [errW_none, errW_some] <;> rfl) | (simp [*, errW_none, errW_some] <;> rfl), bS3_ HB.out GE163.out GE171.out GE174.out⟩
           ·rw [if_neg c61] at H
            have c61b0 : (t169 == 0) = false := beq_eq_false_iff_ne.mpr c61
            have c61b1 : (t169 != 0) = true := bne_iff_ne.mpr c61
            simp only [Option.some.injEq, Prod.mk.injEq] at H
            obtain ⟨rfl, rfl, rfl, rfl, rfl⟩ := H
            have hnb68 := NB171_163.out
            have hnc68 := NB163_171.out
            have hnb69 := NB171_174.out
            have hnc69 := NB174_171.out
            obtain ⟨⟨Z70_0, Y70_0⟩, ⟨Z70_1, Y70_1⟩, ⟨Z70_2, Y70_2⟩, ⟨Z70_3, Y70_3⟩, ⟨Z70_4, Y70_4⟩, Z70_5, Y70_5⟩ := cs6_ BK171.out
            have hnb71 := NB174_163.out
            have hnc71 := NB163_174.out
            obtain ⟨⟨Z72_0, Y72_0⟩, ⟨Z72_1, Y72_1⟩, ⟨Z72_2, Y72_2⟩, Z72_3, Y72_3⟩ := cs4_ BK174.out
            obtain ⟨⟨Z73_0, Y73_0⟩, ⟨Z73_1, Y73_1⟩, ⟨Z73_2, Y73_2⟩, Z73_3, Y73_3⟩ := cs4_ BK163.out
            go_wp2
            repeat (rw [rounds_succ]; go_wp2)
            refine bodyPost_ret (results_ct rfl _ _ gb163 56 #[.int .i64 1, .int .i64 3, .int .i64 t172, .int .i64 0] (0, 0) _ rfl (kp1_ BK163.out NB163_174.out) Try.underlying56 rfl (by kernel_rfl)) rfl ?_
            exact ⟨by first | rfl | (simp [errW_none, errW_some] <;> rfl) | (simp [*, errW_none, errW_some] <;> rfl), bS3_ HB.out GE163.out GE171.out GE174.out⟩
          ·rw [if_neg c60] at H
           have c60b0 : (t168 == 0) = false := beq_eq_false_iff_ne.mpr c60
           have c60b1 : (t168 != 0) = true := bne_iff_ne.mpr c60
           by_cases c74 : t169 = 0
           ·rw [if_pos c74] at H
            have c74b0 : (t169 == 0) = true := beq_iff_eq.mpr c74
            have c74b1 : (t169 != 0) = false := bne_eq_false_iff_eq.mpr c74
            clear c74
            simp only [Option.some.injEq, Prod.mk.injEq] at H
            obtain ⟨rfl, rfl, rfl, rfl, rfl⟩ := H
            have hnb75 := NB171_163.out
            have hnc75 := NB163_171.out
            have hnb76 := NB171_174.out
            have hnc76 := NB174_171.out
            obtain ⟨⟨Z77_0, Y77_0⟩, ⟨Z77_1, Y77_1⟩, ⟨Z77_2, Y77_2⟩, ⟨Z77_3, Y77_3⟩, ⟨Z77_4, Y77_4⟩, Z77_5, Y77_5⟩ := cs6_ BK171.out
            have hnb78 := NB174_163.out
            have hnc78 := NB163_174.out
            obtain ⟨⟨Z79_0, Y79_0⟩, ⟨Z79_1, Y79_1⟩, ⟨Z79_2, Y79_2⟩, Z79_3, Y79_3⟩ := cs4_ BK174.out
            obtain ⟨⟨Z80_0, Y80_0⟩, ⟨Z80_1, Y80_1⟩, ⟨Z80_2, Y80_2⟩, Z80_3, Y80_3⟩ := cs4_ BK163.out
            go_wp2
            repeat (rw [rounds_succ]; go_wp2)
            refine bodyPost_ret (results_ct rfl _ _ gb163 56 #[.int .i64 1, .int .i64 2, .int .i64 t172, .int .i64 0] (0, 0) _ rfl (kp1_ BK163.out NB163_174.out) Try.underlying56 rfl (by kernel_rfl)) rfl ?_
            exact ⟨by first | rfl | (simp [errW_none, errW_some] <;> rfl) | (simp [*, errW_none, errW_some] <;> rfl), bS3_ HB.out GE163.out GE171.out GE174.out⟩
           ·rw [if_neg c74] at H
            have c74b0 : (t169 == 0) = false := beq_eq_false_iff_ne.mpr c74
            have c74b1 : (t169 != 0) = true := bne_iff_ne.mpr c74
            simp only [Option.some.injEq, Prod.mk.injEq] at H
            obtain ⟨rfl, rfl, rfl, rfl, rfl⟩ := H
            have hnb81 := NB171_163.out
            have hnc81 := NB163_171.out
            have hnb82 := NB171_174.out
            have hnc82 := NB174_171.out
            obtain ⟨⟨Z83_0, Y83_0⟩, ⟨Z83_1, Y83_1⟩, ⟨Z83_2, Y83_2⟩, ⟨Z83_3, Y83_3⟩, ⟨Z83_4, Y83_4⟩, Z83_5, Y83_5⟩ := cs6_ BK171.out
            have hnb84 := NB174_163.out
            have hnc84 := NB163_174.out
            obtain ⟨⟨Z85_0, Y85_0⟩, ⟨Z85_1, Y85_1⟩, ⟨Z85_2, Y85_2⟩, Z85_3, Y85_3⟩ := cs4_ BK174.out
            obtain ⟨⟨Z86_0, Y86_0⟩, ⟨Z86_1, Y86_1⟩, ⟨Z86_2, Y86_2⟩, Z86_3, Y86_3⟩ := cs4_ BK163.out
            go_wp2
            rw [rounds_succ]
            go_wp2
            obtain ⟨w50, hw50⟩ : ∃ w50, w50 = (((wc.setCell ⟨gb174, 0, none⟩ (Value.int IntKind.i64 1)).setCell ⟨gb174, 1, none⟩ (Value.int IntKind.i64 2)).setCell ⟨gb174, 3, none⟩ (Value.int IntKind.i64 0)) := ⟨_, rfl⟩
            rw [← hw50]
            have K9 := a_ (show w50.heap[gb174]? = some (.cells #[.int .i64 1, .int .i64 2, .int .i64 t172, .int .i64 0] 56 (0, 0)) by rw [hw50]; exact blk_put (cs := #[.int .i64 1, .int .i64 2, .int .i64 t172, .int .i64 x175003_49]) (blk_put (cs := #[.int .i64 1, .int .i64 x175001_49, .int .i64 t172, .int .i64 x175003_49]) (blk_put (cs := #[.int .i64 x175000_49, .int .i64 x175001_49, .int .i64 t172, .int .i64 x175003_49]) (BK174.out) 0 _ rfl) 1 _ rfl) 3 _ rfl)
            have K8 := a_ (show w50.heap[gb163]? = some (.cells #[.int .i64 0, .int .i64 0, .int .i64 0, .int .i64 0] 56 (0, 0)) by rw [hw50]; exact blk_far (blk_far (blk_far (BK163.out) (p := ⟨gb174, 0, none⟩) NB163_174.out _) (p := ⟨gb174, 1, none⟩) NB163_174.out _) (p := ⟨gb174, 3, none⟩) NB163_174.out _)
            have K7 := a_ (show Below w.heap.size w w50 by rw [hw50]; exact Below.setCell (Below.setCell (Below.setCell (HB.out) GE174.out _) GE174.out _) GE174.out _)
            clear hw50
            try clear Z79_3
            try clear Y79_0
            try clear Y79_1
            try clear Y79_2
            try clear Y79_3
            try clear Z80_0
            try clear Z80_1
            try clear Z80_2
            try clear Z80_3
            try clear Y80_0
            try clear Y80_1
            try clear Y80_2
            try clear Y80_3
            try clear Z83_0
            try clear Z83_1
            try clear Z83_2
            try clear Z83_3
            try clear Z83_4
            try clear Z83_5
            try clear Y83_0
            try clear Y83_1
            try clear Y83_2
            try clear Y83_3
            try clear Y83_4
            try clear Y83_5
            try clear Z85_0
            try clear Z85_1
            try clear Z85_2
            try clear Z85_3
            try clear Y85_0
            try clear Y85_1
            try clear Y85_2
            try clear Y85_3
            try clear Z86_0
            try clear Z86_1
            try clear Z86_2
            try clear Z86_3
            try clear Y86_0
            try clear Y86_1
            try clear Y86_2
            try clear Y86_3
            have hp0 : w50.cell? ⟨gb174, 0, none⟩ = some (.int .i64 1) := (blk_cell K9.out 0).trans rfl
            have hq0 := blk_frozen K9.out 0
            have hr0 : w50.cell? ⟨gb163, 0, none⟩ = some (.int .i64 0) := (blk_cell K8.out 0).trans rfl
            have hs0 := blk_frozen K8.out 0
            have hp1 : w50.cell? ⟨gb174, 1, none⟩ = some (.int .i64 2) := (blk_cell K9.out 1).trans rfl
            have hq1 := blk_frozen K9.out 1
            have hr1 : w50.cell? ⟨gb163, 1, none⟩ = some (.int .i64 0) := (blk_cell K8.out 1).trans rfl
            have hs1 := blk_frozen K8.out 1
            have hp2 : w50.cell? ⟨gb174, 2, none⟩ = some (.int .i64 t172) := (blk_cell K9.out 2).trans rfl
            have hq2 := blk_frozen K9.out 2
            have hr2 : w50.cell? ⟨gb163, 2, none⟩ = some (.int .i64 0) := (blk_cell K8.out 2).trans rfl
            have hs2 := blk_frozen K8.out 2
            have hp3 : w50.cell? ⟨gb174, 3, none⟩ = some (.int .i64 0) := (blk_cell K9.out 3).trans rfl
            have hq3 := blk_frozen K9.out 3
            have hr3 : w50.cell? ⟨gb163, 3, none⟩ = some (.int .i64 0) := (blk_cell K8.out 3).trans rfl
            have hs3 := blk_frozen K8.out 3
            repeat (rw [rounds_succ]; go_wp2)
            refine bodyPost_ret (results_ct rfl _ _ gb163 56 #[.int .i64 1, .int .i64 3, .int .i64 t172, .int .i64 0] (0, 0) _ rfl (by exact blk_put (cs := #[.int .i64 1, .int .i64 3, .int .i64 t172, .int .i64 0]) (blk_put (cs := #[.int .i64 1, .int .i64 3, .int .i64 0, .int .i64 0]) (blk_put (cs := #[.int .i64 1, .int .i64 0, .int .i64 0, .int .i64 0]) (blk_put (cs := #[.int .i64 0, .int .i64 0, .int .i64 0, .int .i64 0]) (blk_far (blk_far (blk_far (K8.out) (p := ⟨gb174, 0, none⟩) NB163_174.out _) (p := ⟨gb174, 1, none⟩) NB163_174.out _) (p := ⟨gb174, 3, none⟩) NB163_174.out _) 0 _ rfl) 1 _ rfl) 2 _ rfl) 3 _ rfl) Try.underlying56 rfl (by kernel_rfl)) rfl ?_
            exact ⟨rfl, Below.setCell (Below.setCell (Below.setCell (Below.setCell (Below.setCell (Below.setCell (Below.setCell (K7.out) GE174.out _) GE174.out _) GE174.out _) GE163.out _) GE163.out _) GE163.out _) GE163.out _⟩
     ·rw [if_neg c32] at H
      have c32b0 : decide (0 < t172) = false := decide_eq_false c32
      clear c32
      simp only [Option.some.injEq, Prod.mk.injEq] at H
      obtain ⟨rfl, rfl, rfl, rfl, rfl⟩ := H
      go_wp2_with (first | ((with_reducible refine gate_dst (N := 10) rfl ?_); refine box_event ?hg (N := 10) ?hd (cs := #[.int .i64 0, .int .i64 0, .int .i64 0, .int .i64 0]) (t := 56) ?hr ?_; (case hd => rfl); (case hg => rfl); (case hr => first | (go_simp; done) | (go_simp; rfl)); intro gb174 hg w87 hbox hb; have n0_ := a_ (kb_ BK163.out hb); have n1_ := a_ (kb_ BK171.out hb); have n2_ := a_ (below_step (bS2_ HB.out GE163.out GE171.out) hb); have n3_ := a_ (hbox); have n4_ := a_ ((by rw [hg]; exact (below_size (bS2_ HB.out GE163.out GE171.out)) : w.heap.size ≤ gb174)); have n5_ := a_ ((by rw [hg]; exact (below_size (bS2_ HB.out GE163.out GE171.out)) : w.heap.size ≤ gb174)); have n6_ := a_ ((by rw [hg]; exact Nat.ne_of_lt (blk_lt (kv_ BK163.out)) : gb163 ≠ gb174)); have n7_ := a_ ((by rw [hg]; exact Nat.ne_of_gt (blk_lt (kv_ BK163.out)) : gb174 ≠ gb163)); have n8_ := a_ ((by rw [hg]; exact Nat.ne_of_lt (blk_lt (kv_ BK171.out)) : gb171 ≠ gb174)); have n9_ := a_ ((by rw [hg]; exact Nat.ne_of_gt (blk_lt (kv_ BK171.out)) : gb174 ≠ gb171)); clear BK163; clear BK171; clear HB; have BK163 := n0_; have BK171 := n1_; have HB := n2_; have BK174 := n3_; have GW174 := n4_; have GE174 := n5_; have NB163_174 := n6_; have NB174_163 := n7_; have NB171_174 := n8_; have NB174_171 := n9_; clear n0_ n1_ n2_ n3_ n4_ n5_ n6_ n7_ n8_ n9_; clear hb hbox hg; have hnb88 := NB174_163.out; have hnc88 := NB163_174.out; have hnb89 := NB174_171.out; have hnc89 := NB171_174.out; obtain ⟨⟨Z90_0, Y90_0⟩, ⟨Z90_1, Y90_1⟩, ⟨Z90_2, Y90_2⟩, Z90_3, Y90_3⟩ := cs4_ BK174.out; have hnb91 := NB163_171.out; have hnc91 := NB171_163.out; obtain ⟨⟨Z92_0, Y92_0⟩, ⟨Z92_1, Y92_1⟩, ⟨Z92_2, Y92_2⟩, Z92_3, Y92_3⟩ := cs4_ BK163.out))
      refine bodyPost_ret (results_ct rfl _ _ gb163 56 #[.int .i64 0, .int .i64 0, .int .i64 t172, .int .i64 0] (0, 0) _ rfl (kp1_ BK163.out NB163_174.out) Try.underlying56 rfl (by kernel_rfl)) rfl ?_
      exact ⟨by first | rfl | (simp [errW_none, errW_some] <;> rfl) | (simp [*, errW_none, errW_some] <;> rfl), bS3_ HB.out GE163.out GE171.out GE174.out⟩

end Go.Proofs.Ytpfnfofaajpdmaa.PWi

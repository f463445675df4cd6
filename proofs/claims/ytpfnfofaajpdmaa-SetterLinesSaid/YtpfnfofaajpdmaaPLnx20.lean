/- Written by a program of this session: functions of the given program as plain Lean functions, the walks that show it, and the row of each law, for every input that its statement speaks of. -/
import Derived.Test.YtpfnfofaajpdmaaPLnx0
import Derived.Test.YtpfnfofaajpdmaaPLnx15
import Derived.Test.YtpfnfofaajpdmaaPLnx17
import Derived.Test.YtpfnfofaajpdmaaPLnx18
import Derived.Test.YtpfnfofaajpdmaaPLnx19
namespace Go.Proofs.Ytpfnfofaajpdmaa.PLn
open Go.RowKit Go.Proofs.YtpfnfofaajpdmaaW.PrintWords Go.Proofs.YtpfnfofaajpdmaaW.PrintLast Go.Proofs.YtpfnfofaajpdmaaW.PrintMore
attribute [local go_sem] max2_int min2_int max_two min_two max_three min_three max_four min_four   -- for this text's walks alone
set_option linter.unusedVariables false
set_option linter.unusedSimpArgs false

/-! ### variorumref12_Line: function 21 -/
def variorumref12_Line.l0 : Nat → List (S40) → Int → List Int → Int → Int → Int → Int → List (S42) → Bool → Int → Int → Option (Int × Int × (List (S42)) × Bool × Int × Int)
 | 0, _, _, _, _, _, _, _, _, _, _, _ => none
 | k + 1, x0, x2, x11, x14, x15, x445000, x445001, x445002, x445003, x445004, x445005 => if x15 < x2 then (if 0 ≤ x15 then (if x15 < (x0.length : Int) then (if ((rd_T40 x0 x15).f0) = 2 then (variorumref12_Line.l0 k x0 x2 x11 x14 (wrap64 (x15 + 1)) x445000 x445001 x445002 x445003 x445004 x445005) else (if ((rd_T40 x0 x15).f0) = 0 then (if x445002.length < 4398046511104 then (if 0 ≤ x14 then (if x14 < (x11.length : Int) then (variorumref12_Line.l0 k x0 x2 x11 (wrap64 (x14 + 1)) (wrap64 (x15 + 1)) x445000 x445001 (x445002 ++ [(⟨(rd_T40 x0 x15).f4, (rd_T40 x0 x15).f5, x445004, (rd_T40 x0 x15).f1.f0⟩ : S42)]) x445003 (wrap64 (x445004 + (rd x11 x14))) x445005) else (none)) else (none)) else (none)) else (if 0 ≤ x14 then (if x14 < (x11.length : Int) then (variorumref12_Line.l0 k x0 x2 x11 (wrap64 (x14 + 1)) (wrap64 (x15 + 1)) x445000 x445001 x445002 x445003 (wrap64 (x445004 + (rd x11 x14))) x445005) else (none)) else (none)))) else (none)) else (none)) else (some (x445000, x445001, x445002, x445003, x445004, x445005))
def variorumref12_Line.f (k : Nat) (l0 : List (S40)) (a1 : Int) (a2 : Int) (a3 : Int) : Option (Int × Int × (List (S42)) × Bool × Int × Int) := (variorumref10_Line.f k l0 a1 a2 a3).bind fun bt429 => ((variorumref10_Glues.f k l0 a1 a2).bind fun t435 => ((variorumref03_Widths.f k t435 a3).bind fun bt438 => ((variorumref10_Start.f k l0 a1).bind fun t442 => (if 0 ≤ a2 then (if a2 < (l0.length : Int) then (variorumref12_Line.l0 k l0 a2 bt438.1 0 t442 t442 a2 ([] : List (S42)) ((rd_T40 l0 a2).f3) 0 bt429.2.2.2.1) else (none)) else (none)))))
theorem variorumref12_Line.mono_l : ∀ k, (∀ y0 y1 y2 y3 y4 y5 y6 y7 y8 y9 y10, LeO (variorumref12_Line.l0 k y0 y1 y2 y3 y4 y5 y6 y7 y8 y9 y10) (variorumref12_Line.l0 (k + 1) y0 y1 y2 y3 y4 y5 y6 y7 y8 y9 y10))
 | 0 => fun _ _ _ _ _ _ _ _ _ _ _ r h => by simp [variorumref12_Line.l0] at h
 | k + 1 => by
  have ih0 := variorumref12_Line.mono_l k
  ·intro y0 y1 y2 y3 y4 y5 y6 y7 y8 y9 y10
   unfold variorumref12_Line.l0
   repeat' first | (with_reducible first | exact ih0 _ _ _ _ _ _ _ _ _ _ _ | exact variorumref03_Widths.mono _ _ _ | exact variorumref10_Glues.mono _ _ _ _ | exact variorumref10_Line.mono _ _ _ _ _ | exact variorumref10_Start.mono _ _ _ | exact LeO.refl _ | exact LeO.none _ | refine LeO.ite ?_ ?_ | refine LeO.bind ?_ (fun _ => ?_)) | exact LeO.none _ | refine LeO.ite ?_ ?_ | refine LeO.bind ?_ (fun _ => ?_)
theorem variorumref12_Line.mono : ∀ a0 a1 a2 a3 k, LeO (variorumref12_Line.f k a0 a1 a2 a3) (variorumref12_Line.f (k + 1) a0 a1 a2 a3) := by
 intro a0 a1 a2 a3 k
 have ih0 := variorumref12_Line.mono_l k
 unfold variorumref12_Line.f
 repeat' first
   | (with_reducible exact ih0 _ _ _ _ _ _ _ _ _ _ _)
   | (with_reducible exact variorumref03_Widths.mono _ _ _)
   | (with_reducible exact variorumref10_Glues.mono _ _ _ _)
   | (with_reducible exact variorumref10_Line.mono _ _ _ _ _)
   | (with_reducible exact variorumref10_Start.mono _ _ _)
   | (with_reducible exact LeO.refl _)
   | (with_reducible exact LeO.none _)
   | (with_reducible refine LeO.ite ?_ ?_)
   | (with_reducible refine LeO.bind ?_ (fun _ => ?_))
   | exact ih0 _ _ _ _ _ _ _ _ _ _ _
   | exact variorumref03_Widths.mono _ _ _
   | exact variorumref10_Glues.mono _ _ _ _
   | exact variorumref10_Line.mono _ _ _ _ _
   | exact variorumref10_Start.mono _ _ _
   | exact LeO.none _
   | refine LeO.ite ?_ ?_
   | refine LeO.bind ?_ (fun _ => ?_)
def variorumref12_Line.T3 : Bool × List (List Nat × List Nat) := (true, [([], []), ([], []), ([0, 1], [0, 1]), ([], []), ([], []), ([], []), ([4, 5], [4, 5]), ([6], [6]), ([7], [7]), ([], []), ([9], [9]), ([2, 3, 8, 10], [2, 3, 8, 10]), ([], []), ([12, 11, 2, 0, 1, 2, 3, 4, 5, 6, 7, 8, 9, 10, 11, 12], [11, 12])])
def variorumref12_Line.B3 : List Nat := [0, 0, 3, 0, 0, 0, 48, 112, 240, 0, 512, 2047, 0, 8191]
theorem variorumref12_Line.tab3 : rtab .any (opsOf Try.f21 3) = variorumref12_Line.T3 := by kernel_rfl
theorem variorumref12_Line.bits3 : waitsOk variorumref12_Line.T3.2 variorumref12_Line.B3 = true := by kernel_rfl
def variorumref12_Line.T10 : Bool × List (List Nat × List Nat) := (true, [([], []), ([0], [0]), ([], []), ([], []), ([2, 3], [2, 3]), ([4], [4]), ([5], [5]), ([], []), ([], []), ([7, 8], [7, 8]), ([9], [9]), ([10], [10]), ([], []), ([12], [12]), ([], []), ([], []), ([14, 15], [14, 15]), ([16], [16]), ([17], [17]), ([18], [18]), ([6, 11, 13, 19], [6, 11, 13, 19]), ([20], [20]), ([1, 21], [1, 21]), ([0, 1, 2, 3, 4, 5, 6, 7, 8, 9, 10, 11, 12, 13, 14, 15, 16, 17, 18, 19, 20, 21, 22], []), ([23, 22, 22, 0, 1, 2, 3, 4, 5, 6, 7, 8, 9, 10, 11, 12, 13, 14, 15, 16, 17, 18, 19, 20, 21, 22], [22, 23])])
def variorumref12_Line.B10 : List Nat := [0, 1, 0, 0, 12, 28, 60, 0, 0, 384, 896, 1920, 0, 4096, 0, 0, 49152, 114688, 245760, 507904, 1048572, 2097148, 4194303, 8388607, 16777215]
theorem variorumref12_Line.tab10 : rtab .any (opsOf Try.f21 10) = variorumref12_Line.T10 := by kernel_rfl
theorem variorumref12_Line.bits10 : waitsOk variorumref12_Line.T10.2 variorumref12_Line.B10 = true := by kernel_rfl
def variorumref12_Line.T11 : Bool × List (List Nat × List Nat) := (true, [([], []), ([0], [0]), ([], []), ([], []), ([2, 3], [2, 3]), ([4], [4]), ([1, 5], [1, 5]), ([0, 1, 2, 3, 4, 5, 6], []), ([7, 6, 0, 1, 2, 3, 4, 5, 6], [6, 7])])
def variorumref12_Line.B11 : List Nat := [0, 1, 0, 0, 12, 28, 63, 127, 255]
theorem variorumref12_Line.tab11 : rtab .any (opsOf Try.f21 11) = variorumref12_Line.T11 := by kernel_rfl
theorem variorumref12_Line.bits11 : waitsOk variorumref12_Line.T11.2 variorumref12_Line.B11 = true := by kernel_rfl
set_option maxHeartbeats 8000000 in
set_option maxRecDepth 100000 in
theorem variorumref12_Line.calls (k : Nat) (A0 : Option Addr) (c0 : Nat) (l0 : List (S40)) (a1 : Int) (a2 : Int) (a3 : Int) (r1 : Int) (r2 : Int) (r3 : List (S42)) (r4 : Bool) (r5 : Int) (r6 : Int) (w : World) (hr0 : Kd.C k40 w A0 l0.length l0) (hc0 : l0.length ≤ c0) (h : variorumref12_Line.f k l0 a1 a2 a3 = some (r1, r2, r3, r4, r5, r6)) :
  Calls Try.prog 21 #[.slice A0 l0.length c0, .int .i64 a1, .int .i64 a2, .int .i64 a3] w fun e w' => ∃ v2_ : Value, e = .returned (.agg #[.int .i64 r1, .int .i64 r2, v2_, .bool r4, .int .i64 r5, .int .i64 r6]) ∧ Kd.R k42 42 w' w.heap.size (fun _ => True) v2_ r3 ∧ Below w.heap.size w w' := by
 have hu44 := Try.underlying44
 have hu56 := Try.underlying56
 have hu42 := Try.underlying42
 have HR0 := a_ hr0
 have HC0 := a_ hc0
 clear hr0 hc0
 have HB := a_ (Below.refl w.heap.size w)
 have H : ((variorumref10_Line.f k l0 a1 a2 a3).bind fun bt429 => ((variorumref10_Glues.f k l0 a1 a2).bind fun t435 => ((variorumref03_Widths.f k t435 a3).bind fun bt438 => ((variorumref10_Start.f k l0 a1).bind fun t442 => (if 0 ≤ a2 then (if a2 < (l0.length : Int) then (variorumref12_Line.l0 k l0 a2 bt438.1 0 t442 t442 a2 ([] : List (S42)) ((rd_T40 l0 a2).f3) 0 bt429.2.2.2.1) else (none)) else (none)))))) = some (r1, r2, r3, r4, r5, r6) := h
 clear h
 replace H := Option.bind_eq_some_iff.mp H
 obtain ⟨⟨t429, t430, t431, t432, t433⟩, A50, H⟩ := H
 replace H : ((variorumref10_Glues.f k l0 a1 a2).bind fun t435 => ((variorumref03_Widths.f k t435 a3).bind fun bt438 => ((variorumref10_Start.f k l0 a1).bind fun t442 => (if 0 ≤ a2 then (if a2 < (l0.length : Int) then (variorumref12_Line.l0 k l0 a2 bt438.1 0 t442 t442 a2 ([] : List (S42)) ((rd_T40 l0 a2).f3) 0 t432) else (none)) else (none))))) = some (r1, r2, r3, r4, r5, r6) := H
 have A5 := a_ A50
 clear A50
 replace H := Option.bind_eq_some_iff.mp H
 obtain ⟨t435, A60, H⟩ := H
 replace H : ((variorumref03_Widths.f k t435 a3).bind fun bt438 => ((variorumref10_Start.f k l0 a1).bind fun t442 => (if 0 ≤ a2 then (if a2 < (l0.length : Int) then (variorumref12_Line.l0 k l0 a2 bt438.1 0 t442 t442 a2 ([] : List (S42)) ((rd_T40 l0 a2).f3) 0 t432) else (none)) else (none)))) = some (r1, r2, r3, r4, r5, r6) := H
 have A6 := a_ A60
 clear A60
 replace H := Option.bind_eq_some_iff.mp H
 obtain ⟨⟨t438, t439⟩, A70, H⟩ := H
 replace H : ((variorumref10_Start.f k l0 a1).bind fun t442 => (if 0 ≤ a2 then (if a2 < (l0.length : Int) then (variorumref12_Line.l0 k l0 a2 t438 0 t442 t442 a2 ([] : List (S42)) ((rd_T40 l0 a2).f3) 0 t432) else (none)) else (none))) = some (r1, r2, r3, r4, r5, r6) := H
 have A7 := a_ A70
 clear A70
 replace H := Option.bind_eq_some_iff.mp H
 obtain ⟨t442, A80, H⟩ := H
 replace H : (if 0 ≤ a2 then (if a2 < (l0.length : Int) then (variorumref12_Line.l0 k l0 a2 t438 0 t442 t442 a2 ([] : List (S42)) ((rd_T40 l0 a2).f3) 0 t432) else (none)) else (none)) = some (r1, r2, r3, r4, r5, r6) := H
 have A8 := a_ A80
 clear A80
 by_cases c9 : 0 ≤ a2
 ·rw [if_pos c9] at H
  have c9b0 : decide (0 ≤ a2) = true := decide_eq_true c9
  clear c9
  by_cases c10 : a2 < (l0.length : Int)
  ·rw [if_pos c10] at H
   have c10b0 : decide (a2 < (l0.length : Int)) = true := decide_eq_true c10
   clear c10
   have H' := a_ H
   clear H
   go_enter Try.func21, Try.ntmps21
   try go_wp2_with (first | ((with_reducible refine gate_dst (N := 8) rfl ?_); refine box_event ?hg (N := 8) ?hd (cs := #[.int .i64 0, .int .i64 0, .slice none 0 0, .bool false, .int .i64 0, .int .i64 0]) (t := 44) ?hr ?_; (case hd => rfl); (case hg => rfl); (case hr => first | (go_simp; done) | (go_simp; rfl)); intro gb428 hg w11 hbox hb; have n0_ := a_ (bs_ HB.out hb); have n1_ := a_ (hbox); have n2_ := a_ ((by rw [hg]; exact (below_size (bv_ HB.out)) : w.heap.size ≤ gb428)); have n3_ := a_ ((by rw [hg]; exact (below_size (bv_ HB.out)) : w.heap.size ≤ gb428)); clear HB; have HB := n0_; have BK428 := n1_; have GW428 := n2_; have GE428 := n3_; clear n0_ n1_ n2_ n3_; clear hb hbox hg) | ((with_reducible refine gate_callee (f := 20) rfl ?_); refine gl_ (some 21) Try.func20 (by kernel_rfl) #[.slice A0 l0.length c0, .int .i64 a1, .int .i64 a2, .int .i64 a3] ?_; (with_reducible refine (variorumref10_Line.calls k _ _ l0 a1 a2 a3 t429 t430 t431 t432 t433 _ ?side1 ?side2 A5.out).mono ?_); (case side1 => exact cw_ HR0.out HB.out); (case side2 => exact HC0.out); rintro e w12 ⟨rfl, hb⟩; refine ⟨_, rfl, ?_⟩; have n0_ := a_ (kb_ BK428.out hb); have n1_ := a_ (below_step (bS1_ HB.out GE428.out) hb); clear BK428; clear HB; have BK428 := n0_; have HB := n1_; clear n0_ n1_; (try clear hb); (try clear hb2); (try clear hk); (try clear hi)) | ((with_reducible refine gate_dst (N := 9) rfl ?_); refine box_event ?hg (N := 9) ?hd (cs := #[.int .i64 0, .int .i64 0, .int .i64 0, .int .i64 0]) (t := 56) ?hr ?_; (case hd => rfl); (case hg => rfl); (case hr => first | (go_simp; done) | (go_simp; rfl)); intro gb434 hg w13 hbox hb; have n0_ := a_ (kb_ BK428.out hb); have n1_ := a_ (below_step (bS1_ HB.out GE428.out) hb); have n2_ := a_ (hbox); have n3_ := a_ ((by rw [hg]; exact (below_size (bS1_ HB.out GE428.out)) : w.heap.size ≤ gb434)); have n4_ := a_ ((by rw [hg]; exact (below_size (bS1_ HB.out GE428.out)) : w.heap.size ≤ gb434)); have n5_ := a_ ((by rw [hg]; exact Nat.ne_of_lt (blk_lt (kv_ BK428.out)) : gb428 ≠ gb434)); have n6_ := a_ ((by rw [hg]; exact Nat.ne_of_gt (blk_lt (kv_ BK428.out)) : gb434 ≠ gb428)); clear BK428; clear HB; have BK428 := n0_; have HB := n1_; have BK434 := n2_; have GW434 := n3_; have GE434 := n4_; have NB428_434 := n5_; have NB434_428 := n6_; clear n0_ n1_ n2_ n3_ n4_ n5_ n6_; clear hb hbox hg; have hnb14 := NB434_428.out; have hnc14 := NB428_434.out; obtain ⟨⟨Z15_0, Y15_0⟩, ⟨Z15_1, Y15_1⟩, ⟨Z15_2, Y15_2⟩, Z15_3, Y15_3⟩ := cs4_ BK434.out) | ((with_reducible refine gate_callee (f := 36) rfl ?_); refine gl_ (some 28) Try.func36 (by kernel_rfl) #[.slice A0 l0.length c0, .int .i64 a1, .int .i64 a2] ?_; (with_reducible refine (variorumref10_Glues.calls k _ _ l0 a1 a2 t435 _ ?side1 ?side2 A6.out).mono ?_); (case side1 => exact Kd.C_below HR0.out (bS2_ HB.out GE428.out GE434.out)); (case side2 => exact HC0.out); rintro e w16 ⟨v436, rfl, ho0, hb⟩; refine ⟨_, rfl, ?_⟩; have n0_ := a_ (Kd.R_lower ho0 (below_size (bS2_ HB.out GE428.out GE434.out))); have n1_ := a_ (blk_below (kf1_ BK428.out NB428_434.out) hb); have n2_ := a_ (blk_below (g := gb434) (o := .cells #[.int .i64 t429, .int .i64 t430, .int .i64 t431, .int .i64 t432] 56 (0, 0)) (kp0_ BK434.out) hb); have n3_ := a_ (below_step (bS2_ HB.out GE428.out GE434.out) hb); clear BK428; clear BK434; clear HB; have HO437 := n0_; have BK428 := n1_; have BK434 := n2_; have HB := n3_; clear n0_ n1_ n2_ n3_; (try clear hb); (try clear hb2); (try clear hk); (try clear hi); (try clear ho0); obtain ⟨Ao17, co17, eo17⟩ := Kd.R_slice HO437.out; subst eo17) | ((with_reducible refine gate_callee (f := 37) rfl ?_); refine gl_ (some 30) Try.func37 (by kernel_rfl) #[.slice Ao17 t435.length co17, .int .i64 a3] ?_; (with_reducible refine (variorumref03_Widths.calls k _ _ t435 a3 t438 t439 _ ?side1 ?side2 A7.out).mono ?_); (case side1 => exact cr_ (Kd.R_reads' HO437.out).2.2); (case side2 => exact (Kd.R_reads' HO437.out).2.1); rintro e w18 ⟨v440, rfl, ho0, hb⟩; refine ⟨_, rfl, ?_⟩; have n0_ := a_ (Kd.R_below (rv_ HO437.out) hb); have n1_ := a_ (Kd.R_lower ho0 (below_size (bS2_ HB.out GE428.out GE434.out))); have n2_ := a_ (kb_ BK428.out hb); have n3_ := a_ (kb_ BK434.out hb); have n4_ := a_ (below_step (bS2_ HB.out GE428.out GE434.out) hb); clear HO437; clear BK428; clear BK434; clear HB; have HO437 := n0_; have HO441 := n1_; have BK428 := n2_; have BK434 := n3_; have HB := n4_; clear n0_ n1_ n2_ n3_ n4_; (try clear hb); (try clear hb2); (try clear hk); (try clear hi); (try clear ho0)))
   have n0_ := a_ (Kd.R_drew HO437.out)
   have n1_ := a_ (Kd.R_drew HO441.out)
   have n2_ := a_ (blk_drew BK428.out)
   have n3_ := a_ (blk_drew BK434.out)
   have n4_ := a_ (below_drew1 HB.out)
   clear HO437
   clear HO441
   clear BK428
   clear BK434
   clear HB
   have HO437 := n0_
   have HO441 := n1_
   have BK428 := n2_
   have BK434 := n3_
   have HB := n4_
   clear n0_ n1_ n2_ n3_ n4_
   have p443 : 0 ≤ (a2 : Int) := od_
   have q443 : a2 < (l0.length : Int) := od_
   obtain ⟨ad443, e443, hx443_0, hx443_1, hx443_2, hx443_3, hx443_4, hx443_5, hx443_6, hx443_7, hx443_8⟩ := at_T40 HR0.out a2 p443 q443
   have hw443_8 := hx443_8
   have hw443_7 := hx443_7
   have hw443_6 := hx443_6
   have hw443_5 := hx443_5
   have hw443_4 := hx443_4
   have hw443_3 := hx443_3
   have hw443_2 := hx443_2
   have hw443_1 := hx443_1
   have hw443_0 := hx443_0
   cases e443
   try replace hx443_0 := up_ HB.out hx443_0
   try replace hx443_1 := up_ HB.out hx443_1
   try replace hx443_2 := up_ HB.out hx443_2
   try replace hx443_3 := up_ HB.out hx443_3
   try replace hx443_4 := up_ HB.out hx443_4
   try replace hx443_5 := up_ HB.out hx443_5
   try replace hx443_6 := up_ HB.out hx443_6
   try replace hx443_7 := up_ HB.out hx443_7
   try replace hx443_8 := up_ HB.out hx443_8
   replace p443 := eq_true p443
   replace q443 := eq_true q443
   refine start_ (n := 14) (S := fun w' => w'.cell? ⟨gb434, 0, none⟩ = some (.int .i64 t429) ∧ w'.cell? ⟨gb434, 1, none⟩ = some (.int .i64 t430) ∧ w'.cell? ⟨gb434, 2, none⟩ = some (.int .i64 t431) ∧ w'.cell? ⟨gb434, 3, none⟩ = some (.int .i64 t432) ∧ w'.cell? (ad443.add ((a2).toNat * 9)) = some (.int .i64 ((rd_T40 l0 a2).f0)) ∧ w'.cell? ⟨(ad443.add ((a2).toNat * 9)).block, (ad443.add ((a2).toNat * 9)).off + 1, none⟩ = some (.int .i64 ((rd_T40 l0 a2).f1.f0)) ∧ w'.cell? ⟨(ad443.add ((a2).toNat * 9)).block, (ad443.add ((a2).toNat * 9)).off + 2, none⟩ = some (.int .i64 ((rd_T40 l0 a2).f1.f1)) ∧ w'.cell? ⟨(ad443.add ((a2).toNat * 9)).block, (ad443.add ((a2).toNat * 9)).off + 3, none⟩ = some (.int .i64 ((rd_T40 l0 a2).f1.f2)) ∧ w'.cell? ⟨(ad443.add ((a2).toNat * 9)).block, (ad443.add ((a2).toNat * 9)).off + 4, none⟩ = some (.int .i64 ((rd_T40 l0 a2).f1.f3)) ∧ w'.cell? ⟨(ad443.add ((a2).toNat * 9)).block, (ad443.add ((a2).toNat * 9)).off + 5, none⟩ = some (.int .i64 ((rd_T40 l0 a2).f2)) ∧ w'.cell? ⟨(ad443.add ((a2).toNat * 9)).block, (ad443.add ((a2).toNat * 9)).off + 6, none⟩ = some (.bool ((rd_T40 l0 a2).f3)) ∧ w'.cell? ⟨(ad443.add ((a2).toNat * 9)).block, (ad443.add ((a2).toNat * 9)).off + 7, none⟩ = some (.int .i64 ((rd_T40 l0 a2).f4)) ∧ w'.cell? ⟨(ad443.add ((a2).toNat * 9)).block, (ad443.add ((a2).toNat * 9)).off + 8, none⟩ = some (.int .i64 ((rd_T40 l0 a2).f5))) (ds := []) #[false, false, false, false, false, false, false, false, false, false, false, false, false, false] (by kernel_rfl) rfl rfl ⟨(blk_cell BK434.out 0).trans rfl, (blk_cell BK434.out 1).trans rfl, (blk_cell BK434.out 2).trans rfl, (blk_cell BK434.out 3).trans rfl, (up_ HB.out hw443_0), (up_ HB.out hw443_1), (up_ HB.out hw443_2), (up_ HB.out hw443_3), (up_ HB.out hw443_4), (up_ HB.out hw443_5), (up_ HB.out hw443_6), (up_ HB.out hw443_7), (up_ HB.out hw443_8)⟩ (fun hHeld => ?_); refine with_tabW variorumref12_Line.tab3 variorumref12_Line.bits3 (fun HT_ HW_ => ?_)
   generalize w18.drew = w19 at HO437 HO441 BK428 BK434 HB hx443_0 hx443_1 hx443_2 hx443_3 hx443_4 hx443_5 hx443_6 hx443_7 hx443_8 hHeld ⊢
   refine pure_ (i := 0) (N := some 33) #[true, false, false, false, false, false, false, false, false, false, false, false, false, false] rfl rfl (any_of HT_.out (by kernel_rfl)) (fun _ _ _ h => h) (Or.inl ⟨by rfl, fun w' => by go_simp; with_reducible rfl⟩) (by simp only [Act.put, List.setIfInBounds_toArray, List.set_cons_zero, List.set_cons_succ, i64_w, i32_w]; rfl) ?_
   refine pure_ (i := 1) (N := some 34) #[true, true, false, false, false, false, false, false, false, false, false, false, false, false] rfl rfl (any_of HT_.out (by kernel_rfl)) (fun _ _ _ h => h) (Or.inl ⟨by rfl, fun w' => by go_simp; with_reducible rfl⟩) (by simp only [Act.put, List.setIfInBounds_toArray, List.set_cons_zero, List.set_cons_succ, i64_w, i32_w]; rfl) ?_
   refine pure_ (i := 3) (N := some 36) #[true, true, false, true, false, false, false, false, false, false, false, false, false, false] rfl rfl (any_of HT_.out (by kernel_rfl)) (fun _ _ _ h => h) (Or.inl ⟨by rfl, fun w' => by go_simp; with_reducible rfl⟩) (by simp only [Act.put, List.setIfInBounds_toArray, List.set_cons_zero, List.set_cons_succ, i64_w, i32_w]; rfl) ?_
   refine pure_ (i := 4) (N := some 37) #[true, true, false, true, true, false, false, false, false, false, false, false, false, false] rfl rfl (any_of HT_.out (by kernel_rfl)) (fun _ _ _ h => h) (Or.inl ⟨by rfl, fun w' => by go_simp; with_reducible rfl⟩) (by simp only [Act.put, List.setIfInBounds_toArray, List.set_cons_zero, List.set_cons_succ, i64_w, i32_w]; rfl) ?_
   refine pure_ (i := 5) (N := some 38) #[true, true, false, true, true, true, false, false, false, false, false, false, false, false] rfl rfl (any_of HT_.out (by kernel_rfl)) (fun _ _ _ h => h) (Or.inl ⟨by rfl, fun w' => by go_simp; with_reducible rfl⟩) (by simp only [Act.put, List.setIfInBounds_toArray, List.set_cons_zero, List.set_cons_succ, i64_w, i32_w]; rfl) ?_
   refine pure_ (i := 6) (N := some 39) #[true, true, false, true, true, true, true, false, false, false, false, false, false, false] rfl rfl (any_of HT_.out (by kernel_rfl)) (fun _ _ _ h => h) (Or.inl ⟨by rfl, fun w' => by go_simp; with_reducible rfl⟩) (by simp only [Act.put, List.setIfInBounds_toArray, List.set_cons_zero, List.set_cons_succ, i64_w, i32_w]; rfl) ?_
   refine pure_ (i := 7) (N := some 40) #[true, true, false, true, true, true, true, true, false, false, false, false, false, false] rfl rfl (any_of HT_.out (by kernel_rfl)) (fun _ _ _ h => h) (Or.inl ⟨by rfl, fun w' => by go_simp; with_reducible rfl⟩) (by simp only [Act.put, List.setIfInBounds_toArray, List.set_cons_zero, List.set_cons_succ, i64_w, i32_w]; rfl) ?_
   refine pure_ (i := 9) (N := some 42) #[true, true, false, true, true, true, true, true, false, true, false, false, false, false] rfl rfl (any_of HT_.out (by kernel_rfl)) (fun _ _ _ h => h) (Or.inl ⟨by rfl, fun w' => by go_simp; with_reducible rfl⟩) (by simp only [Act.put, List.setIfInBounds_toArray, List.set_cons_zero, List.set_cons_succ, i64_w, i32_w]; rfl) ?_
   refine take_ (i := 8) (N := some 41) (v := ?_) (a' := ?_) #[true, true, false, true, true, true, true, true, true, true, false, false, false, false] rfl rfl (take_ofW HT_.out HW_.out (by kernel_rfl)) (fun _ _ _ h => h) (Or.inl ⟨by rfl, ?_⟩) hHeld ?_ ?_
   rotate_left
   ·rintro w' ⟨s0, s1, s2, s3, s4, s5, s6, s7, s8, s9, s10, s11, s12⟩
    go_simp
    with_reducible rfl
   rotate_left
   ·simp only [Act.put, List.setIfInBounds_toArray, List.set_cons_zero, List.set_cons_succ, i64_w, i32_w]
    rfl
   refine take_ (i := 10) (N := some 43) (v := ?_) (a' := ?_) #[true, true, false, true, true, true, true, true, true, true, true, false, false, false] rfl rfl (take_ofW HT_.out HW_.out (by kernel_rfl)) (fun _ _ _ h => h) (Or.inl ⟨by rfl, ?_⟩) hHeld ?_ ?_
   rotate_left
   ·rintro w' ⟨s0, s1, s2, s3, s4, s5, s6, s7, s8, s9, s10, s11, s12⟩
    go_simp
    with_reducible rfl
   rotate_left
   ·simp only [Act.put, List.setIfInBounds_toArray, List.set_cons_zero, List.set_cons_succ, i64_w, i32_w]
    rfl
   refine join_ (σ := Nat) 1 #[true, true, true, true, true, true, true, true, true, true, true, true, true, false] (fun s_ => [(35, .int .i64 t442), (13, .pointer (some ⟨s_, 0, none⟩)), (44, .agg #[.int .i64 t442, .int .i64 a2, .slice none 0 0, .bool ((rd_T40 l0 a2).f3), .int .i64 0, .int .i64 t432])]) (fun s_ w' => (w'.cell? ⟨gb434, 0, none⟩ = some (.int .i64 t429) ∧ w'.cell? ⟨gb434, 1, none⟩ = some (.int .i64 t430) ∧ w'.cell? ⟨gb434, 2, none⟩ = some (.int .i64 t431) ∧ w'.cell? ⟨gb434, 3, none⟩ = some (.int .i64 t432) ∧ w'.cell? (ad443.add ((a2).toNat * 9)) = some (.int .i64 ((rd_T40 l0 a2).f0)) ∧ w'.cell? ⟨(ad443.add ((a2).toNat * 9)).block, (ad443.add ((a2).toNat * 9)).off + 1, none⟩ = some (.int .i64 ((rd_T40 l0 a2).f1.f0)) ∧ w'.cell? ⟨(ad443.add ((a2).toNat * 9)).block, (ad443.add ((a2).toNat * 9)).off + 2, none⟩ = some (.int .i64 ((rd_T40 l0 a2).f1.f1)) ∧ w'.cell? ⟨(ad443.add ((a2).toNat * 9)).block, (ad443.add ((a2).toNat * 9)).off + 3, none⟩ = some (.int .i64 ((rd_T40 l0 a2).f1.f2)) ∧ w'.cell? ⟨(ad443.add ((a2).toNat * 9)).block, (ad443.add ((a2).toNat * 9)).off + 4, none⟩ = some (.int .i64 ((rd_T40 l0 a2).f1.f3)) ∧ w'.cell? ⟨(ad443.add ((a2).toNat * 9)).block, (ad443.add ((a2).toNat * 9)).off + 5, none⟩ = some (.int .i64 ((rd_T40 l0 a2).f2)) ∧ w'.cell? ⟨(ad443.add ((a2).toNat * 9)).block, (ad443.add ((a2).toNat * 9)).off + 6, none⟩ = some (.bool ((rd_T40 l0 a2).f3)) ∧ w'.cell? ⟨(ad443.add ((a2).toNat * 9)).block, (ad443.add ((a2).toNat * 9)).off + 7, none⟩ = some (.int .i64 ((rd_T40 l0 a2).f4)) ∧ w'.cell? ⟨(ad443.add ((a2).toNat * 9)).block, (ad443.add ((a2).toNat * 9)).off + 8, none⟩ = some (.int .i64 ((rd_T40 l0 a2).f5))) ∧ (Kd.R k38 38 w' w.heap.size (fun _ => True) (.slice Ao17 t435.length co17) t435) ∧ (Kd.R (Kd.int .i64) 2 w' w.heap.size (fun _ => True) v440 t438) ∧ (w'.heap[gb428]? = some (.cells #[.int .i64 0, .int .i64 0, .slice none 0 0, .bool false, .int .i64 0, .int .i64 0] 44 (0, 0))) ∧ (w'.heap[gb434]? = some (.cells #[.int .i64 t429, .int .i64 t430, .int .i64 t431, .int .i64 t432] 56 (0, 0))) ∧ (w'.heap[s_]? = some (.cells #[.int .i64 0, .int .i64 0, .slice none 0 0, .bool false, .int .i64 0, .int .i64 0] 44 (0, 0))) ∧ (w.heap.size ≤ s_) ∧ (w.heap.size ≤ s_) ∧ (gb428 ≠ s_) ∧ (s_ ≠ gb428) ∧ (gb434 ≠ s_) ∧ (s_ ≠ gb434) ∧ (Below w.heap.size w w')) ?_ ?_
   rotate_left
   ·intro hCont
    refine two_ (i := 2) (j := 12) (Ni := some 35) (Nj := some 13) #[true, true, true, true, true, true, true, true, true, true, true, false, false, false] #[true, true, false, true, true, true, true, true, true, true, true, false, true, false] rfl rfl rfl rfl (two_of HT_.out (by kernel_rfl)) (by decide) (by decide) (fun K hK => ?_) (fun K hK => ?_)
    ·skip
     refine goes_ Try.func33 (by kernel_rfl) rfl #[.slice (some ad443) l0.length c0, .int .i64 a1] (by rfl) rfl rfl (by (try simp only [List.map_toArray, List.map_cons, List.map_nil]); first | done | rfl | (simp only [List.length_drop, List.length_take]; rfl) | (simp only [*]; first | done | rfl)) ?_
     with_reducible refine (variorumref10_Start.calls k _ _ l0 a1 t442 _ ?side1 ?side2 A8.out).mono ?_
     (case side1 => exact cw_ HR0.out HB.out)
     (case side2 => exact HC0.out)
     rintro e w20 ⟨rfl, hb⟩
     refine ⟨_, rfl, ?_⟩
     have n0_ := a_ (Kd.R_below (rv_ HO437.out) hb)
     have n1_ := a_ (Kd.R_below (rv_ HO441.out) hb)
     have n2_ := a_ (kb_ BK428.out hb)
     have n3_ := a_ (kb_ BK434.out hb)
     have n4_ := a_ (below_step (bS2_ HB.out GE428.out GE434.out) hb)
     clear HO437
     clear HO441
     clear BK428
     clear BK434
     clear HB
     have HO437 := n0_
     have HO441 := n1_
     have BK428 := n2_
     have BK434 := n3_
     have HB := n4_
     clear n0_ n1_ n2_ n3_ n4_
     (try clear hb)
     (try clear hb2)
     (try clear hk)
     (try clear hi)
     refine hK.out _ _ ⟨(blk_cell BK434.out 0).trans rfl, (blk_cell BK434.out 1).trans rfl, (blk_cell BK434.out 2).trans rfl, (blk_cell BK434.out 3).trans rfl, (up_ HB.out hw443_0), (up_ HB.out hw443_1), (up_ HB.out hw443_2), (up_ HB.out hw443_3), (up_ HB.out hw443_4), (up_ HB.out hw443_5), (up_ HB.out hw443_6), (up_ HB.out hw443_7), (up_ HB.out hw443_8)⟩ (fun hHeld => ?_)
     clear hK K
     refine norm_ (a' := ?_) ?_ ?_
     rotate_left
     ·show Act.put _ (some 35) _ = _
      simp only [Act.put, List.setIfInBounds_toArray, List.set_cons_zero, List.set_cons_succ, i64_w, i32_w]
      rfl
     refine pure_ (i := 11) (N := some 44) #[true, true, true, true, true, true, true, true, true, true, true, true, false, false] rfl rfl (any_of HT_.out (by kernel_rfl)) (fun _ _ _ h => h) (Or.inl ⟨by rfl, fun w' => by go_simp; with_reducible rfl⟩) (by simp only [Act.put, List.setIfInBounds_toArray, List.set_cons_zero, List.set_cons_succ, i64_w, i32_w]; rfl) ?_
     refine one_ (i := 12) (N := some 13) #[true, true, true, true, true, true, true, true, true, true, true, true, true, false] rfl rfl (one_of HT_.out (by kernel_rfl)) (by decide) (fun K hK => ?_)
     refine box_step ?hg (N := 13) ?hd (cs := #[.int .i64 0, .int .i64 0, .slice none 0 0, .bool false, .int .i64 0, .int .i64 0]) (t := 44) ?hr ?_; (case hd => rfl); (case hg => rfl); (case hr => first | (go_simp; done) | (go_simp; rfl))
     intro gb444 hg w21 hbox hb
     have n0_ := a_ (Kd.R_below (rv_ HO437.out) hb)
     have n1_ := a_ (Kd.R_below (rv_ HO441.out) hb)
     have n2_ := a_ (kb_ BK428.out hb)
     have n3_ := a_ (kb_ BK434.out hb)
     have n4_ := a_ (below_step (bS2_ HB.out GE428.out GE434.out) hb)
     have n5_ := a_ (hbox)
     have n6_ := a_ ((by rw [hg]; exact (below_size (bS2_ HB.out GE428.out GE434.out)) : w.heap.size ≤ gb444))
     have n7_ := a_ ((by rw [hg]; exact (below_size (bS2_ HB.out GE428.out GE434.out)) : w.heap.size ≤ gb444))
     have n8_ := a_ ((by rw [hg]; exact Nat.ne_of_lt (blk_lt (kv_ BK428.out)) : gb428 ≠ gb444))
     have n9_ := a_ ((by rw [hg]; exact Nat.ne_of_gt (blk_lt (kv_ BK428.out)) : gb444 ≠ gb428))
     have n10_ := a_ ((by rw [hg]; exact Nat.ne_of_lt (blk_lt (kv_ BK434.out)) : gb434 ≠ gb444))
     have n11_ := a_ ((by rw [hg]; exact Nat.ne_of_gt (blk_lt (kv_ BK434.out)) : gb444 ≠ gb434))
     clear HO437
     clear HO441
     clear BK428
     clear BK434
     clear HB
     have HO437 := n0_
     have HO441 := n1_
     have BK428 := n2_
     have BK434 := n3_
     have HB := n4_
     have BK444 := n5_
     have GW444 := n6_
     have GE444 := n7_
     have NB428_444 := n8_
     have NB444_428 := n9_
     have NB434_444 := n10_
     have NB444_434 := n11_
     clear n0_ n1_ n2_ n3_ n4_ n5_ n6_ n7_ n8_ n9_ n10_ n11_
     clear hb hbox hg
     refine hK.out _ _ ⟨(blk_cell BK434.out 0).trans rfl, (blk_cell BK434.out 1).trans rfl, (blk_cell BK434.out 2).trans rfl, (blk_cell BK434.out 3).trans rfl, (up_ HB.out hw443_0), (up_ HB.out hw443_1), (up_ HB.out hw443_2), (up_ HB.out hw443_3), (up_ HB.out hw443_4), (up_ HB.out hw443_5), (up_ HB.out hw443_6), (up_ HB.out hw443_7), (up_ HB.out hw443_8)⟩ (fun hHeld => ?_)
     clear hK K
     refine norm_ (a' := ?_) ?_ ?_
     rotate_left
     ·show Act.put _ (some 13) _ = _
      simp only [Act.put, List.setIfInBounds_toArray, List.set_cons_zero, List.set_cons_succ, i64_w, i32_w]
      rfl
     exact norm_ (by simp only [putAll, Act.put, List.setIfInBounds_toArray, List.set_cons_zero, List.set_cons_succ]) (hCont (gb444) _ ⟨hHeld, (rv_ HO437.out), (rv_ HO441.out), (kv_ BK428.out), (kv_ BK434.out), (kv_ BK444.out), GW444.out, GE444.out, NB428_444.out, NB444_428.out, NB434_444.out, NB444_434.out, (bS3_ HB.out GE428.out GE434.out GE444.out)⟩)
    ·skip
     refine box_step ?hg (N := 13) ?hd (cs := #[.int .i64 0, .int .i64 0, .slice none 0 0, .bool false, .int .i64 0, .int .i64 0]) (t := 44) ?hr ?_; (case hd => rfl); (case hg => rfl); (case hr => first | (go_simp; done) | (go_simp; rfl))
     intro gb444 hg w20 hbox hb
     have n0_ := a_ (Kd.R_below (rv_ HO437.out) hb)
     have n1_ := a_ (Kd.R_below (rv_ HO441.out) hb)
     have n2_ := a_ (kb_ BK428.out hb)
     have n3_ := a_ (kb_ BK434.out hb)
     have n4_ := a_ (below_step (bS2_ HB.out GE428.out GE434.out) hb)
     have n5_ := a_ (hbox)
     have n6_ := a_ ((by rw [hg]; exact (below_size (bS2_ HB.out GE428.out GE434.out)) : w.heap.size ≤ gb444))
     have n7_ := a_ ((by rw [hg]; exact (below_size (bS2_ HB.out GE428.out GE434.out)) : w.heap.size ≤ gb444))
     have n8_ := a_ ((by rw [hg]; exact Nat.ne_of_lt (blk_lt (kv_ BK428.out)) : gb428 ≠ gb444))
     have n9_ := a_ ((by rw [hg]; exact Nat.ne_of_gt (blk_lt (kv_ BK428.out)) : gb444 ≠ gb428))
     have n10_ := a_ ((by rw [hg]; exact Nat.ne_of_lt (blk_lt (kv_ BK434.out)) : gb434 ≠ gb444))
     have n11_ := a_ ((by rw [hg]; exact Nat.ne_of_gt (blk_lt (kv_ BK434.out)) : gb444 ≠ gb434))
     clear HO437
     clear HO441
     clear BK428
     clear BK434
     clear HB
     have HO437 := n0_
     have HO441 := n1_
     have BK428 := n2_
     have BK434 := n3_
     have HB := n4_
     have BK444 := n5_
     have GW444 := n6_
     have GE444 := n7_
     have NB428_444 := n8_
     have NB444_428 := n9_
     have NB434_444 := n10_
     have NB444_434 := n11_
     clear n0_ n1_ n2_ n3_ n4_ n5_ n6_ n7_ n8_ n9_ n10_ n11_
     clear hb hbox hg
     refine hK.out _ _ ⟨(blk_cell BK434.out 0).trans rfl, (blk_cell BK434.out 1).trans rfl, (blk_cell BK434.out 2).trans rfl, (blk_cell BK434.out 3).trans rfl, (up_ HB.out hw443_0), (up_ HB.out hw443_1), (up_ HB.out hw443_2), (up_ HB.out hw443_3), (up_ HB.out hw443_4), (up_ HB.out hw443_5), (up_ HB.out hw443_6), (up_ HB.out hw443_7), (up_ HB.out hw443_8)⟩ (fun hHeld => ?_)
     clear hK K
     refine norm_ (a' := ?_) ?_ ?_
     rotate_left
     ·show Act.put _ (some 13) _ = _
      simp only [Act.put, List.setIfInBounds_toArray, List.set_cons_zero, List.set_cons_succ, i64_w, i32_w]
      rfl
     refine one_ (i := 2) (N := some 35) #[true, true, true, true, true, true, true, true, true, true, true, false, true, false] rfl rfl (one_of HT_.out (by kernel_rfl)) (by decide) (fun K hK => ?_)
     refine goes_ Try.func33 (by kernel_rfl) rfl #[.slice (some ad443) l0.length c0, .int .i64 a1] (by rfl) rfl rfl (by (try simp only [List.map_toArray, List.map_cons, List.map_nil]); first | done | rfl | (simp only [List.length_drop, List.length_take]; rfl) | (simp only [*]; first | done | rfl)) ?_
     with_reducible refine (variorumref10_Start.calls k _ _ l0 a1 t442 _ ?side1 ?side2 A8.out).mono ?_
     (case side1 => exact cw_ HR0.out HB.out)
     (case side2 => exact HC0.out)
     rintro e w21 ⟨rfl, hb⟩
     refine ⟨_, rfl, ?_⟩
     have n0_ := a_ (Kd.R_below (rv_ HO437.out) hb)
     have n1_ := a_ (Kd.R_below (rv_ HO441.out) hb)
     have n2_ := a_ (kb_ BK428.out hb)
     have n3_ := a_ (kb_ BK434.out hb)
     have n4_ := a_ (kb_ BK444.out hb)
     have n5_ := a_ (below_step (bS3_ HB.out GE428.out GE434.out GE444.out) hb)
     clear HO437
     clear HO441
     clear BK428
     clear BK434
     clear BK444
     clear HB
     have HO437 := n0_
     have HO441 := n1_
     have BK428 := n2_
     have BK434 := n3_
     have BK444 := n4_
     have HB := n5_
     clear n0_ n1_ n2_ n3_ n4_ n5_
     (try clear hb)
     (try clear hb2)
     (try clear hk)
     (try clear hi)
     refine hK.out _ _ ⟨(blk_cell BK434.out 0).trans rfl, (blk_cell BK434.out 1).trans rfl, (blk_cell BK434.out 2).trans rfl, (blk_cell BK434.out 3).trans rfl, (up_ HB.out hw443_0), (up_ HB.out hw443_1), (up_ HB.out hw443_2), (up_ HB.out hw443_3), (up_ HB.out hw443_4), (up_ HB.out hw443_5), (up_ HB.out hw443_6), (up_ HB.out hw443_7), (up_ HB.out hw443_8)⟩ (fun hHeld => ?_)
     clear hK K
     refine norm_ (a' := ?_) ?_ ?_
     rotate_left
     ·show Act.put _ (some 35) _ = _
      simp only [Act.put, List.setIfInBounds_toArray, List.set_cons_zero, List.set_cons_succ, i64_w, i32_w]
      rfl
     refine pure_ (i := 11) (N := some 44) #[true, true, true, true, true, true, true, true, true, true, true, true, true, false] rfl rfl (any_of HT_.out (by kernel_rfl)) (fun _ _ _ h => h) (Or.inl ⟨by rfl, fun w' => by go_simp; with_reducible rfl⟩) (by simp only [Act.put, List.setIfInBounds_toArray, List.set_cons_zero, List.set_cons_succ, i64_w, i32_w]; rfl) ?_
     exact norm_ (by simp only [putAll, Act.put, List.setIfInBounds_toArray, List.set_cons_zero, List.set_cons_succ]) (hCont (gb444) _ ⟨hHeld, (rv_ HO437.out), (rv_ HO441.out), (kv_ BK428.out), (kv_ BK434.out), (kv_ BK444.out), GW444.out, GE444.out, NB428_444.out, NB444_428.out, NB434_444.out, NB444_434.out, (bS3_ HB.out GE428.out GE434.out GE444.out)⟩)
   rintro gb444 w22 ⟨hS_, h0_, h1_, h2_, h3_, h4_, h5_, h6_, h7_, h8_, h9_, h10_, h11_⟩
   have n0_ : Aside0 (Kd.R k38 38 w22 w.heap.size (fun _ => True) (.slice Ao17 t435.length co17) t435) := ⟨h0_⟩
   have n1_ : Aside0 (Kd.R (Kd.int .i64) 2 w22 w.heap.size (fun _ => True) v440 t438) := ⟨h1_⟩
   have n2_ : Aside0 (w22.heap[gb428]? = some (.cells #[.int .i64 0, .int .i64 0, .slice none 0 0, .bool false, .int .i64 0, .int .i64 0] 44 (0, 0))) := ⟨h2_⟩
   have n3_ : Aside0 (w22.heap[gb434]? = some (.cells #[.int .i64 t429, .int .i64 t430, .int .i64 t431, .int .i64 t432] 56 (0, 0))) := ⟨h3_⟩
   have n4_ : Aside0 (w22.heap[gb444]? = some (.cells #[.int .i64 0, .int .i64 0, .slice none 0 0, .bool false, .int .i64 0, .int .i64 0] 44 (0, 0))) := ⟨h4_⟩
   have n5_ : Aside0 (w.heap.size ≤ gb444) := ⟨h5_⟩
   have n6_ : Aside0 (w.heap.size ≤ gb444) := ⟨h6_⟩
   have n7_ : Aside0 (gb428 ≠ gb444) := ⟨h7_⟩
   have n8_ : Aside0 (gb444 ≠ gb428) := ⟨h8_⟩
   have n9_ : Aside0 (gb434 ≠ gb444) := ⟨h9_⟩
   have n10_ : Aside0 (gb444 ≠ gb434) := ⟨h10_⟩
   have n11_ : Aside0 (Below w.heap.size w w22) := ⟨h11_⟩
   clear HO437
   clear HO441
   clear BK428
   clear BK434
   clear HB
   clear h0_ h1_ h2_ h3_ h4_ h5_ h6_ h7_ h8_ h9_ h10_ h11_
   have HO437 := n0_
   have HO441 := n1_
   have BK428 := n2_
   have BK434 := n3_
   have BK444 := n4_
   have GW444 := n5_
   have GE444 := n6_
   have NB428_444 := n7_
   have NB444_428 := n8_
   have NB434_444 := n9_
   have NB444_434 := n10_
   have HB := n11_
   clear n0_ n1_ n2_ n3_ n4_ n5_ n6_ n7_ n8_ n9_ n10_ n11_
   have hHeld : w22.cell? ⟨gb434, 0, none⟩ = some (.int .i64 t429) ∧ w22.cell? ⟨gb434, 1, none⟩ = some (.int .i64 t430) ∧ w22.cell? ⟨gb434, 2, none⟩ = some (.int .i64 t431) ∧ w22.cell? ⟨gb434, 3, none⟩ = some (.int .i64 t432) ∧ w22.cell? (ad443.add ((a2).toNat * 9)) = some (.int .i64 ((rd_T40 l0 a2).f0)) ∧ w22.cell? ⟨(ad443.add ((a2).toNat * 9)).block, (ad443.add ((a2).toNat * 9)).off + 1, none⟩ = some (.int .i64 ((rd_T40 l0 a2).f1.f0)) ∧ w22.cell? ⟨(ad443.add ((a2).toNat * 9)).block, (ad443.add ((a2).toNat * 9)).off + 2, none⟩ = some (.int .i64 ((rd_T40 l0 a2).f1.f1)) ∧ w22.cell? ⟨(ad443.add ((a2).toNat * 9)).block, (ad443.add ((a2).toNat * 9)).off + 3, none⟩ = some (.int .i64 ((rd_T40 l0 a2).f1.f2)) ∧ w22.cell? ⟨(ad443.add ((a2).toNat * 9)).block, (ad443.add ((a2).toNat * 9)).off + 4, none⟩ = some (.int .i64 ((rd_T40 l0 a2).f1.f3)) ∧ w22.cell? ⟨(ad443.add ((a2).toNat * 9)).block, (ad443.add ((a2).toNat * 9)).off + 5, none⟩ = some (.int .i64 ((rd_T40 l0 a2).f2)) ∧ w22.cell? ⟨(ad443.add ((a2).toNat * 9)).block, (ad443.add ((a2).toNat * 9)).off + 6, none⟩ = some (.bool ((rd_T40 l0 a2).f3)) ∧ w22.cell? ⟨(ad443.add ((a2).toNat * 9)).block, (ad443.add ((a2).toNat * 9)).off + 7, none⟩ = some (.int .i64 ((rd_T40 l0 a2).f4)) ∧ w22.cell? ⟨(ad443.add ((a2).toNat * 9)).block, (ad443.add ((a2).toNat * 9)).off + 8, none⟩ = some (.int .i64 ((rd_T40 l0 a2).f5)) := hS_
   refine norm_ (a' := ?_) ?_ ?_
   rotate_left
   ·simp only [putAll, Act.put, List.setIfInBounds_toArray, List.set_cons_zero, List.set_cons_succ]
    rfl
   refine one_ (i := 13) (N := none) #[true, true, true, true, true, true, true, true, true, true, true, true, true, true] rfl rfl (one_of HT_.out (by kernel_rfl)) (by decide) (fun K hK => ?_)
   have hs23 : w22.cell? ⟨gb444, 0, none⟩ = some (.int .i64 0) := (blk_cell BK444.out 0).trans rfl
   have hfs23 := blk_frozen BK444.out 0
   have hns23_0 := NB428_444.out
   have hns23_1 := NB434_444.out
   have hms23_0 := NB444_428.out
   have hms23_1 := NB444_434.out
   have hs24 : w22.cell? ⟨gb444, 1, none⟩ = some (.int .i64 0) := (blk_cell BK444.out 1).trans rfl
   have hfs24 := blk_frozen BK444.out 1
   have hns24_0 := NB428_444.out
   have hns24_1 := NB434_444.out
   have hms24_0 := NB444_428.out
   have hms24_1 := NB444_434.out
   have hs25 : w22.cell? ⟨gb444, 2, none⟩ = some (.slice none 0 0) := (blk_cell BK444.out 2).trans rfl
   have hfs25 := blk_frozen BK444.out 2
   have hns25_0 := NB428_444.out
   have hns25_1 := NB434_444.out
   have hms25_0 := NB444_428.out
   have hms25_1 := NB444_434.out
   have hs26 : w22.cell? ⟨gb444, 3, none⟩ = some (.bool false) := (blk_cell BK444.out 3).trans rfl
   have hfs26 := blk_frozen BK444.out 3
   have hns26_0 := NB428_444.out
   have hns26_1 := NB434_444.out
   have hms26_0 := NB444_428.out
   have hms26_1 := NB444_434.out
   have hs27 : w22.cell? ⟨gb444, 4, none⟩ = some (.int .i64 0) := (blk_cell BK444.out 4).trans rfl
   have hfs27 := blk_frozen BK444.out 4
   have hns27_0 := NB428_444.out
   have hns27_1 := NB434_444.out
   have hms27_0 := NB444_428.out
   have hms27_1 := NB444_434.out
   have hs28 : w22.cell? ⟨gb444, 5, none⟩ = some (.int .i64 0) := (blk_cell BK444.out 5).trans rfl
   have hfs28 := blk_frozen BK444.out 5
   have hns28_0 := NB428_444.out
   have hns28_1 := NB434_444.out
   have hms28_0 := NB444_428.out
   have hms28_1 := NB444_434.out
   refine skip_ (w1 := ?_) (by rfl) rfl ?_ ?_
   rotate_left
   ·go_simp
    rfl
   refine hK.out _ _ ⟨(cc1_ NB434_444.out hHeld.1), (cc1_ NB434_444.out hHeld.2.1), (cc1_ NB434_444.out hHeld.2.2.1), (cc1_ NB434_444.out hHeld.2.2.2.1), (cc1_ (far_ hw443_0 GW444.out) hHeld.2.2.2.2.1), (cc1_ (far_ hw443_1 GW444.out) hHeld.2.2.2.2.2.1), (cc1_ (far_ hw443_2 GW444.out) hHeld.2.2.2.2.2.2.1), (cc1_ (far_ hw443_3 GW444.out) hHeld.2.2.2.2.2.2.2.1), (cc1_ (far_ hw443_4 GW444.out) hHeld.2.2.2.2.2.2.2.2.1), (cc1_ (far_ hw443_5 GW444.out) hHeld.2.2.2.2.2.2.2.2.2.1), (cc1_ (far_ hw443_6 GW444.out) hHeld.2.2.2.2.2.2.2.2.2.2.1), (cc1_ (far_ hw443_7 GW444.out) hHeld.2.2.2.2.2.2.2.2.2.2.2.1), (cc1_ (far_ hw443_8 GW444.out) hHeld.2.2.2.2.2.2.2.2.2.2.2.2)⟩ (fun hHeld => ?_)
   clear hK K
   refine done_ (done_of HT_.out (by kernel_rfl)) ?_
   have hnb29 := NB444_428.out
   have hnc29 := NB428_444.out
   have hnb30 := NB444_434.out
   have hnc30 := NB434_444.out
   obtain ⟨⟨Z31_0, Y31_0⟩, ⟨Z31_1, Y31_1⟩, ⟨Z31_2, Y31_2⟩, ⟨Z31_3, Y31_3⟩, ⟨Z31_4, Y31_4⟩, Z31_5, Y31_5⟩ := cs6_ BK444.out
   try go_wp2
   go_loopg [14, 15] k (fun kq v14 v15 w' => ∃ (x14_1 : Int) (x15_1 : Int) (x445002_1 : List (S42)) (x445004_1 : Int) (u445002 : Value), v14 = .int .i64 x14_1 ∧ v15 = .int .i64 x15_1 ∧ Aside0 (variorumref12_Line.l0 kq l0 a2 t438 x14_1 x15_1 t442 a2 x445002_1 ((rd_T40 l0 a2).f3) x445004_1 t432 = some (r1, r2, r3, r4, r5, r6)) ∧ Aside0 (kq ≤ k) ∧ Aside0 (Kd.R (Kd.int .i64) 2 w' w.heap.size (fun _ => True) v440 t438) ∧ Aside0 (Kd.R k42 42 w' w.heap.size (fun _ => True) u445002 x445002_1) ∧ Aside0 (w'.heap[gb428]? = some (.cells #[.int .i64 0, .int .i64 0, (.slice none 0 0), .bool false, .int .i64 0, .int .i64 0] 44 (0, 0))) ∧ Aside0 (w'.heap[gb434]? = some (.cells #[.int .i64 t429, .int .i64 t430, .int .i64 t431, .int .i64 t432] 56 (0, 0))) ∧ Aside0 (w'.heap[gb444]? = some (.cells #[.int .i64 t442, .int .i64 a2, u445002, .bool ((rd_T40 l0 a2).f3), .int .i64 x445004_1, .int .i64 t432] 44 (0, 0))) ∧ Aside0 (Below w.heap.size w w'))
   case atStart => exact ⟨(0), (t442), (([] : List (S42))), (0), (.slice none 0 0), (by first | rfl | (simp; done) | (simp [*]; done)), (by first | rfl | (simp; done) | (simp [*]; done)), H', ⟨Nat.le_refl _⟩, ⟨by (with_reducible repeat (first | apply Kd.R_alloc | apply Kd.R_drewN | apply Kd.R_drew)); exact Kd.R_mono (Kd.R_far (p := ⟨gb444, 5, none⟩) (Kd.R_far (p := ⟨gb444, 4, none⟩) (Kd.R_far (p := ⟨gb444, 3, none⟩) (Kd.R_far (p := ⟨gb444, 2, none⟩) (Kd.R_far (p := ⟨gb444, 1, none⟩) (Kd.R_far (p := ⟨gb444, 0, none⟩) (Kd.R_types HO441.out BK444.out (by decide)) (fun _ hk => hk.2) (.int .i64 t442)) (fun _ hk => hk.2) (.int .i64 a2)) (fun _ hk => hk.2) (.slice none 0 0)) (fun _ hk => hk.2) (.bool ((rd_T40 l0 a2).f3))) (fun _ hk => hk.2) (.int .i64 0)) (fun _ hk => hk.2) (.int .i64 t432)) (fun _ hk => trivial)⟩, ⟨by first | exact Kd.R_nil _ _ _ _ _ | exact Kd.N_nil _ _ _ _ _ | exact Kd.V_nil _ _ _ _ _ | exact Kd.Q_nil _ _ _ _ _ | exact Kd.S_nil _ _ _ _ _⟩, ⟨kf1_ BK428.out NB428_444.out⟩, ⟨kf1_ BK434.out NB434_444.out⟩, ⟨kp0_ BK444.out⟩, ⟨bS3_ HB.out GE428.out GE434.out GE444.out⟩⟩
   case round =>
    clear H'
    try clear c1
    try clear c2
    try clear p2
    try clear c3
    try clear p4
    try clear q4
    try clear hx4
    try clear c9
    try clear c9b0
    try clear c10
    try clear c10b0
    try clear c14
    try clear c20
    try clear c21
    try clear c29
    try clear c30
    try clear Z15_0
    try clear Z15_1
    try clear Z15_2
    try clear Z15_3
    try clear Z31_0
    try clear Z31_1
    try clear Z31_2
    try clear Z31_3
    try clear Z31_4
    try clear Z31_5
    try clear Y15_0
    try clear Y15_1
    try clear Y15_2
    try clear Y15_3
    try clear Y31_0
    try clear Y31_1
    try clear Y31_2
    try clear Y31_3
    try clear Y31_4
    try clear Y31_5
    try clear hx443_0
    try clear hx443_1
    try clear hx443_2
    try clear hx443_3
    try clear hx443_4
    try clear hx443_5
    try clear hx443_6
    try clear hx443_7
    try clear hx443_8
    try clear p443
    try clear q443
    obtain ⟨x14_1, x15_1, x445002_1, x445004_1, u445002, rfl, rfl, HA, HK1, HO_11, HO_445002, BK428, BK434, BK444, HB⟩ := hrel
    cases gk with
    | zero => exact absurd HA.out (by simp [variorumref12_Line.l0])
    | succ k1 =>
     have H := HA.out
     clear HA
     simp only [variorumref12_Line.l0] at H
     by_cases c32 : x15_1 < a2
     ·rw [if_pos c32] at H
      have c32b0 : decide (x15_1 < a2) = true := decide_eq_true c32
      clear c32
      by_cases c33 : 0 ≤ x15_1
      ·rw [if_pos c33] at H
       have c33b0 : decide (0 ≤ x15_1) = true := decide_eq_true c33
       clear c33
       by_cases c34 : x15_1 < (l0.length : Int)
       ·rw [if_pos c34] at H
        have c34b0 : decide (x15_1 < (l0.length : Int)) = true := decide_eq_true c34
        clear c34
        by_cases c35 : ((rd_T40 l0 x15_1).f0) = 2
        ·rw [if_pos c35] at H
         have c35b0 : (((rd_T40 l0 x15_1).f0) == 2) = true := beq_iff_eq.mpr c35
         have c35b1 : (((rd_T40 l0 x15_1).f0) != 2) = false := bne_eq_false_iff_eq.mpr c35
         clear c35
         have H' := a_ H
         clear H
         have p445 : 0 ≤ (x15_1 : Int) := od_
         have q445 : x15_1 < (l0.length : Int) := od_
         obtain ⟨ad445, e445, hx445_0, hx445_1, hx445_2, hx445_3, hx445_4, hx445_5, hx445_6, hx445_7, hx445_8⟩ := at_T40 (Kd.C_below HR0.out HB.out) x15_1 p445 q445
         obtain rfl : ad443 = ad445 := (by injection e445)
         replace p445 := eq_true p445
         replace q445 := eq_true q445
         go_wp2
         go_roundg k1
         case measure => have := HK1.out; omega
         case rel => exact ⟨(x14_1), (wrap64 (x15_1 + 1)), (x445002_1), (x445004_1), (u445002), (by first | rfl | (simp; done) | (simp [*]; done)), (by first | rfl | (simp; done) | (simp [*]; done)), H', ⟨by have := HK1.out; omega⟩, ⟨by (with_reducible repeat (first | apply Kd.R_alloc | apply Kd.R_drewN | apply Kd.R_drew)); exact HO_11.out⟩, ⟨by (with_reducible repeat (first | apply Kd.R_alloc | apply Kd.R_drewN | apply Kd.R_drew)); exact HO_445002.out⟩, ⟨kv_ BK428.out⟩, ⟨kv_ BK434.out⟩, ⟨kv_ BK444.out⟩, ⟨bS3_ HB.out GE428.out GE434.out GE444.out⟩⟩
        ·rw [if_neg c35] at H
         have c35b0 : (((rd_T40 l0 x15_1).f0) == 2) = false := beq_eq_false_iff_ne.mpr c35
         have c35b1 : (((rd_T40 l0 x15_1).f0) != 2) = true := bne_iff_ne.mpr c35
         by_cases c36 : ((rd_T40 l0 x15_1).f0) = 0
         ·rw [if_pos c36] at H
          have c36b0 : (((rd_T40 l0 x15_1).f0) == 0) = true := beq_iff_eq.mpr c36
          have c36b1 : (((rd_T40 l0 x15_1).f0) != 0) = false := bne_eq_false_iff_eq.mpr c36
          clear c36
          by_cases c37 : x445002_1.length < 4398046511104
          ·rw [if_pos c37] at H
           have LMc37 := a_ c37
           clear c37
           obtain ⟨y450, hy450⟩ : ∃ y_ : List (S42), y_ = (x445002_1 ++ [(⟨(rd_T40 l0 x15_1).f4, (rd_T40 l0 x15_1).f5, x445004_1, (rd_T40 l0 x15_1).f1.f0⟩ : S42)]) := ⟨_, rfl⟩
           replace H : (if 0 ≤ x14_1 then (if x14_1 < (t438.length : Int) then (variorumref12_Line.l0 k1 l0 a2 t438 (wrap64 (x14_1 + 1)) (wrap64 (x15_1 + 1)) t442 a2 y450 ((rd_T40 l0 a2).f3) (wrap64 (x445004_1 + (rd t438 x14_1))) t432) else (none)) else (none)) = some (r1, r2, r3, r4, r5, r6) := by first | (rw [hy450]; with_reducible exact H) | (have H2_ := (Option.bind_some _ _).symm.trans H; rw [hy450]; with_reducible exact H2_) | (have H2_ := (Option.bind_some _ _).symm.trans H; with_reducible exact H2_) | with_reducible exact H | (rw [hy450]; exact H) | exact H
           have Ny450 := a_ hy450
           clear hy450
           by_cases c38 : 0 ≤ x14_1
           ·rw [if_pos c38] at H
            have c38b0 : decide (0 ≤ x14_1) = true := decide_eq_true c38
            clear c38
            by_cases c39 : x14_1 < (t438.length : Int)
            ·rw [if_pos c39] at H
             have c39b0 : decide (x14_1 < (t438.length : Int)) = true := decide_eq_true c39
             clear c39
             have H' := a_ H
             clear H
             have p445 : 0 ≤ (x15_1 : Int) := od_
             have q445 : x15_1 < (l0.length : Int) := od_
             obtain ⟨ad445, e445, hx445_0, hx445_1, hx445_2, hx445_3, hx445_4, hx445_5, hx445_6, hx445_7, hx445_8⟩ := at_T40 (Kd.C_below HR0.out HB.out) x15_1 p445 q445
             obtain rfl : ad443 = ad445 := (by injection e445)
             replace p445 := eq_true p445
             replace q445 := eq_true q445
             have p446 : 0 ≤ (x15_1 : Int) := od_
             have q446 : x15_1 < (l0.length : Int) := od_
             obtain ⟨ad446, e446, hx446_0, hx446_1, hx446_2, hx446_3, hx446_4, hx446_5, hx446_6, hx446_7, hx446_8⟩ := at_T40 (Kd.C_below HR0.out HB.out) x15_1 p446 q446
             obtain rfl : ad443 = ad446 := (by injection e446)
             replace p446 := eq_true p446
             replace q446 := eq_true q446
             try go_wp2
             have n0_ := a_ (Kd.R_drew HO_11.out)
             have n1_ := a_ (Kd.R_drew HO_445002.out)
             have n2_ := a_ (blk_drew BK428.out)
             have n3_ := a_ (blk_drew BK434.out)
             have n4_ := a_ (blk_drew BK444.out)
             have n5_ := a_ (below_drew1 HB.out)
             clear HO_11
             clear HO_445002
             clear BK428
             clear BK434
             clear BK444
             clear HB
             have HO_11 := n0_
             have HO_445002 := n1_
             have BK428 := n2_
             have BK434 := n3_
             have BK444 := n4_
             have HB := n5_
             clear n0_ n1_ n2_ n3_ n4_ n5_
             have p447 : 0 ≤ (x15_1 : Int) := od_
             have q447 : x15_1 < (l0.length : Int) := od_
             obtain ⟨ad447, e447, hx447_0, hx447_1, hx447_2, hx447_3, hx447_4, hx447_5, hx447_6, hx447_7, hx447_8⟩ := at_T40 HR0.out x15_1 p447 q447
             have hw447_8 := hx447_8
             have hw447_7 := hx447_7
             have hw447_6 := hx447_6
             have hw447_5 := hx447_5
             have hw447_4 := hx447_4
             have hw447_3 := hx447_3
             have hw447_2 := hx447_2
             have hw447_1 := hx447_1
             have hw447_0 := hx447_0
             obtain rfl : ad443 = ad447 := (by injection e447)
             try replace hx447_0 := up_ HB.out hx447_0
             try replace hx447_1 := up_ HB.out hx447_1
             try replace hx447_2 := up_ HB.out hx447_2
             try replace hx447_3 := up_ HB.out hx447_3
             try replace hx447_4 := up_ HB.out hx447_4
             try replace hx447_5 := up_ HB.out hx447_5
             try replace hx447_6 := up_ HB.out hx447_6
             try replace hx447_7 := up_ HB.out hx447_7
             try replace hx447_8 := up_ HB.out hx447_8
             replace p447 := eq_true p447
             replace q447 := eq_true q447
             have p448 : 0 ≤ (x15_1 : Int) := od_
             have q448 : x15_1 < (l0.length : Int) := od_
             obtain ⟨ad448, e448, hx448_0, hx448_1, hx448_2, hx448_3, hx448_4, hx448_5, hx448_6, hx448_7, hx448_8⟩ := at_T40 HR0.out x15_1 p448 q448
             have hw448_8 := hx448_8
             have hw448_7 := hx448_7
             have hw448_6 := hx448_6
             have hw448_5 := hx448_5
             have hw448_4 := hx448_4
             have hw448_3 := hx448_3
             have hw448_2 := hx448_2
             have hw448_1 := hx448_1
             have hw448_0 := hx448_0
             obtain rfl : ad443 = ad448 := (by injection e448)
             try replace hx448_0 := up_ HB.out hx448_0
             try replace hx448_1 := up_ HB.out hx448_1
             try replace hx448_2 := up_ HB.out hx448_2
             try replace hx448_3 := up_ HB.out hx448_3
             try replace hx448_4 := up_ HB.out hx448_4
             try replace hx448_5 := up_ HB.out hx448_5
             try replace hx448_6 := up_ HB.out hx448_6
             try replace hx448_7 := up_ HB.out hx448_7
             try replace hx448_8 := up_ HB.out hx448_8
             replace p448 := eq_true p448
             replace q448 := eq_true q448
             have p449 : 0 ≤ (x15_1 : Int) := od_
             have q449 : x15_1 < (l0.length : Int) := od_
             obtain ⟨ad449, e449, hx449_0, hx449_1, hx449_2, hx449_3, hx449_4, hx449_5, hx449_6, hx449_7, hx449_8⟩ := at_T40 HR0.out x15_1 p449 q449
             have hw449_8 := hx449_8
             have hw449_7 := hx449_7
             have hw449_6 := hx449_6
             have hw449_5 := hx449_5
             have hw449_4 := hx449_4
             have hw449_3 := hx449_3
             have hw449_2 := hx449_2
             have hw449_1 := hx449_1
             have hw449_0 := hx449_0
             obtain rfl : ad443 = ad449 := (by injection e449)
             try replace hx449_0 := up_ HB.out hx449_0
             try replace hx449_1 := up_ HB.out hx449_1
             try replace hx449_2 := up_ HB.out hx449_2
             try replace hx449_3 := up_ HB.out hx449_3
             try replace hx449_4 := up_ HB.out hx449_4
             try replace hx449_5 := up_ HB.out hx449_5
             try replace hx449_6 := up_ HB.out hx449_6
             try replace hx449_7 := up_ HB.out hx449_7
             try replace hx449_8 := up_ HB.out hx449_8
             replace p449 := eq_true p449
             replace q449 := eq_true q449
             refine start_ (n := 25) (S := fun w' => w'.cell? ⟨gb444, 0, none⟩ = some (.int .i64 t442) ∧ w'.cell? ⟨gb444, 1, none⟩ = some (.int .i64 a2) ∧ w'.cell? ⟨gb444, 2, none⟩ = some (u445002) ∧ w'.cell? ⟨gb444, 3, none⟩ = some (.bool ((rd_T40 l0 a2).f3)) ∧ w'.cell? ⟨gb444, 4, none⟩ = some (.int .i64 x445004_1) ∧ w'.cell? ⟨gb444, 5, none⟩ = some (.int .i64 t432) ∧ w'.cell? (ad443.add ((x15_1).toNat * 9)) = some (.int .i64 ((rd_T40 l0 x15_1).f0)) ∧ w'.cell? ⟨(ad443.add ((x15_1).toNat * 9)).block, (ad443.add ((x15_1).toNat * 9)).off + 1, none⟩ = some (.int .i64 ((rd_T40 l0 x15_1).f1.f0)) ∧ w'.cell? ⟨(ad443.add ((x15_1).toNat * 9)).block, (ad443.add ((x15_1).toNat * 9)).off + 2, none⟩ = some (.int .i64 ((rd_T40 l0 x15_1).f1.f1)) ∧ w'.cell? ⟨(ad443.add ((x15_1).toNat * 9)).block, (ad443.add ((x15_1).toNat * 9)).off + 3, none⟩ = some (.int .i64 ((rd_T40 l0 x15_1).f1.f2)) ∧ w'.cell? ⟨(ad443.add ((x15_1).toNat * 9)).block, (ad443.add ((x15_1).toNat * 9)).off + 4, none⟩ = some (.int .i64 ((rd_T40 l0 x15_1).f1.f3)) ∧ w'.cell? ⟨(ad443.add ((x15_1).toNat * 9)).block, (ad443.add ((x15_1).toNat * 9)).off + 5, none⟩ = some (.int .i64 ((rd_T40 l0 x15_1).f2)) ∧ w'.cell? ⟨(ad443.add ((x15_1).toNat * 9)).block, (ad443.add ((x15_1).toNat * 9)).off + 6, none⟩ = some (.bool ((rd_T40 l0 x15_1).f3)) ∧ w'.cell? ⟨(ad443.add ((x15_1).toNat * 9)).block, (ad443.add ((x15_1).toNat * 9)).off + 7, none⟩ = some (.int .i64 ((rd_T40 l0 x15_1).f4)) ∧ w'.cell? ⟨(ad443.add ((x15_1).toNat * 9)).block, (ad443.add ((x15_1).toNat * 9)).off + 8, none⟩ = some (.int .i64 ((rd_T40 l0 x15_1).f5)) ∧ w'.cell? (ad443.add ((x15_1).toNat * 9)) = some (.int .i64 ((rd_T40 l0 x15_1).f0)) ∧ w'.cell? ⟨(ad443.add ((x15_1).toNat * 9)).block, (ad443.add ((x15_1).toNat * 9)).off + 1, none⟩ = some (.int .i64 ((rd_T40 l0 x15_1).f1.f0)) ∧ w'.cell? ⟨(ad443.add ((x15_1).toNat * 9)).block, (ad443.add ((x15_1).toNat * 9)).off + 2, none⟩ = some (.int .i64 ((rd_T40 l0 x15_1).f1.f1)) ∧ w'.cell? ⟨(ad443.add ((x15_1).toNat * 9)).block, (ad443.add ((x15_1).toNat * 9)).off + 3, none⟩ = some (.int .i64 ((rd_T40 l0 x15_1).f1.f2)) ∧ w'.cell? ⟨(ad443.add ((x15_1).toNat * 9)).block, (ad443.add ((x15_1).toNat * 9)).off + 4, none⟩ = some (.int .i64 ((rd_T40 l0 x15_1).f1.f3)) ∧ w'.cell? ⟨(ad443.add ((x15_1).toNat * 9)).block, (ad443.add ((x15_1).toNat * 9)).off + 5, none⟩ = some (.int .i64 ((rd_T40 l0 x15_1).f2)) ∧ w'.cell? ⟨(ad443.add ((x15_1).toNat * 9)).block, (ad443.add ((x15_1).toNat * 9)).off + 6, none⟩ = some (.bool ((rd_T40 l0 x15_1).f3)) ∧ w'.cell? ⟨(ad443.add ((x15_1).toNat * 9)).block, (ad443.add ((x15_1).toNat * 9)).off + 7, none⟩ = some (.int .i64 ((rd_T40 l0 x15_1).f4)) ∧ w'.cell? ⟨(ad443.add ((x15_1).toNat * 9)).block, (ad443.add ((x15_1).toNat * 9)).off + 8, none⟩ = some (.int .i64 ((rd_T40 l0 x15_1).f5)) ∧ w'.cell? (ad443.add ((x15_1).toNat * 9)) = some (.int .i64 ((rd_T40 l0 x15_1).f0)) ∧ w'.cell? ⟨(ad443.add ((x15_1).toNat * 9)).block, (ad443.add ((x15_1).toNat * 9)).off + 1, none⟩ = some (.int .i64 ((rd_T40 l0 x15_1).f1.f0)) ∧ w'.cell? ⟨(ad443.add ((x15_1).toNat * 9)).block, (ad443.add ((x15_1).toNat * 9)).off + 2, none⟩ = some (.int .i64 ((rd_T40 l0 x15_1).f1.f1)) ∧ w'.cell? ⟨(ad443.add ((x15_1).toNat * 9)).block, (ad443.add ((x15_1).toNat * 9)).off + 3, none⟩ = some (.int .i64 ((rd_T40 l0 x15_1).f1.f2)) ∧ w'.cell? ⟨(ad443.add ((x15_1).toNat * 9)).block, (ad443.add ((x15_1).toNat * 9)).off + 4, none⟩ = some (.int .i64 ((rd_T40 l0 x15_1).f1.f3)) ∧ w'.cell? ⟨(ad443.add ((x15_1).toNat * 9)).block, (ad443.add ((x15_1).toNat * 9)).off + 5, none⟩ = some (.int .i64 ((rd_T40 l0 x15_1).f2)) ∧ w'.cell? ⟨(ad443.add ((x15_1).toNat * 9)).block, (ad443.add ((x15_1).toNat * 9)).off + 6, none⟩ = some (.bool ((rd_T40 l0 x15_1).f3)) ∧ w'.cell? ⟨(ad443.add ((x15_1).toNat * 9)).block, (ad443.add ((x15_1).toNat * 9)).off + 7, none⟩ = some (.int .i64 ((rd_T40 l0 x15_1).f4)) ∧ w'.cell? ⟨(ad443.add ((x15_1).toNat * 9)).block, (ad443.add ((x15_1).toNat * 9)).off + 8, none⟩ = some (.int .i64 ((rd_T40 l0 x15_1).f5))) (ds := [24]) #[false, false, false, false, false, false, false, false, false, false, false, false, false, false, false, false, false, false, false, false, false, false, false, false, false] (by kernel_rfl) rfl rfl ⟨(blk_cell BK444.out 0).trans rfl, (blk_cell BK444.out 1).trans rfl, (blk_cell BK444.out 2).trans rfl, (blk_cell BK444.out 3).trans rfl, (blk_cell BK444.out 4).trans rfl, (blk_cell BK444.out 5).trans rfl, (up_ HB.out hw447_0), (up_ HB.out hw447_1), (up_ HB.out hw447_2), (up_ HB.out hw447_3), (up_ HB.out hw447_4), (up_ HB.out hw447_5), (up_ HB.out hw447_6), (up_ HB.out hw447_7), (up_ HB.out hw447_8), (up_ HB.out hw448_0), (up_ HB.out hw448_1), (up_ HB.out hw448_2), (up_ HB.out hw448_3), (up_ HB.out hw448_4), (up_ HB.out hw448_5), (up_ HB.out hw448_6), (up_ HB.out hw448_7), (up_ HB.out hw448_8), (up_ HB.out hw449_0), (up_ HB.out hw449_1), (up_ HB.out hw449_2), (up_ HB.out hw449_3), (up_ HB.out hw449_4), (up_ HB.out hw449_5), (up_ HB.out hw449_6), (up_ HB.out hw449_7), (up_ HB.out hw449_8)⟩ (fun hHeld => ?_); refine with_tabW variorumref12_Line.tab10 variorumref12_Line.bits10 (fun HT_ HW_ => ?_)
             generalize wr.drew = w40 at HO_11 HO_445002 BK428 BK434 BK444 HB hx447_0 hx447_1 hx447_2 hx447_3 hx447_4 hx447_5 hx447_6 hx447_7 hx447_8 hx448_0 hx448_1 hx448_2 hx448_3 hx448_4 hx448_5 hx448_6 hx448_7 hx448_8 hx449_0 hx449_1 hx449_2 hx449_3 hx449_4 hx449_5 hx449_6 hx449_7 hx449_8 hHeld ⊢
             refine pure_ (i := 0) (N := some 64) #[true, false, false, false, false, false, false, false, false, false, false, false, false, false, false, false, false, false, false, false, false, false, false, false, false] rfl rfl (any_of HT_.out (by kernel_rfl)) (fun _ _ _ h => h) (Or.inl ⟨by rfl, fun w' => by go_simp; with_reducible rfl⟩) (by simp only [Act.put, List.setIfInBounds_toArray, List.set_cons_zero, List.set_cons_succ, i64_w, i32_w]; rfl) ?_
             refine pure_ (i := 2) (N := some 66) #[true, false, true, false, false, false, false, false, false, false, false, false, false, false, false, false, false, false, false, false, false, false, false, false, false] rfl rfl (any_of HT_.out (by kernel_rfl)) (fun _ _ _ h => h) (Or.inl ⟨by rfl, fun w' => by go_simp; with_reducible rfl⟩) (by simp only [Act.put, List.setIfInBounds_toArray, List.set_cons_zero, List.set_cons_succ, i64_w, i32_w]; rfl) ?_
             refine pure_ (i := 3) (N := some 67) #[true, false, true, true, false, false, false, false, false, false, false, false, false, false, false, false, false, false, false, false, false, false, false, false, false] rfl rfl (any_of HT_.out (by kernel_rfl)) (fun _ _ _ h => h) (Or.inl ⟨by rfl, fun w' => by go_simp; with_reducible rfl⟩) (by simp only [Act.put, List.setIfInBounds_toArray, List.set_cons_zero, List.set_cons_succ, i64_w, i32_w]; rfl) ?_
             refine pure_ (i := 4) (N := some 68) #[true, false, true, true, true, false, false, false, false, false, false, false, false, false, false, false, false, false, false, false, false, false, false, false, false] rfl rfl (any_of HT_.out (by kernel_rfl)) (fun _ _ _ h => h) (Or.inl ⟨by rfl, fun w' => by go_simp; with_reducible rfl⟩) (by simp only [Act.put, List.setIfInBounds_toArray, List.set_cons_zero, List.set_cons_succ, i64_w, i32_w]; rfl) ?_
             refine pure_ (i := 5) (N := some 69) #[true, false, true, true, true, true, false, false, false, false, false, false, false, false, false, false, false, false, false, false, false, false, false, false, false] rfl rfl (any_of HT_.out (by kernel_rfl)) (fun _ _ _ h => h) (Or.inl ⟨by rfl, fun w' => by go_simp; with_reducible rfl⟩) (by simp only [Act.put, List.setIfInBounds_toArray, List.set_cons_zero, List.set_cons_succ, i64_w, i32_w]; rfl) ?_
             refine pure_ (i := 7) (N := some 71) #[true, false, true, true, true, true, false, true, false, false, false, false, false, false, false, false, false, false, false, false, false, false, false, false, false] rfl rfl (any_of HT_.out (by kernel_rfl)) (fun _ _ _ h => h) (Or.inl ⟨by rfl, fun w' => by go_simp; with_reducible rfl⟩) (by simp only [Act.put, List.setIfInBounds_toArray, List.set_cons_zero, List.set_cons_succ, i64_w, i32_w]; rfl) ?_
             refine pure_ (i := 8) (N := some 72) #[true, false, true, true, true, true, false, true, true, false, false, false, false, false, false, false, false, false, false, false, false, false, false, false, false] rfl rfl (any_of HT_.out (by kernel_rfl)) (fun _ _ _ h => h) (Or.inl ⟨by rfl, fun w' => by go_simp; with_reducible rfl⟩) (by simp only [Act.put, List.setIfInBounds_toArray, List.set_cons_zero, List.set_cons_succ, i64_w, i32_w]; rfl) ?_
             refine pure_ (i := 9) (N := some 73) #[true, false, true, true, true, true, false, true, true, true, false, false, false, false, false, false, false, false, false, false, false, false, false, false, false] rfl rfl (any_of HT_.out (by kernel_rfl)) (fun _ _ _ h => h) (Or.inl ⟨by rfl, fun w' => by go_simp; with_reducible rfl⟩) (by simp only [Act.put, List.setIfInBounds_toArray, List.set_cons_zero, List.set_cons_succ, i64_w, i32_w]; rfl) ?_
             refine pure_ (i := 10) (N := some 74) #[true, false, true, true, true, true, false, true, true, true, true, false, false, false, false, false, false, false, false, false, false, false, false, false, false] rfl rfl (any_of HT_.out (by kernel_rfl)) (fun _ _ _ h => h) (Or.inl ⟨by rfl, fun w' => by go_simp; with_reducible rfl⟩) (by simp only [Act.put, List.setIfInBounds_toArray, List.set_cons_zero, List.set_cons_succ, i64_w, i32_w]; rfl) ?_
             refine pure_ (i := 12) (N := some 76) #[true, false, true, true, true, true, false, true, true, true, true, false, true, false, false, false, false, false, false, false, false, false, false, false, false] rfl rfl (any_of HT_.out (by kernel_rfl)) (fun _ _ _ h => h) (Or.inl ⟨by rfl, fun w' => by go_simp; with_reducible rfl⟩) (by simp only [Act.put, List.setIfInBounds_toArray, List.set_cons_zero, List.set_cons_succ, i64_w, i32_w]; rfl) ?_
             refine pure_ (i := 14) (N := some 78) #[true, false, true, true, true, true, false, true, true, true, true, false, true, false, true, false, false, false, false, false, false, false, false, false, false] rfl rfl (any_of HT_.out (by kernel_rfl)) (fun _ _ _ h => h) (Or.inl ⟨by rfl, fun w' => by go_simp; with_reducible rfl⟩) (by simp only [Act.put, List.setIfInBounds_toArray, List.set_cons_zero, List.set_cons_succ, i64_w, i32_w]; rfl) ?_
             refine pure_ (i := 15) (N := some 79) #[true, false, true, true, true, true, false, true, true, true, true, false, true, false, true, true, false, false, false, false, false, false, false, false, false] rfl rfl (any_of HT_.out (by kernel_rfl)) (fun _ _ _ h => h) (Or.inl ⟨by rfl, fun w' => by go_simp; with_reducible rfl⟩) (by simp only [Act.put, List.setIfInBounds_toArray, List.set_cons_zero, List.set_cons_succ, i64_w, i32_w]; rfl) ?_
             refine pure_ (i := 16) (N := some 80) #[true, false, true, true, true, true, false, true, true, true, true, false, true, false, true, true, true, false, false, false, false, false, false, false, false] rfl rfl (any_of HT_.out (by kernel_rfl)) (fun _ _ _ h => h) (Or.inl ⟨by rfl, fun w' => by go_simp; with_reducible rfl⟩) (by simp only [Act.put, List.setIfInBounds_toArray, List.set_cons_zero, List.set_cons_succ, i64_w, i32_w]; rfl) ?_
             refine pure_ (i := 17) (N := some 81) #[true, false, true, true, true, true, false, true, true, true, true, false, true, false, true, true, true, true, false, false, false, false, false, false, false] rfl rfl (any_of HT_.out (by kernel_rfl)) (fun _ _ _ h => h) (Or.inl ⟨by rfl, fun w' => by go_simp; with_reducible rfl⟩) (by simp only [Act.put, List.setIfInBounds_toArray, List.set_cons_zero, List.set_cons_succ, i64_w, i32_w]; rfl) ?_
             refine pure_ (i := 18) (N := some 82) #[true, false, true, true, true, true, false, true, true, true, true, false, true, false, true, true, true, true, true, false, false, false, false, false, false] rfl rfl (any_of HT_.out (by kernel_rfl)) (fun _ _ _ h => h) (Or.inl ⟨by rfl, fun w' => by go_simp; with_reducible rfl⟩) (by simp only [Act.put, List.setIfInBounds_toArray, List.set_cons_zero, List.set_cons_succ, i64_w, i32_w]; rfl) ?_
             refine take_ (i := 1) (N := some 65) (v := ?_) (a' := ?_) #[true, true, true, true, true, true, false, true, true, true, true, false, true, false, true, true, true, true, true, false, false, false, false, false, false] rfl rfl (take_ofW HT_.out HW_.out (by kernel_rfl)) (fun _ _ _ h => h) (Or.inl ⟨by rfl, ?_⟩) hHeld ?_ ?_
             rotate_left
             ·rintro w' ⟨s0, s1, s2, s3, s4, s5, s6, s7, s8, s9, s10, s11, s12, s13, s14, s15, s16, s17, s18, s19, s20, s21, s22, s23, s24, s25, s26, s27, s28, s29, s30, s31, s32⟩
              go_simp
              with_reducible rfl
             rotate_left
             ·simp only [Act.put, List.setIfInBounds_toArray, List.set_cons_zero, List.set_cons_succ, i64_w, i32_w]
              rfl
             refine take_ (i := 6) (N := some 70) (v := ?_) (a' := ?_) #[true, true, true, true, true, true, true, true, true, true, true, false, true, false, true, true, true, true, true, false, false, false, false, false, false] rfl rfl (take_ofW HT_.out HW_.out (by kernel_rfl)) (fun _ _ _ h => h) (Or.inl ⟨by rfl, ?_⟩) hHeld ?_ ?_
             rotate_left
             ·rintro w' ⟨s0, s1, s2, s3, s4, s5, s6, s7, s8, s9, s10, s11, s12, s13, s14, s15, s16, s17, s18, s19, s20, s21, s22, s23, s24, s25, s26, s27, s28, s29, s30, s31, s32⟩
              go_simp
              with_reducible rfl
             rotate_left
             ·simp only [Act.put, List.setIfInBounds_toArray, List.set_cons_zero, List.set_cons_succ, i64_w, i32_w]
              rfl
             refine take_ (i := 11) (N := some 75) (v := ?_) (a' := ?_) #[true, true, true, true, true, true, true, true, true, true, true, true, true, false, true, true, true, true, true, false, false, false, false, false, false] rfl rfl (take_ofW HT_.out HW_.out (by kernel_rfl)) (fun _ _ _ h => h) (Or.inl ⟨by rfl, ?_⟩) hHeld ?_ ?_
             rotate_left
             ·rintro w' ⟨s0, s1, s2, s3, s4, s5, s6, s7, s8, s9, s10, s11, s12, s13, s14, s15, s16, s17, s18, s19, s20, s21, s22, s23, s24, s25, s26, s27, s28, s29, s30, s31, s32⟩
              go_simp
              with_reducible rfl
             rotate_left
             ·simp only [Act.put, List.setIfInBounds_toArray, List.set_cons_zero, List.set_cons_succ, i64_w, i32_w]
              rfl
             refine take_ (i := 13) (N := some 77) (v := ?_) (a' := ?_) #[true, true, true, true, true, true, true, true, true, true, true, true, true, true, true, true, true, true, true, false, false, false, false, false, false] rfl rfl (take_ofW HT_.out HW_.out (by kernel_rfl)) (fun _ _ _ h => h) (Or.inl ⟨by rfl, ?_⟩) hHeld ?_ ?_
             rotate_left
             ·rintro w' ⟨s0, s1, s2, s3, s4, s5, s6, s7, s8, s9, s10, s11, s12, s13, s14, s15, s16, s17, s18, s19, s20, s21, s22, s23, s24, s25, s26, s27, s28, s29, s30, s31, s32⟩
              go_simp
              with_reducible rfl
             rotate_left
             ·simp only [Act.put, List.setIfInBounds_toArray, List.set_cons_zero, List.set_cons_succ, i64_w, i32_w]
              rfl
             refine take_ (i := 19) (N := some 83) (v := ?_) (a' := ?_) #[true, true, true, true, true, true, true, true, true, true, true, true, true, true, true, true, true, true, true, true, false, false, false, false, false] rfl rfl (take_ofW HT_.out HW_.out (by kernel_rfl)) (fun _ _ _ h => h) (Or.inl ⟨by rfl, ?_⟩) hHeld ?_ ?_
             rotate_left
             ·rintro w' ⟨s0, s1, s2, s3, s4, s5, s6, s7, s8, s9, s10, s11, s12, s13, s14, s15, s16, s17, s18, s19, s20, s21, s22, s23, s24, s25, s26, s27, s28, s29, s30, s31, s32⟩
              go_simp
              with_reducible rfl
             rotate_left
             ·simp only [Act.put, List.setIfInBounds_toArray, List.set_cons_zero, List.set_cons_succ, i64_w, i32_w]
              rfl
             refine pure_ (i := 20) (N := some 84) #[true, true, true, true, true, true, true, true, true, true, true, true, true, true, true, true, true, true, true, true, true, false, false, false, false] rfl rfl (any_of HT_.out (by kernel_rfl)) (fun _ _ _ h => h) (Or.inl ⟨by rfl, fun w' => by go_simp; with_reducible rfl⟩) (by simp only [Act.put, List.setIfInBounds_toArray, List.set_cons_zero, List.set_cons_succ, i64_w, i32_w]; rfl) ?_
             refine one_ (i := 21) (N := some 85) #[true, true, true, true, true, true, true, true, true, true, true, true, true, true, true, true, true, true, true, true, true, true, false, false, false] rfl rfl (one_of HT_.out (by kernel_rfl)) (by decide) (fun K hK => ?_)
             refine value_ (w1 := ?_) (v := ?_) (by rfl) rfl ?_ ?_
             rotate_left 2
             ·go_simp
              constructor
              ·rfl
              ·rfl
             refine hK.out _ _ ⟨(blk_cell (blk_alloc BK444.out _) 0).trans rfl, (blk_cell (blk_alloc BK444.out _) 1).trans rfl, (blk_cell (blk_alloc BK444.out _) 2).trans rfl, (blk_cell (blk_alloc BK444.out _) 3).trans rfl, (blk_cell (blk_alloc BK444.out _) 4).trans rfl, (blk_cell (blk_alloc BK444.out _) 5).trans rfl, (World.cell?_alloc_lt _ _ _ (World.block_lt_of_cell? _ _ ((up_ HB.out hw447_0)))).trans ((up_ HB.out hw447_0)), (World.cell?_alloc_lt _ _ _ (World.block_lt_of_cell? _ _ ((up_ HB.out hw447_1)))).trans ((up_ HB.out hw447_1)), (World.cell?_alloc_lt _ _ _ (World.block_lt_of_cell? _ _ ((up_ HB.out hw447_2)))).trans ((up_ HB.out hw447_2)), (World.cell?_alloc_lt _ _ _ (World.block_lt_of_cell? _ _ ((up_ HB.out hw447_3)))).trans ((up_ HB.out hw447_3)), (World.cell?_alloc_lt _ _ _ (World.block_lt_of_cell? _ _ ((up_ HB.out hw447_4)))).trans ((up_ HB.out hw447_4)), (World.cell?_alloc_lt _ _ _ (World.block_lt_of_cell? _ _ ((up_ HB.out hw447_5)))).trans ((up_ HB.out hw447_5)), (World.cell?_alloc_lt _ _ _ (World.block_lt_of_cell? _ _ ((up_ HB.out hw447_6)))).trans ((up_ HB.out hw447_6)), (World.cell?_alloc_lt _ _ _ (World.block_lt_of_cell? _ _ ((up_ HB.out hw447_7)))).trans ((up_ HB.out hw447_7)), (World.cell?_alloc_lt _ _ _ (World.block_lt_of_cell? _ _ ((up_ HB.out hw447_8)))).trans ((up_ HB.out hw447_8)), (World.cell?_alloc_lt _ _ _ (World.block_lt_of_cell? _ _ ((up_ HB.out hw448_0)))).trans ((up_ HB.out hw448_0)), (World.cell?_alloc_lt _ _ _ (World.block_lt_of_cell? _ _ ((up_ HB.out hw448_1)))).trans ((up_ HB.out hw448_1)), (World.cell?_alloc_lt _ _ _ (World.block_lt_of_cell? _ _ ((up_ HB.out hw448_2)))).trans ((up_ HB.out hw448_2)), (World.cell?_alloc_lt _ _ _ (World.block_lt_of_cell? _ _ ((up_ HB.out hw448_3)))).trans ((up_ HB.out hw448_3)), (World.cell?_alloc_lt _ _ _ (World.block_lt_of_cell? _ _ ((up_ HB.out hw448_4)))).trans ((up_ HB.out hw448_4)), (World.cell?_alloc_lt _ _ _ (World.block_lt_of_cell? _ _ ((up_ HB.out hw448_5)))).trans ((up_ HB.out hw448_5)), (World.cell?_alloc_lt _ _ _ (World.block_lt_of_cell? _ _ ((up_ HB.out hw448_6)))).trans ((up_ HB.out hw448_6)), (World.cell?_alloc_lt _ _ _ (World.block_lt_of_cell? _ _ ((up_ HB.out hw448_7)))).trans ((up_ HB.out hw448_7)), (World.cell?_alloc_lt _ _ _ (World.block_lt_of_cell? _ _ ((up_ HB.out hw448_8)))).trans ((up_ HB.out hw448_8)), (World.cell?_alloc_lt _ _ _ (World.block_lt_of_cell? _ _ ((up_ HB.out hw449_0)))).trans ((up_ HB.out hw449_0)), (World.cell?_alloc_lt _ _ _ (World.block_lt_of_cell? _ _ ((up_ HB.out hw449_1)))).trans ((up_ HB.out hw449_1)), (World.cell?_alloc_lt _ _ _ (World.block_lt_of_cell? _ _ ((up_ HB.out hw449_2)))).trans ((up_ HB.out hw449_2)), (World.cell?_alloc_lt _ _ _ (World.block_lt_of_cell? _ _ ((up_ HB.out hw449_3)))).trans ((up_ HB.out hw449_3)), (World.cell?_alloc_lt _ _ _ (World.block_lt_of_cell? _ _ ((up_ HB.out hw449_4)))).trans ((up_ HB.out hw449_4)), (World.cell?_alloc_lt _ _ _ (World.block_lt_of_cell? _ _ ((up_ HB.out hw449_5)))).trans ((up_ HB.out hw449_5)), (World.cell?_alloc_lt _ _ _ (World.block_lt_of_cell? _ _ ((up_ HB.out hw449_6)))).trans ((up_ HB.out hw449_6)), (World.cell?_alloc_lt _ _ _ (World.block_lt_of_cell? _ _ ((up_ HB.out hw449_7)))).trans ((up_ HB.out hw449_7)), (World.cell?_alloc_lt _ _ _ (World.block_lt_of_cell? _ _ ((up_ HB.out hw449_8)))).trans ((up_ HB.out hw449_8))⟩ (fun hHeld => ?_)
             clear hK K
             refine norm_ (a' := ?_) ?_ ?_
             rotate_left
             ·show Act.put _ (some 85) _ = _
              simp only [Act.put, List.setIfInBounds_toArray, List.set_cons_zero, List.set_cons_succ, i64_w, i32_w]
              rfl
             refine one_ (i := 22) (N := some 86) #[true, true, true, true, true, true, true, true, true, true, true, true, true, true, true, true, true, true, true, true, true, true, true, false, false] rfl rfl (one_of HT_.out (by kernel_rfl)) (by decide) (fun K hK => ?_)
             refine Kd.R_append_step k42 (w0 := w) w.heap.size (by rfl) (.tmp 65) (.tmp 85) 33 42 (.agg #[(.int .i64 0), (.int .i64 0), (.int .i64 0), (.int .i64 0)]) 32 rfl Try.underlying33 info42 rfl (by decide) (by omega) u445002 x445002_1 (⟨(rd_T40 l0 x15_1).f4, (rd_T40 l0 x15_1).f5, x445004_1, (rd_T40 l0 x15_1).f1.f0⟩ : S42) [.int .i64 ((rd_T40 l0 x15_1).f4), .int .i64 ((rd_T40 l0 x15_1).f5), .int .i64 x445004_1, .int .i64 ((rd_T40 l0 x15_1).f1.f0)] (fun _ => True) (fun _ => False) rfl rfl ?aP (fun _ hk => hk.elim) ?aF ?aO ?aB ?aS ?aL ?_
             (case aP => exact k42_mkM _ _ _ (⟨(rd_T40 l0 x15_1).f4, (rd_T40 l0 x15_1).f5, x445004_1, (rd_T40 l0 x15_1).f1.f0⟩ : S42))
             (case aB => exact (bS3_ HB.out GE428.out GE434.out GE444.out))
             (case aF => exact (fun _ _ => trivial))
             (case aO => exact (rv_ HO_445002.out))
             (case aS => exact (below_size (bS3_ HB.out GE428.out GE434.out GE444.out)))
             (case aL => have := LMc37.out; omega)
             intro v451 w41 ho hb hg hat
             rw [← Ny450.out] at ho
             have n0_ := a_ (Kd.R_over' (rv_ HO_11.out) (Kd.R_typed (rv_ HO_445002.out)) (by decide) hg)
             have n1_ := a_ (blk_grown (g := gb428) (o := .cells #[.int .i64 0, .int .i64 0, .slice none 0 0, .bool false, .int .i64 0, .int .i64 0] 44 (0, 0)) (kv_ BK428.out) hg (Kd.R_ne HO_445002.out BK428.out (by decide)))
             have n2_ := a_ (blk_grown (g := gb434) (o := .cells #[.int .i64 t429, .int .i64 t430, .int .i64 t431, .int .i64 t432] 56 (0, 0)) (kv_ BK434.out) hg (Kd.R_ne HO_445002.out BK434.out (by decide)))
             have n3_ := a_ (blk_grown (g := gb444) (o := .cells #[.int .i64 t442, .int .i64 a2, u445002, .bool ((rd_T40 l0 a2).f3), .int .i64 x445004_1, .int .i64 t432] 44 (0, 0)) (kv_ BK444.out) hg (Kd.R_ne HO_445002.out BK444.out (by decide)))
             have n4_ := a_ (hb)
             have n5_ := a_ (ho)
             clear HO_11
             clear BK428
             clear BK434
             clear BK444
             clear HB
             clear HO_445002
             have HO_11 := n0_
             have BK428 := n1_
             have BK434 := n2_
             have BK444 := n3_
             have HB := n4_
             have HO452 := n5_
             clear n0_ n1_ n2_ n3_ n4_ n5_
             clear ho hb hg hat
             obtain ⟨Ao42, co42, eo42⟩ := Kd.R_slice HO452.out
             (first | subst eo42 | (injection eo42 with f1_ f2_ f3_; have f4_ := f1_.symm; have f5_ := f3_.symm; clear f1_ f2_ f3_; subst f4_; subst f5_))
             refine hK.out _ _ ⟨(blk_cell BK444.out 0).trans rfl, (blk_cell BK444.out 1).trans rfl, (blk_cell BK444.out 2).trans rfl, (blk_cell BK444.out 3).trans rfl, (blk_cell BK444.out 4).trans rfl, (blk_cell BK444.out 5).trans rfl, (up_ HB.out hw447_0), (up_ HB.out hw447_1), (up_ HB.out hw447_2), (up_ HB.out hw447_3), (up_ HB.out hw447_4), (up_ HB.out hw447_5), (up_ HB.out hw447_6), (up_ HB.out hw447_7), (up_ HB.out hw447_8), (up_ HB.out hw448_0), (up_ HB.out hw448_1), (up_ HB.out hw448_2), (up_ HB.out hw448_3), (up_ HB.out hw448_4), (up_ HB.out hw448_5), (up_ HB.out hw448_6), (up_ HB.out hw448_7), (up_ HB.out hw448_8), (up_ HB.out hw449_0), (up_ HB.out hw449_1), (up_ HB.out hw449_2), (up_ HB.out hw449_3), (up_ HB.out hw449_4), (up_ HB.out hw449_5), (up_ HB.out hw449_6), (up_ HB.out hw449_7), (up_ HB.out hw449_8)⟩ (fun hHeld => ?_)
             clear hK K
             refine norm_ (a' := ?_) ?_ ?_
             rotate_left
             ·show Act.put _ (some 86) _ = _
              simp only [Act.put, List.setIfInBounds_toArray, List.set_cons_zero, List.set_cons_succ, i64_w, i32_w]
              rfl
             refine pure_ (i := 23) (N := some 87) #[true, true, true, true, true, true, true, true, true, true, true, true, true, true, true, true, true, true, true, true, true, true, true, true, false] rfl rfl (any_of HT_.out (by kernel_rfl)) (fun _ _ _ h => h) (Or.inl ⟨by rfl, fun w' => by go_simp; with_reducible rfl⟩) (by simp only [Act.put, List.setIfInBounds_toArray, List.set_cons_zero, List.set_cons_succ, i64_w, i32_w]; rfl) ?_
             refine last_ (i := 24) (N := none) #[true, true, true, true, true, true, true, true, true, true, true, true, true, true, true, true, true, true, true, true, true, true, true, true, true] rfl rfl (one_of HT_.out (by kernel_rfl)) (by decide) (fun K hK => ?_)
             have hs43 : w41.cell? ⟨gb444, 2, none⟩ = some (u445002) := (blk_cell BK444.out 2).trans rfl
             have hfs43 := blk_frozen BK444.out 2
             have hns43_0 := NB428_444.out
             have hns43_1 := NB434_444.out
             have hms43_0 := NB444_428.out
             have hms43_1 := NB444_434.out
             refine skip_ (w1 := ?_) (by rfl) rfl ?_ ?_
             rotate_left
             ·go_simp
              rfl
             refine hK.out _ _ ?_
             clear hK K
             refine done_ (done_of HT_.out (by kernel_rfl)) ?_
             try go_wp2
             have n0_ : Aside0 (Kd.R (Kd.int .i64) 2 (w41.setCell ⟨gb444, 2, none⟩ (.slice Ao42 y450.length co42)) w.heap.size (fun _ => True) v440 t438) := ⟨by (with_reducible repeat (first | apply Kd.R_alloc | apply Kd.R_drewN | apply Kd.R_drew)); exact Kd.R_mono (Kd.R_far (p := ⟨gb444, 2, none⟩) (Kd.R_types HO_11.out BK444.out (by decide)) (fun _ hk => hk.2) (.slice Ao42 y450.length co42)) (fun _ hk => trivial)⟩
             have n1_ : Aside0 (Kd.R k42 42 (w41.setCell ⟨gb444, 2, none⟩ (.slice Ao42 y450.length co42)) w.heap.size (fun _ => True) (.slice Ao42 y450.length co42) y450) := ⟨by (with_reducible repeat (first | apply Kd.R_alloc | apply Kd.R_drewN | apply Kd.R_drew)); exact Kd.R_mono (Kd.R_far (p := ⟨gb444, 2, none⟩) (Kd.R_types HO452.out BK444.out (by decide)) (fun _ hk => hk.2) (.slice Ao42 y450.length co42)) (fun _ hk => trivial)⟩
             have n2_ : Aside0 ((w41.setCell ⟨gb444, 2, none⟩ (.slice Ao42 y450.length co42)).heap[gb428]? = some (.cells #[.int .i64 0, .int .i64 0, .slice none 0 0, .bool false, .int .i64 0, .int .i64 0] 44 (0, 0))) := ⟨kf1_ BK428.out NB428_444.out⟩
             have n3_ : Aside0 ((w41.setCell ⟨gb444, 2, none⟩ (.slice Ao42 y450.length co42)).heap[gb434]? = some (.cells #[.int .i64 t429, .int .i64 t430, .int .i64 t431, .int .i64 t432] 56 (0, 0))) := ⟨kf1_ BK434.out NB434_444.out⟩
             have n4_ : Aside0 ((w41.setCell ⟨gb444, 2, none⟩ (.slice Ao42 y450.length co42)).heap[gb444]? = some (.cells #[.int .i64 t442, .int .i64 a2, .slice Ao42 y450.length co42, .bool ((rd_T40 l0 a2).f3), .int .i64 x445004_1, .int .i64 t432] 44 (0, 0))) := ⟨kp0_ BK444.out⟩
             have n5_ : Aside0 (Below w.heap.size w (w41.setCell ⟨gb444, 2, none⟩ (.slice Ao42 y450.length co42))) := ⟨bS3_ HB.out GE428.out GE434.out GE444.out⟩
             (try clear HO_11)
             (try clear HO452)
             (try clear BK428)
             (try clear BK434)
             (try clear BK444)
             (try clear HB)
             generalize (w41.setCell ⟨gb444, 2, none⟩ (.slice Ao42 y450.length co42)) = w44 at n0_ n1_ n2_ n3_ n4_ n5_ ⊢
             have HO_11 := n0_
             have HO452 := n1_
             have BK428 := n2_
             have BK434 := n3_
             have BK444 := n4_
             have HB := n5_
             clear n0_ n1_ n2_ n3_ n4_ n5_
             have n0_ := a_ (Kd.R_drew HO_11.out)
             have n1_ := a_ (Kd.R_drew HO452.out)
             have n2_ := a_ (blk_drew BK428.out)
             have n3_ := a_ (blk_drew BK434.out)
             have n4_ := a_ (blk_drew BK444.out)
             have n5_ := a_ (below_drew1 HB.out)
             clear HO_11
             clear HO452
             clear BK428
             clear BK434
             clear BK444
             clear HB
             have HO_11 := n0_
             have HO452 := n1_
             have BK428 := n2_
             have BK434 := n3_
             have BK444 := n4_
             have HB := n5_
             clear n0_ n1_ n2_ n3_ n4_ n5_
             obtain ⟨Ao46, co46, eo46⟩ := Kd.R_slice HO_11.out
             (first | subst eo46 | (injection eo46 with f1_ f2_ f3_; have f4_ := f1_.symm; have f5_ := f3_.symm; clear f1_ f2_ f3_; subst f4_; subst f5_))
             have p453 : 0 ≤ (x14_1 : Int) := od_
             have q453 : x14_1 < (t438.length : Int) := od_
             obtain ⟨ad453, e453, hx453_0⟩ := Kd.at_int (Kd.R_reads' HO_11.out).2.2 x14_1 p453 q453
             cases e453
             replace p453 := eq_true p453
             replace q453 := eq_true q453
             refine start_ (n := 9) (S := fun w' => w'.cell? ⟨gb444, 0, none⟩ = some (.int .i64 t442) ∧ w'.cell? ⟨gb444, 1, none⟩ = some (.int .i64 a2) ∧ w'.cell? ⟨gb444, 2, none⟩ = some (.slice Ao42 y450.length co42) ∧ w'.cell? ⟨gb444, 3, none⟩ = some (.bool ((rd_T40 l0 a2).f3)) ∧ w'.cell? ⟨gb444, 4, none⟩ = some (.int .i64 x445004_1) ∧ w'.cell? ⟨gb444, 5, none⟩ = some (.int .i64 t432) ∧ w'.cell? (ad453.add (x14_1).toNat) = some (.int .i64 (rd t438 x14_1))) (ds := [8]) #[false, false, false, false, false, false, false, false, false] (by kernel_rfl) rfl rfl ⟨(blk_cell BK444.out 0).trans rfl, (blk_cell BK444.out 1).trans rfl, (blk_cell BK444.out 2).trans rfl, (blk_cell BK444.out 3).trans rfl, (blk_cell BK444.out 4).trans rfl, (blk_cell BK444.out 5).trans rfl, hx453_0⟩ (fun hHeld => ?_); refine with_tabW variorumref12_Line.tab11 variorumref12_Line.bits11 (fun HT_ HW_ => ?_)
             generalize w44.drew = w45 at HO_11 HO452 BK428 BK434 BK444 HB hx453_0 hHeld ⊢
             refine pure_ (i := 0) (N := some 88) #[true, false, false, false, false, false, false, false, false] rfl rfl (any_of HT_.out (by kernel_rfl)) (fun _ _ _ h => h) (Or.inl ⟨by rfl, fun w' => by go_simp; with_reducible rfl⟩) (by simp only [Act.put, List.setIfInBounds_toArray, List.set_cons_zero, List.set_cons_succ, i64_w, i32_w]; rfl) ?_
             refine pure_ (i := 2) (N := some 90) #[true, false, true, false, false, false, false, false, false] rfl rfl (any_of HT_.out (by kernel_rfl)) (fun _ _ _ h => h) (Or.inl ⟨by rfl, fun w' => by go_simp; with_reducible rfl⟩) (by simp only [Act.put, List.setIfInBounds_toArray, List.set_cons_zero, List.set_cons_succ, i64_w, i32_w]; rfl) ?_
             refine pure_ (i := 3) (N := some 91) #[true, false, true, true, false, false, false, false, false] rfl rfl (any_of HT_.out (by kernel_rfl)) (fun _ _ _ h => h) (Or.inl ⟨by rfl, fun w' => by go_simp; with_reducible rfl⟩) (by simp only [Act.put, List.setIfInBounds_toArray, List.set_cons_zero, List.set_cons_succ, i64_w, i32_w]; rfl) ?_
             refine pure_ (i := 4) (N := some 92) #[true, false, true, true, true, false, false, false, false] rfl rfl (any_of HT_.out (by kernel_rfl)) (fun _ _ _ h => h) (Or.inl ⟨by rfl, fun w' => by go_simp; with_reducible rfl⟩) (by simp only [Act.put, List.setIfInBounds_toArray, List.set_cons_zero, List.set_cons_succ, i64_w, i32_w]; rfl) ?_
             refine take_ (i := 1) (N := some 89) (v := ?_) (a' := ?_) #[true, true, true, true, true, false, false, false, false] rfl rfl (take_ofW HT_.out HW_.out (by kernel_rfl)) (fun _ _ _ h => h) (Or.inl ⟨by rfl, ?_⟩) hHeld ?_ ?_
             rotate_left
             ·rintro w' ⟨s0, s1, s2, s3, s4, s5, s6⟩
              go_simp
              with_reducible rfl
             rotate_left
             ·simp only [Act.put, List.setIfInBounds_toArray, List.set_cons_zero, List.set_cons_succ, i64_w, i32_w]
              rfl
             refine take_ (i := 5) (N := some 93) (v := ?_) (a' := ?_) #[true, true, true, true, true, true, false, false, false] rfl rfl (take_ofW HT_.out HW_.out (by kernel_rfl)) (fun _ _ _ h => h) (Or.inl ⟨by rfl, ?_⟩) hHeld ?_ ?_
             rotate_left
             ·rintro w' ⟨s0, s1, s2, s3, s4, s5, s6⟩
              go_simp
              with_reducible rfl
             rotate_left
             ·simp only [Act.put, List.setIfInBounds_toArray, List.set_cons_zero, List.set_cons_succ, i64_w, i32_w]
              rfl
             refine pure_ (i := 6) (N := some 94) #[true, true, true, true, true, true, true, false, false] rfl rfl (any_of HT_.out (by kernel_rfl)) (fun _ _ _ h => h) (Or.inl ⟨by rfl, fun w' => by go_simp; with_reducible rfl⟩) (by simp only [Act.put, List.setIfInBounds_toArray, List.set_cons_zero, List.set_cons_succ, i64_w, i32_w]; rfl) ?_
             refine pure_ (i := 7) (N := some 95) #[true, true, true, true, true, true, true, true, false] rfl rfl (any_of HT_.out (by kernel_rfl)) (fun _ _ _ h => h) (Or.inl ⟨by rfl, fun w' => by go_simp; with_reducible rfl⟩) (by simp only [Act.put, List.setIfInBounds_toArray, List.set_cons_zero, List.set_cons_succ, i64_w, i32_w]; rfl) ?_
             refine last_ (i := 8) (N := none) #[true, true, true, true, true, true, true, true, true] rfl rfl (one_of HT_.out (by kernel_rfl)) (by decide) (fun K hK => ?_)
             have hs47 : w45.cell? ⟨gb444, 4, none⟩ = some (.int .i64 x445004_1) := (blk_cell BK444.out 4).trans rfl
             have hfs47 := blk_frozen BK444.out 4
             have hns47_0 := NB428_444.out
             have hns47_1 := NB434_444.out
             have hms47_0 := NB444_428.out
             have hms47_1 := NB444_434.out
             refine skip_ (w1 := ?_) (by rfl) rfl ?_ ?_
             rotate_left
             ·go_simp
              rfl
             refine hK.out _ _ ?_
             clear hK K
             refine done_ (done_of HT_.out (by kernel_rfl)) ?_
             try go_wp2
             go_roundg k1
             case measure => have := HK1.out; omega
             case rel => exact ⟨(wrap64 (x14_1 + 1)), (wrap64 (x15_1 + 1)), (y450), (wrap64 (x445004_1 + (rd t438 x14_1))), (.slice Ao42 y450.length co42), (by first | rfl | (simp; done) | (simp [*]; done)), (by first | rfl | (simp; done) | (simp [*]; done)), H', ⟨by have := HK1.out; omega⟩, ⟨by (with_reducible repeat (first | apply Kd.R_alloc | apply Kd.R_drewN | apply Kd.R_drew)); exact Kd.R_mono (Kd.R_far (p := ⟨gb444, 4, none⟩) (Kd.R_types HO_11.out BK444.out (by decide)) (fun _ hk => hk.2) (.int .i64 (wrap64 (x445004_1 + (rd t438 x14_1))))) (fun _ hk => trivial)⟩, ⟨by (with_reducible repeat (first | apply Kd.R_alloc | apply Kd.R_drewN | apply Kd.R_drew)); exact Kd.R_mono (Kd.R_far (p := ⟨gb444, 4, none⟩) (Kd.R_types HO452.out BK444.out (by decide)) (fun _ hk => hk.2) (.int .i64 (wrap64 (x445004_1 + (rd t438 x14_1))))) (fun _ hk => trivial)⟩, ⟨kf1_ BK428.out NB428_444.out⟩, ⟨kf1_ BK434.out NB434_444.out⟩, ⟨kp0_ BK444.out⟩, ⟨bS3_ HB.out GE428.out GE434.out GE444.out⟩⟩
            ·rw [if_neg c39] at H
             exact absurd H (by simp)
           ·rw [if_neg c38] at H
            exact absurd H (by simp)
          ·rw [if_neg c37] at H
           exact absurd H (by simp)
         ·rw [if_neg c36] at H
          have c36b0 : (((rd_T40 l0 x15_1).f0) == 0) = false := beq_eq_false_iff_ne.mpr c36
          have c36b1 : (((rd_T40 l0 x15_1).f0) != 0) = true := bne_iff_ne.mpr c36
          by_cases c48 : 0 ≤ x14_1
          ·rw [if_pos c48] at H
           have c48b0 : decide (0 ≤ x14_1) = true := decide_eq_true c48
           clear c48
           by_cases c49 : x14_1 < (t438.length : Int)
           ·rw [if_pos c49] at H
            have c49b0 : decide (x14_1 < (t438.length : Int)) = true := decide_eq_true c49
            clear c49
            have H' := a_ H
            clear H
            have p445 : 0 ≤ (x15_1 : Int) := od_
            have q445 : x15_1 < (l0.length : Int) := od_
            obtain ⟨ad445, e445, hx445_0, hx445_1, hx445_2, hx445_3, hx445_4, hx445_5, hx445_6, hx445_7, hx445_8⟩ := at_T40 (Kd.C_below HR0.out HB.out) x15_1 p445 q445
            obtain rfl : ad443 = ad445 := (by injection e445)
            replace p445 := eq_true p445
            replace q445 := eq_true q445
            have p446 : 0 ≤ (x15_1 : Int) := od_
            have q446 : x15_1 < (l0.length : Int) := od_
            obtain ⟨ad446, e446, hx446_0, hx446_1, hx446_2, hx446_3, hx446_4, hx446_5, hx446_6, hx446_7, hx446_8⟩ := at_T40 (Kd.C_below HR0.out HB.out) x15_1 p446 q446
            obtain rfl : ad443 = ad446 := (by injection e446)
            replace p446 := eq_true p446
            replace q446 := eq_true q446
            try go_wp2
            have n0_ := a_ (Kd.R_drew HO_11.out)
            have n1_ := a_ (Kd.R_drew HO_445002.out)
            have n2_ := a_ (blk_drew BK428.out)
            have n3_ := a_ (blk_drew BK434.out)
            have n4_ := a_ (blk_drew BK444.out)
            have n5_ := a_ (below_drew1 HB.out)
            clear HO_11
            clear HO_445002
            clear BK428
            clear BK434
            clear BK444
            clear HB
            have HO_11 := n0_
            have HO_445002 := n1_
            have BK428 := n2_
            have BK434 := n3_
            have BK444 := n4_
            have HB := n5_
            clear n0_ n1_ n2_ n3_ n4_ n5_
            obtain ⟨Ao51, co51, eo51⟩ := Kd.R_slice HO_11.out
            (first | subst eo51 | (injection eo51 with f1_ f2_ f3_; have f4_ := f1_.symm; have f5_ := f3_.symm; clear f1_ f2_ f3_; subst f4_; subst f5_))
            have p454 : 0 ≤ (x14_1 : Int) := od_
            have q454 : x14_1 < (t438.length : Int) := od_
            obtain ⟨ad454, e454, hx454_0⟩ := Kd.at_int (Kd.R_reads' HO_11.out).2.2 x14_1 p454 q454
            cases e454
            replace p454 := eq_true p454
            replace q454 := eq_true q454
            refine start_ (n := 9) (S := fun w' => w'.cell? ⟨gb444, 0, none⟩ = some (.int .i64 t442) ∧ w'.cell? ⟨gb444, 1, none⟩ = some (.int .i64 a2) ∧ w'.cell? ⟨gb444, 2, none⟩ = some (u445002) ∧ w'.cell? ⟨gb444, 3, none⟩ = some (.bool ((rd_T40 l0 a2).f3)) ∧ w'.cell? ⟨gb444, 4, none⟩ = some (.int .i64 x445004_1) ∧ w'.cell? ⟨gb444, 5, none⟩ = some (.int .i64 t432) ∧ w'.cell? (ad454.add (x14_1).toNat) = some (.int .i64 (rd t438 x14_1))) (ds := [8]) #[false, false, false, false, false, false, false, false, false] (by kernel_rfl) rfl rfl ⟨(blk_cell BK444.out 0).trans rfl, (blk_cell BK444.out 1).trans rfl, (blk_cell BK444.out 2).trans rfl, (blk_cell BK444.out 3).trans rfl, (blk_cell BK444.out 4).trans rfl, (blk_cell BK444.out 5).trans rfl, hx454_0⟩ (fun hHeld => ?_); refine with_tabW variorumref12_Line.tab11 variorumref12_Line.bits11 (fun HT_ HW_ => ?_)
            generalize wr.drew = w50 at HO_11 HO_445002 BK428 BK434 BK444 HB hx454_0 hHeld ⊢
            refine pure_ (i := 0) (N := some 88) #[true, false, false, false, false, false, false, false, false] rfl rfl (any_of HT_.out (by kernel_rfl)) (fun _ _ _ h => h) (Or.inl ⟨by rfl, fun w' => by go_simp; with_reducible rfl⟩) (by simp only [Act.put, List.setIfInBounds_toArray, List.set_cons_zero, List.set_cons_succ, i64_w, i32_w]; rfl) ?_
            refine pure_ (i := 2) (N := some 90) #[true, false, true, false, false, false, false, false, false] rfl rfl (any_of HT_.out (by kernel_rfl)) (fun _ _ _ h => h) (Or.inl ⟨by rfl, fun w' => by go_simp; with_reducible rfl⟩) (by simp only [Act.put, List.setIfInBounds_toArray, List.set_cons_zero, List.set_cons_succ, i64_w, i32_w]; rfl) ?_
            refine pure_ (i := 3) (N := some 91) #[true, false, true, true, false, false, false, false, false] rfl rfl (any_of HT_.out (by kernel_rfl)) (fun _ _ _ h => h) (Or.inl ⟨by rfl, fun w' => by go_simp; with_reducible rfl⟩) (by simp only [Act.put, List.setIfInBounds_toArray, List.set_cons_zero, List.set_cons_succ, i64_w, i32_w]; rfl) ?_
            refine pure_ (i := 4) (N := some 92) #[true, false, true, true, true, false, false, false, false] rfl rfl (any_of HT_.out (by kernel_rfl)) (fun _ _ _ h => h) (Or.inl ⟨by rfl, fun w' => by go_simp; with_reducible rfl⟩) (by simp only [Act.put, List.setIfInBounds_toArray, List.set_cons_zero, List.set_cons_succ, i64_w, i32_w]; rfl) ?_
            refine take_ (i := 1) (N := some 89) (v := ?_) (a' := ?_) #[true, true, true, true, true, false, false, false, false] rfl rfl (take_ofW HT_.out HW_.out (by kernel_rfl)) (fun _ _ _ h => h) (Or.inl ⟨by rfl, ?_⟩) hHeld ?_ ?_
            rotate_left
            ·rintro w' ⟨s0, s1, s2, s3, s4, s5, s6⟩
             go_simp
             with_reducible rfl
            rotate_left
            ·simp only [Act.put, List.setIfInBounds_toArray, List.set_cons_zero, List.set_cons_succ, i64_w, i32_w]
             rfl
            refine take_ (i := 5) (N := some 93) (v := ?_) (a' := ?_) #[true, true, true, true, true, true, false, false, false] rfl rfl (take_ofW HT_.out HW_.out (by kernel_rfl)) (fun _ _ _ h => h) (Or.inl ⟨by rfl, ?_⟩) hHeld ?_ ?_
            rotate_left
            ·rintro w' ⟨s0, s1, s2, s3, s4, s5, s6⟩
             go_simp
             with_reducible rfl
            rotate_left
            ·simp only [Act.put, List.setIfInBounds_toArray, List.set_cons_zero, List.set_cons_succ, i64_w, i32_w]
             rfl
            refine pure_ (i := 6) (N := some 94) #[true, true, true, true, true, true, true, false, false] rfl rfl (any_of HT_.out (by kernel_rfl)) (fun _ _ _ h => h) (Or.inl ⟨by rfl, fun w' => by go_simp; with_reducible rfl⟩) (by simp only [Act.put, List.setIfInBounds_toArray, List.set_cons_zero, List.set_cons_succ, i64_w, i32_w]; rfl) ?_
            refine pure_ (i := 7) (N := some 95) #[true, true, true, true, true, true, true, true, false] rfl rfl (any_of HT_.out (by kernel_rfl)) (fun _ _ _ h => h) (Or.inl ⟨by rfl, fun w' => by go_simp; with_reducible rfl⟩) (by simp only [Act.put, List.setIfInBounds_toArray, List.set_cons_zero, List.set_cons_succ, i64_w, i32_w]; rfl) ?_
            refine last_ (i := 8) (N := none) #[true, true, true, true, true, true, true, true, true] rfl rfl (one_of HT_.out (by kernel_rfl)) (by decide) (fun K hK => ?_)
            have hs52 : w50.cell? ⟨gb444, 4, none⟩ = some (.int .i64 x445004_1) := (blk_cell BK444.out 4).trans rfl
            have hfs52 := blk_frozen BK444.out 4
            have hns52_0 := NB428_444.out
            have hns52_1 := NB434_444.out
            have hms52_0 := NB444_428.out
            have hms52_1 := NB444_434.out
            refine skip_ (w1 := ?_) (by rfl) rfl ?_ ?_
            rotate_left
            ·go_simp
             rfl
            refine hK.out _ _ ?_
            clear hK K
            refine done_ (done_of HT_.out (by kernel_rfl)) ?_
            try go_wp2
            go_roundg k1
            case measure => have := HK1.out; omega
            case rel => exact ⟨(wrap64 (x14_1 + 1)), (wrap64 (x15_1 + 1)), (x445002_1), (wrap64 (x445004_1 + (rd t438 x14_1))), (u445002), (by first | rfl | (simp; done) | (simp [*]; done)), (by first | rfl | (simp; done) | (simp [*]; done)), H', ⟨by have := HK1.out; omega⟩, ⟨by (with_reducible repeat (first | apply Kd.R_alloc | apply Kd.R_drewN | apply Kd.R_drew)); exact Kd.R_mono (Kd.R_far (p := ⟨gb444, 4, none⟩) (Kd.R_types HO_11.out BK444.out (by decide)) (fun _ hk => hk.2) (.int .i64 (wrap64 (x445004_1 + (rd t438 x14_1))))) (fun _ hk => trivial)⟩, ⟨by (with_reducible repeat (first | apply Kd.R_alloc | apply Kd.R_drewN | apply Kd.R_drew)); exact Kd.R_mono (Kd.R_far (p := ⟨gb444, 4, none⟩) (Kd.R_types HO_445002.out BK444.out (by decide)) (fun _ hk => hk.2) (.int .i64 (wrap64 (x445004_1 + (rd t438 x14_1))))) (fun _ hk => trivial)⟩, ⟨kf1_ BK428.out NB428_444.out⟩, ⟨kf1_ BK434.out NB434_444.out⟩, ⟨kp0_ BK444.out⟩, ⟨bS3_ HB.out GE428.out GE434.out GE444.out⟩⟩
           ·rw [if_neg c49] at H
            exact absurd H (by simp)
          ·rw [if_neg c48] at H
           exact absurd H (by simp)
       ·rw [if_neg c34] at H
        exact absurd H (by simp)
      ·rw [if_neg c33] at H
       exact absurd H (by simp)
     ·rw [if_neg c32] at H
      have c32b0 : decide (x15_1 < a2) = false := decide_eq_false c32
      clear c32
      simp only [Option.some.injEq, Prod.mk.injEq] at H
      obtain ⟨rfl, rfl, rfl, rfl, rfl, rfl⟩ := H
      have hnb53 := NB444_428.out
      have hnc53 := NB428_444.out
      have hnb54 := NB444_434.out
      have hnc54 := NB434_444.out
      obtain ⟨⟨Z55_0, Y55_0⟩, ⟨Z55_1, Y55_1⟩, ⟨Z55_2, Y55_2⟩, ⟨Z55_3, Y55_3⟩, ⟨Z55_4, Y55_4⟩, Z55_5, Y55_5⟩ := cs6_ BK444.out
      have hnb56 := NB428_434.out
      have hnc56 := NB434_428.out
      obtain ⟨⟨Z57_0, Y57_0⟩, ⟨Z57_1, Y57_1⟩, ⟨Z57_2, Y57_2⟩, ⟨Z57_3, Y57_3⟩, ⟨Z57_4, Y57_4⟩, Z57_5, Y57_5⟩ := cs6_ BK428.out
      obtain ⟨Ao58, co58, eo58⟩ := Kd.R_slice HO_445002.out
      subst eo58
      go_wp2
      refine bodyPost_ret (results_cell_row rfl _ _ gb428 44 #[.int .i64 t442, .int .i64 a2, .slice Ao58 x445002_1.length co58, .bool ((rd_T40 l0 a2).f3), .int .i64 x445004_1, .int .i64 t432] (0, 0) _ rfl (kp0_ BK428.out) Try.underlying44 rfl (by kernel_rfl)) rfl ?_
      exact ⟨_, by first | rfl | (simp [errW_none, errW_some] <;> rfl) | (simp [*, errW_none, errW_some] <;> rfl), by (with_reducible repeat (first | apply Kd.R_alloc | apply Kd.R_drewN | apply Kd.R_drew)); exact Kd.R_mono (Kd.R_far (p := ⟨gb428, 5, none⟩) (Kd.R_far (p := ⟨gb428, 4, none⟩) (Kd.R_far (p := ⟨gb428, 3, none⟩) (Kd.R_far (p := ⟨gb428, 2, none⟩) (Kd.R_far (p := ⟨gb428, 1, none⟩) (Kd.R_far (p := ⟨gb428, 0, none⟩) (Kd.R_types HO_445002.out BK428.out (by decide)) (fun _ hk => hk.2) (.int .i64 t442)) (fun _ hk => hk.2) (.int .i64 a2)) (fun _ hk => hk.2) (.slice Ao58 x445002_1.length co58)) (fun _ hk => hk.2) (.bool ((rd_T40 l0 a2).f3))) (fun _ hk => hk.2) (.int .i64 x445004_1)) (fun _ hk => hk.2) (.int .i64 t432)) (fun _ hk => trivial), bS3_ HB.out GE428.out GE434.out GE444.out⟩
  ·rw [if_neg c10] at H
   exact absurd H (by simp)
 ·rw [if_neg c9] at H
  exact absurd H (by simp)

end Go.Proofs.Ytpfnfofaajpdmaa.PLn

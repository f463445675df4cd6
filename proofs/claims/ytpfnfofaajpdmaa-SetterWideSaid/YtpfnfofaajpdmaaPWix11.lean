/- Written by a program of this session: functions of the given program as plain Lean functions, the walks that show it, and the row of each law, for every input that its statement speaks of. -/
import Derived.Test.YtpfnfofaajpdmaaPWix0
import Derived.Test.YtpfnfofaajpdmaaPWix6
import Derived.Test.YtpfnfofaajpdmaaPWix10
namespace Go.Proofs.Ytpfnfofaajpdmaa.PWi
open Go.RowKit Go.Proofs.YtpfnfofaajpdmaaW.PrintWords Go.Proofs.YtpfnfofaajpdmaaW.PrintLast Go.Proofs.YtpfnfofaajpdmaaW.PrintMore
attribute [local go_sem] max2_int min2_int max_two min_two max_three min_three max_four min_four   -- for this text's walks alone
set_option linter.unusedVariables false
set_option linter.unusedSimpArgs false

/-! ### setter_line: function 19 -/
def setter_line.l0 : Nat → List (S40) → Int → List Int → Int → Int → Int → Int → List (S42) → Bool → Int → Int → Option (Int × Int × (List (S42)) × Bool × Int × Int × Bool)
 | 0, _, _, _, _, _, _, _, _, _, _, _ => none
 | k + 1, x0, x2, x13, x15, x16, x217000, x217001, x217002, x217003, x217004, x217005 => if x16 < x2 then (if 0 ≤ x16 then (if x16 < (x0.length : Int) then (if ((rd_T40 x0 x16).f0) = 0 then (if x217002.length < 4398046511104 then (if 0 ≤ x15 then (if x15 < (x13.length : Int) then (setter_line.l0 k x0 x2 x13 (wrap64 (x15 + 1)) (wrap64 (x16 + 1)) x217000 x217001 (x217002 ++ [(⟨(rd_T40 x0 x16).f4, (rd_T40 x0 x16).f5, x217004, (rd_T40 x0 x16).f1.f0⟩ : S42)]) x217003 (wrap64 (x217004 + (rd x13 x15))) x217005) else (none)) else (none)) else (none)) else (if ((rd_T40 x0 x16).f0) = 1 then (if 0 ≤ x15 then (if x15 < (x13.length : Int) then (setter_line.l0 k x0 x2 x13 (wrap64 (x15 + 1)) (wrap64 (x16 + 1)) x217000 x217001 x217002 x217003 (wrap64 (x217004 + (rd x13 x15))) x217005) else (none)) else (none)) else (setter_line.l0 k x0 x2 x13 x15 (wrap64 (x16 + 1)) x217000 x217001 x217002 x217003 x217004 x217005))) else (none)) else (none)) else (some (x217000, x217001, x217002, x217003, x217004, x217005, true))
def setter_line.f (k : Nat) (l0 : List (S40)) (a1 : Int) (a2 : Int) (a3 : Int) : Option (Int × Int × (List (S42)) × Bool × Int × Int × Bool) := (demerit_Line.f k l0 a1 a2 a3).bind fun bt208 => (if bt208.2.2.2.2 = true then ((demerit_Start.f k l0 a1).bind fun t214 => (if 0 ≤ a2 then (if a2 < (l0.length : Int) then ((demerit_Glues.f k l0 a1 a2).bind fun t217 => ((glue_Widths.f k t217 a3).bind fun bt220 => (setter_line.l0 k l0 a2 bt220.1 0 t214 t214 a2 ([] : List (S42)) ((rd_T40 l0 a2).f3) 0 bt208.2.2.2.1))) else (none)) else (none))) else (some (0, 0, ([] : List (S42)), false, 0, 0, false)))
theorem setter_line.mono_l : ∀ k, (∀ y0 y1 y2 y3 y4 y5 y6 y7 y8 y9 y10, LeO (setter_line.l0 k y0 y1 y2 y3 y4 y5 y6 y7 y8 y9 y10) (setter_line.l0 (k + 1) y0 y1 y2 y3 y4 y5 y6 y7 y8 y9 y10))
 | 0 => fun _ _ _ _ _ _ _ _ _ _ _ r h => by simp [setter_line.l0] at h
 | k + 1 => by
  have ih0 := setter_line.mono_l k
  ·intro y0 y1 y2 y3 y4 y5 y6 y7 y8 y9 y10
   unfold setter_line.l0
   repeat' first | (with_reducible first | exact ih0 _ _ _ _ _ _ _ _ _ _ _ | exact demerit_Glues.mono _ _ _ _ | exact demerit_Line.mono _ _ _ _ _ | exact demerit_Start.mono _ _ _ | exact glue_Widths.mono _ _ _ | exact LeO.refl _ | exact LeO.none _ | refine LeO.ite ?_ ?_ | refine LeO.bind ?_ (fun _ => ?_)) | exact LeO.none _ | refine LeO.ite ?_ ?_ | refine LeO.bind ?_ (fun _ => ?_)
theorem setter_line.mono : ∀ a0 a1 a2 a3 k, LeO (setter_line.f k a0 a1 a2 a3) (setter_line.f (k + 1) a0 a1 a2 a3) := by
 intro a0 a1 a2 a3 k
 have ih0 := setter_line.mono_l k
 unfold setter_line.f
 repeat' first
   | (with_reducible exact ih0 _ _ _ _ _ _ _ _ _ _ _)
   | (with_reducible exact demerit_Glues.mono _ _ _ _)
   | (with_reducible exact demerit_Line.mono _ _ _ _ _)
   | (with_reducible exact demerit_Start.mono _ _ _)
   | (with_reducible exact glue_Widths.mono _ _ _)
   | (with_reducible exact LeO.refl _)
   | (with_reducible exact LeO.none _)
   | (with_reducible refine LeO.ite ?_ ?_)
   | (with_reducible refine LeO.bind ?_ (fun _ => ?_))
   | exact ih0 _ _ _ _ _ _ _ _ _ _ _
   | exact demerit_Glues.mono _ _ _ _
   | exact demerit_Line.mono _ _ _ _ _
   | exact demerit_Start.mono _ _ _
   | exact glue_Widths.mono _ _ _
   | exact LeO.none _
   | refine LeO.ite ?_ ?_
   | refine LeO.bind ?_ (fun _ => ?_)
def setter_line.T4 : Bool × List (List Nat × List Nat) := (true, [([], []), ([], []), ([0, 1], [0, 1]), ([], []), ([], []), ([], []), ([4, 5], [4, 5]), ([6], [6]), ([7], [7]), ([], []), ([9], [9]), ([2, 3, 8, 10], [2, 3, 8, 10]), ([], []), ([12, 11, 2, 0, 1, 2, 3, 4, 5, 6, 7, 8, 9, 10, 11, 12], [11, 12])])
def setter_line.B4 : List Nat := [0, 0, 3, 0, 0, 0, 48, 112, 240, 0, 512, 2047, 0, 8191]
theorem setter_line.tab4 : rtab .any (opsOf Try.f19 4) = setter_line.T4 := by kernel_rfl
theorem setter_line.bits4 : waitsOk setter_line.T4.2 setter_line.B4 = true := by kernel_rfl
def setter_line.T13 : Bool × List (List Nat × List Nat) := (true, [([], []), ([0], [0]), ([], []), ([], []), ([2, 3], [2, 3]), ([4], [4]), ([5], [5]), ([], []), ([], []), ([7, 8], [7, 8]), ([9], [9]), ([10], [10]), ([], []), ([12], [12]), ([], []), ([], []), ([14, 15], [14, 15]), ([16], [16]), ([17], [17]), ([18], [18]), ([6, 11, 13, 19], [6, 11, 13, 19]), ([20], [20]), ([1, 21], [1, 21]), ([0, 1, 2, 3, 4, 5, 6, 7, 8, 9, 10, 11, 12, 13, 14, 15, 16, 17, 18, 19, 20, 21, 22], []), ([23, 22, 22, 0, 1, 2, 3, 4, 5, 6, 7, 8, 9, 10, 11, 12, 13, 14, 15, 16, 17, 18, 19, 20, 21, 22], [22, 23])])
def setter_line.B13 : List Nat := [0, 1, 0, 0, 12, 28, 60, 0, 0, 384, 896, 1920, 0, 4096, 0, 0, 49152, 114688, 245760, 507904, 1048572, 2097148, 4194303, 8388607, 16777215]
theorem setter_line.tab13 : rtab .any (opsOf Try.f19 13) = setter_line.T13 := by kernel_rfl
theorem setter_line.bits13 : waitsOk setter_line.T13.2 setter_line.B13 = true := by kernel_rfl
def setter_line.T14 : Bool × List (List Nat × List Nat) := (true, [([], []), ([0], [0]), ([], []), ([], []), ([2, 3], [2, 3]), ([4], [4]), ([1, 5], [1, 5]), ([0, 1, 2, 3, 4, 5, 6], []), ([7, 6, 0, 1, 2, 3, 4, 5, 6], [6, 7])])
def setter_line.B14 : List Nat := [0, 1, 0, 0, 12, 28, 63, 127, 255]
theorem setter_line.tab14 : rtab .any (opsOf Try.f19 14) = setter_line.T14 := by kernel_rfl
theorem setter_line.bits14 : waitsOk setter_line.T14.2 setter_line.B14 = true := by kernel_rfl
set_option maxHeartbeats 8000000 in
set_option maxRecDepth 100000 in
theorem setter_line.calls (k : Nat) (A0 : Option Addr) (c0 : Nat) (l0 : List (S40)) (a1 : Int) (a2 : Int) (a3 : Int) (r1 : Int) (r2 : Int) (r3 : List (S42)) (r4 : Bool) (r5 : Int) (r6 : Int) (r7 : Bool) (w : World) (hr0 : Kd.C k40 w A0 l0.length l0) (hc0 : l0.length ≤ c0) (h : setter_line.f k l0 a1 a2 a3 = some (r1, r2, r3, r4, r5, r6, r7)) :
  Calls Try.prog 19 #[.slice A0 l0.length c0, .int .i64 a1, .int .i64 a2, .int .i64 a3] w fun e w' => ∃ v2_ : Value, e = .returned (.tuple #[.agg #[.int .i64 r1, .int .i64 r2, v2_, .bool r4, .int .i64 r5, .int .i64 r6], .bool r7]) ∧ Kd.R k42 42 w' w.heap.size (fun _ => True) v2_ r3 ∧ Below w.heap.size w w' := by
 have hu44 := Try.underlying44
 have hu56 := Try.underlying56
 have hu42 := Try.underlying42
 have HR0 := a_ hr0
 have HC0 := a_ hc0
 clear hr0 hc0
 have HB := a_ (Below.refl w.heap.size w)
 have H : ((demerit_Line.f k l0 a1 a2 a3).bind fun bt208 => (if bt208.2.2.2.2 = true then ((demerit_Start.f k l0 a1).bind fun t214 => (if 0 ≤ a2 then (if a2 < (l0.length : Int) then ((demerit_Glues.f k l0 a1 a2).bind fun t217 => ((glue_Widths.f k t217 a3).bind fun bt220 => (setter_line.l0 k l0 a2 bt220.1 0 t214 t214 a2 ([] : List (S42)) ((rd_T40 l0 a2).f3) 0 bt208.2.2.2.1))) else (none)) else (none))) else (some (0, 0, ([] : List (S42)), false, 0, 0, false)))) = some (r1, r2, r3, r4, r5, r6, r7) := h
 clear h
 replace H := Option.bind_eq_some_iff.mp H
 obtain ⟨⟨t208, t209, t210, t211, t212⟩, A50, H⟩ := H
 replace H : (if t212 = true then ((demerit_Start.f k l0 a1).bind fun t214 => (if 0 ≤ a2 then (if a2 < (l0.length : Int) then ((demerit_Glues.f k l0 a1 a2).bind fun t217 => ((glue_Widths.f k t217 a3).bind fun bt220 => (setter_line.l0 k l0 a2 bt220.1 0 t214 t214 a2 ([] : List (S42)) ((rd_T40 l0 a2).f3) 0 t211))) else (none)) else (none))) else (some (0, 0, ([] : List (S42)), false, 0, 0, false))) = some (r1, r2, r3, r4, r5, r6, r7) := H
 have A5 := a_ A50
 clear A50
 by_cases c6 : t212 = true
 ·subst c6
  have H1 : ((demerit_Start.f k l0 a1).bind fun t214 => (if 0 ≤ a2 then (if a2 < (l0.length : Int) then ((demerit_Glues.f k l0 a1 a2).bind fun t217 => ((glue_Widths.f k t217 a3).bind fun bt220 => (setter_line.l0 k l0 a2 bt220.1 0 t214 t214 a2 ([] : List (S42)) ((rd_T40 l0 a2).f3) 0 t211))) else (none)) else (none))) = some (r1, r2, r3, r4, r5, r6, r7) := by rw [if_pos rfl] at H; exact H
  clear H
  have H := H1
  clear H1
  replace H := Option.bind_eq_some_iff.mp H
  obtain ⟨t214, A70, H⟩ := H
  replace H : (if 0 ≤ a2 then (if a2 < (l0.length : Int) then ((demerit_Glues.f k l0 a1 a2).bind fun t217 => ((glue_Widths.f k t217 a3).bind fun bt220 => (setter_line.l0 k l0 a2 bt220.1 0 t214 t214 a2 ([] : List (S42)) ((rd_T40 l0 a2).f3) 0 t211))) else (none)) else (none)) = some (r1, r2, r3, r4, r5, r6, r7) := H
  have A7 := a_ A70
  clear A70
  by_cases c8 : 0 ≤ a2
  ·rw [if_pos c8] at H
   have c8b0 : decide (0 ≤ a2) = true := decide_eq_true c8
   clear c8
   by_cases c9 : a2 < (l0.length : Int)
   ·rw [if_pos c9] at H
    have c9b0 : decide (a2 < (l0.length : Int)) = true := decide_eq_true c9
    clear c9
    replace H := Option.bind_eq_some_iff.mp H
    obtain ⟨t217, A100, H⟩ := H
    replace H : ((glue_Widths.f k t217 a3).bind fun bt220 => (setter_line.l0 k l0 a2 bt220.1 0 t214 t214 a2 ([] : List (S42)) ((rd_T40 l0 a2).f3) 0 t211)) = some (r1, r2, r3, r4, r5, r6, r7) := H
    have A10 := a_ A100
    clear A100
    replace H := Option.bind_eq_some_iff.mp H
    obtain ⟨⟨t220, t221⟩, A110, H⟩ := H
    replace H : (setter_line.l0 k l0 a2 t220 0 t214 t214 a2 ([] : List (S42)) ((rd_T40 l0 a2).f3) 0 t211) = some (r1, r2, r3, r4, r5, r6, r7) := H
    have A11 := a_ A110
    clear A110
    have H' := a_ H
    clear H
    go_enter Try.func19, Try.ntmps19
    try go_wp2_with (first | ((with_reducible refine gate_dst (N := 8) rfl ?_); refine box_event ?hg (N := 8) ?hd (cs := #[.int .i64 0, .int .i64 0, .slice none 0 0, .bool false, .int .i64 0, .int .i64 0]) (t := 44) ?hr ?_; (case hd => rfl); (case hg => rfl); (case hr => first | (go_simp; done) | (go_simp; rfl)); intro gb207 hg w12 hbox hb; have n0_ := a_ (bs_ HB.out hb); have n1_ := a_ (hbox); have n2_ := a_ ((by rw [hg]; exact (below_size (bv_ HB.out)) : w.heap.size ≤ gb207)); have n3_ := a_ ((by rw [hg]; exact (below_size (bv_ HB.out)) : w.heap.size ≤ gb207)); clear HB; have HB := n0_; have BK207 := n1_; have GW207 := n2_; have GE207 := n3_; clear n0_ n1_ n2_ n3_; clear hb hbox hg) | ((with_reducible refine gate_callee (f := 28) rfl ?_); refine gl_ (some 22) Try.func28 (by kernel_rfl) #[.slice A0 l0.length c0, .int .i64 a1, .int .i64 a2, .int .i64 a3] ?_; (with_reducible refine (demerit_Line.calls k _ _ l0 a1 a2 a3 t208 t209 t210 t211 true _ ?side1 ?side2 A5.out).mono ?_); (case side1 => exact cw_ HR0.out HB.out); (case side2 => exact HC0.out); rintro e w13 ⟨rfl, hb⟩; refine ⟨_, rfl, ?_⟩; have n0_ := a_ (kb_ BK207.out hb); have n1_ := a_ (below_step (bS1_ HB.out GE207.out) hb); clear BK207; clear HB; have BK207 := n0_; have HB := n1_; clear n0_ n1_; (try clear hb); (try clear hb2); (try clear hk); (try clear hi)) | ((with_reducible refine gate_dst (N := 10) rfl ?_); refine box_event ?hg (N := 10) ?hd (cs := #[.int .i64 0, .int .i64 0, .int .i64 0, .int .i64 0]) (t := 56) ?hr ?_; (case hd => rfl); (case hg => rfl); (case hr => first | (go_simp; done) | (go_simp; rfl)); intro gb213 hg w14 hbox hb; have n0_ := a_ (kb_ BK207.out hb); have n1_ := a_ (below_step (bS1_ HB.out GE207.out) hb); have n2_ := a_ (hbox); have n3_ := a_ ((by rw [hg]; exact (below_size (bS1_ HB.out GE207.out)) : w.heap.size ≤ gb213)); have n4_ := a_ ((by rw [hg]; exact (below_size (bS1_ HB.out GE207.out)) : w.heap.size ≤ gb213)); have n5_ := a_ ((by rw [hg]; exact Nat.ne_of_lt (blk_lt (kv_ BK207.out)) : gb207 ≠ gb213)); have n6_ := a_ ((by rw [hg]; exact Nat.ne_of_gt (blk_lt (kv_ BK207.out)) : gb213 ≠ gb207)); clear BK207; clear HB; have BK207 := n0_; have HB := n1_; have BK213 := n2_; have GW213 := n3_; have GE213 := n4_; have NB207_213 := n5_; have NB213_207 := n6_; clear n0_ n1_ n2_ n3_ n4_ n5_ n6_; clear hb hbox hg; have hnb15 := NB213_207.out; have hnc15 := NB207_213.out; obtain ⟨⟨Z16_0, Y16_0⟩, ⟨Z16_1, Y16_1⟩, ⟨Z16_2, Y16_2⟩, Z16_3, Y16_3⟩ := cs4_ BK213.out))
    have n0_ : Aside0 (((((w14.setCell ⟨gb213, 0, none⟩ (.int .i64 t208)).setCell ⟨gb213, 1, none⟩ (.int .i64 t209)).setCell ⟨gb213, 2, none⟩ (.int .i64 t210)).setCell ⟨gb213, 3, none⟩ (.int .i64 t211)).heap[gb207]? = some (.cells #[.int .i64 0, .int .i64 0, .slice none 0 0, .bool false, .int .i64 0, .int .i64 0] 44 (0, 0))) := ⟨kf1_ BK207.out NB207_213.out⟩
    have n1_ : Aside0 (((((w14.setCell ⟨gb213, 0, none⟩ (.int .i64 t208)).setCell ⟨gb213, 1, none⟩ (.int .i64 t209)).setCell ⟨gb213, 2, none⟩ (.int .i64 t210)).setCell ⟨gb213, 3, none⟩ (.int .i64 t211)).heap[gb213]? = some (.cells #[.int .i64 t208, .int .i64 t209, .int .i64 t210, .int .i64 t211] 56 (0, 0))) := ⟨kp0_ BK213.out⟩
    have n2_ : Aside0 (Below w.heap.size w ((((w14.setCell ⟨gb213, 0, none⟩ (.int .i64 t208)).setCell ⟨gb213, 1, none⟩ (.int .i64 t209)).setCell ⟨gb213, 2, none⟩ (.int .i64 t210)).setCell ⟨gb213, 3, none⟩ (.int .i64 t211))) := ⟨bS2_ HB.out GE207.out GE213.out⟩
    (try clear BK207)
    (try clear BK213)
    (try clear HB)
    generalize ((((w14.setCell ⟨gb213, 0, none⟩ (.int .i64 t208)).setCell ⟨gb213, 1, none⟩ (.int .i64 t209)).setCell ⟨gb213, 2, none⟩ (.int .i64 t210)).setCell ⟨gb213, 3, none⟩ (.int .i64 t211)) = w17 at n0_ n1_ n2_ ⊢
    have BK207 := n0_
    have BK213 := n1_
    have HB := n2_
    clear n0_ n1_ n2_
    have n0_ := a_ (blk_drew BK207.out)
    have n1_ := a_ (blk_drew BK213.out)
    have n2_ := a_ (below_drew1 HB.out)
    clear BK207
    clear BK213
    clear HB
    have BK207 := n0_
    have BK213 := n1_
    have HB := n2_
    clear n0_ n1_ n2_
    have p215 : 0 ≤ (a2 : Int) := od_
    have q215 : a2 < (l0.length : Int) := od_
    obtain ⟨ad215, e215, hx215_0, hx215_1, hx215_2, hx215_3, hx215_4, hx215_5, hx215_6, hx215_7, hx215_8⟩ := at_T40 HR0.out a2 p215 q215
    have hw215_8 := hx215_8
    have hw215_7 := hx215_7
    have hw215_6 := hx215_6
    have hw215_5 := hx215_5
    have hw215_4 := hx215_4
    have hw215_3 := hx215_3
    have hw215_2 := hx215_2
    have hw215_1 := hx215_1
    have hw215_0 := hx215_0
    cases e215
    try replace hx215_0 := up_ HB.out hx215_0
    try replace hx215_1 := up_ HB.out hx215_1
    try replace hx215_2 := up_ HB.out hx215_2
    try replace hx215_3 := up_ HB.out hx215_3
    try replace hx215_4 := up_ HB.out hx215_4
    try replace hx215_5 := up_ HB.out hx215_5
    try replace hx215_6 := up_ HB.out hx215_6
    try replace hx215_7 := up_ HB.out hx215_7
    try replace hx215_8 := up_ HB.out hx215_8
    replace p215 := eq_true p215
    replace q215 := eq_true q215
    refine start_ (n := 14) (S := fun w' => w'.cell? ⟨gb213, 0, none⟩ = some (.int .i64 t208) ∧ w'.cell? ⟨gb213, 1, none⟩ = some (.int .i64 t209) ∧ w'.cell? ⟨gb213, 2, none⟩ = some (.int .i64 t210) ∧ w'.cell? ⟨gb213, 3, none⟩ = some (.int .i64 t211) ∧ w'.cell? (ad215.add ((a2).toNat * 9)) = some (.int .i64 ((rd_T40 l0 a2).f0)) ∧ w'.cell? ⟨(ad215.add ((a2).toNat * 9)).block, (ad215.add ((a2).toNat * 9)).off + 1, none⟩ = some (.int .i64 ((rd_T40 l0 a2).f1.f0)) ∧ w'.cell? ⟨(ad215.add ((a2).toNat * 9)).block, (ad215.add ((a2).toNat * 9)).off + 2, none⟩ = some (.int .i64 ((rd_T40 l0 a2).f1.f1)) ∧ w'.cell? ⟨(ad215.add ((a2).toNat * 9)).block, (ad215.add ((a2).toNat * 9)).off + 3, none⟩ = some (.int .i64 ((rd_T40 l0 a2).f1.f2)) ∧ w'.cell? ⟨(ad215.add ((a2).toNat * 9)).block, (ad215.add ((a2).toNat * 9)).off + 4, none⟩ = some (.int .i64 ((rd_T40 l0 a2).f1.f3)) ∧ w'.cell? ⟨(ad215.add ((a2).toNat * 9)).block, (ad215.add ((a2).toNat * 9)).off + 5, none⟩ = some (.int .i64 ((rd_T40 l0 a2).f2)) ∧ w'.cell? ⟨(ad215.add ((a2).toNat * 9)).block, (ad215.add ((a2).toNat * 9)).off + 6, none⟩ = some (.bool ((rd_T40 l0 a2).f3)) ∧ w'.cell? ⟨(ad215.add ((a2).toNat * 9)).block, (ad215.add ((a2).toNat * 9)).off + 7, none⟩ = some (.int .i64 ((rd_T40 l0 a2).f4)) ∧ w'.cell? ⟨(ad215.add ((a2).toNat * 9)).block, (ad215.add ((a2).toNat * 9)).off + 8, none⟩ = some (.int .i64 ((rd_T40 l0 a2).f5))) (ds := []) #[false, false, false, false, false, false, false, false, false, false, false, false, false, false] (by kernel_rfl) rfl rfl ⟨(blk_cell BK213.out 0).trans rfl, (blk_cell BK213.out 1).trans rfl, (blk_cell BK213.out 2).trans rfl, (blk_cell BK213.out 3).trans rfl, (up_ HB.out hw215_0), (up_ HB.out hw215_1), (up_ HB.out hw215_2), (up_ HB.out hw215_3), (up_ HB.out hw215_4), (up_ HB.out hw215_5), (up_ HB.out hw215_6), (up_ HB.out hw215_7), (up_ HB.out hw215_8)⟩ (fun hHeld => ?_); refine with_tabW setter_line.tab4 setter_line.bits4 (fun HT_ HW_ => ?_)
    generalize w17.drew = w18 at BK207 BK213 HB hx215_0 hx215_1 hx215_2 hx215_3 hx215_4 hx215_5 hx215_6 hx215_7 hx215_8 hHeld ⊢
    refine pure_ (i := 0) (N := some 28) #[true, false, false, false, false, false, false, false, false, false, false, false, false, false] rfl rfl (any_of HT_.out (by kernel_rfl)) (fun _ _ _ h => h) (Or.inl ⟨by rfl, fun w' => by go_simp; with_reducible rfl⟩) (by simp only [Act.put, List.setIfInBounds_toArray, List.set_cons_zero, List.set_cons_succ, i64_w, i32_w]; rfl) ?_
    refine pure_ (i := 1) (N := some 29) #[true, true, false, false, false, false, false, false, false, false, false, false, false, false] rfl rfl (any_of HT_.out (by kernel_rfl)) (fun _ _ _ h => h) (Or.inl ⟨by rfl, fun w' => by go_simp; with_reducible rfl⟩) (by simp only [Act.put, List.setIfInBounds_toArray, List.set_cons_zero, List.set_cons_succ, i64_w, i32_w]; rfl) ?_
    refine pure_ (i := 3) (N := some 31) #[true, true, false, true, false, false, false, false, false, false, false, false, false, false] rfl rfl (any_of HT_.out (by kernel_rfl)) (fun _ _ _ h => h) (Or.inl ⟨by rfl, fun w' => by go_simp; with_reducible rfl⟩) (by simp only [Act.put, List.setIfInBounds_toArray, List.set_cons_zero, List.set_cons_succ, i64_w, i32_w]; rfl) ?_
    refine pure_ (i := 4) (N := some 32) #[true, true, false, true, true, false, false, false, false, false, false, false, false, false] rfl rfl (any_of HT_.out (by kernel_rfl)) (fun _ _ _ h => h) (Or.inl ⟨by rfl, fun w' => by go_simp; with_reducible rfl⟩) (by simp only [Act.put, List.setIfInBounds_toArray, List.set_cons_zero, List.set_cons_succ, i64_w, i32_w]; rfl) ?_
    refine pure_ (i := 5) (N := some 33) #[true, true, false, true, true, true, false, false, false, false, false, false, false, false] rfl rfl (any_of HT_.out (by kernel_rfl)) (fun _ _ _ h => h) (Or.inl ⟨by rfl, fun w' => by go_simp; with_reducible rfl⟩) (by simp only [Act.put, List.setIfInBounds_toArray, List.set_cons_zero, List.set_cons_succ, i64_w, i32_w]; rfl) ?_
    refine pure_ (i := 6) (N := some 34) #[true, true, false, true, true, true, true, false, false, false, false, false, false, false] rfl rfl (any_of HT_.out (by kernel_rfl)) (fun _ _ _ h => h) (Or.inl ⟨by rfl, fun w' => by go_simp; with_reducible rfl⟩) (by simp only [Act.put, List.setIfInBounds_toArray, List.set_cons_zero, List.set_cons_succ, i64_w, i32_w]; rfl) ?_
    refine pure_ (i := 7) (N := some 35) #[true, true, false, true, true, true, true, true, false, false, false, false, false, false] rfl rfl (any_of HT_.out (by kernel_rfl)) (fun _ _ _ h => h) (Or.inl ⟨by rfl, fun w' => by go_simp; with_reducible rfl⟩) (by simp only [Act.put, List.setIfInBounds_toArray, List.set_cons_zero, List.set_cons_succ, i64_w, i32_w]; rfl) ?_
    refine pure_ (i := 9) (N := some 37) #[true, true, false, true, true, true, true, true, false, true, false, false, false, false] rfl rfl (any_of HT_.out (by kernel_rfl)) (fun _ _ _ h => h) (Or.inl ⟨by rfl, fun w' => by go_simp; with_reducible rfl⟩) (by simp only [Act.put, List.setIfInBounds_toArray, List.set_cons_zero, List.set_cons_succ, i64_w, i32_w]; rfl) ?_
    refine take_ (i := 8) (N := some 36) (v := ?_) (a' := ?_) #[true, true, false, true, true, true, true, true, true, true, false, false, false, false] rfl rfl (take_ofW HT_.out HW_.out (by kernel_rfl)) (fun _ _ _ h => h) (Or.inl ⟨by rfl, ?_⟩) hHeld ?_ ?_
    rotate_left
    ·rintro w' ⟨s0, s1, s2, s3, s4, s5, s6, s7, s8, s9, s10, s11, s12⟩
     go_simp
     with_reducible rfl
    rotate_left
    ·simp only [Act.put, List.setIfInBounds_toArray, List.set_cons_zero, List.set_cons_succ, i64_w, i32_w]
     rfl
    refine take_ (i := 10) (N := some 38) (v := ?_) (a' := ?_) #[true, true, false, true, true, true, true, true, true, true, true, false, false, false] rfl rfl (take_ofW HT_.out HW_.out (by kernel_rfl)) (fun _ _ _ h => h) (Or.inl ⟨by rfl, ?_⟩) hHeld ?_ ?_
    rotate_left
    ·rintro w' ⟨s0, s1, s2, s3, s4, s5, s6, s7, s8, s9, s10, s11, s12⟩
     go_simp
     with_reducible rfl
    rotate_left
    ·simp only [Act.put, List.setIfInBounds_toArray, List.set_cons_zero, List.set_cons_succ, i64_w, i32_w]
     rfl
    refine join_ (σ := Nat) 1 #[true, true, true, true, true, true, true, true, true, true, true, true, true, false] (fun s_ => [(30, .int .i64 t214), (12, .pointer (some ⟨s_, 0, none⟩)), (39, .agg #[.int .i64 t214, .int .i64 a2, .slice none 0 0, .bool ((rd_T40 l0 a2).f3), .int .i64 0, .int .i64 t211])]) (fun s_ w' => (w'.cell? ⟨gb213, 0, none⟩ = some (.int .i64 t208) ∧ w'.cell? ⟨gb213, 1, none⟩ = some (.int .i64 t209) ∧ w'.cell? ⟨gb213, 2, none⟩ = some (.int .i64 t210) ∧ w'.cell? ⟨gb213, 3, none⟩ = some (.int .i64 t211) ∧ w'.cell? (ad215.add ((a2).toNat * 9)) = some (.int .i64 ((rd_T40 l0 a2).f0)) ∧ w'.cell? ⟨(ad215.add ((a2).toNat * 9)).block, (ad215.add ((a2).toNat * 9)).off + 1, none⟩ = some (.int .i64 ((rd_T40 l0 a2).f1.f0)) ∧ w'.cell? ⟨(ad215.add ((a2).toNat * 9)).block, (ad215.add ((a2).toNat * 9)).off + 2, none⟩ = some (.int .i64 ((rd_T40 l0 a2).f1.f1)) ∧ w'.cell? ⟨(ad215.add ((a2).toNat * 9)).block, (ad215.add ((a2).toNat * 9)).off + 3, none⟩ = some (.int .i64 ((rd_T40 l0 a2).f1.f2)) ∧ w'.cell? ⟨(ad215.add ((a2).toNat * 9)).block, (ad215.add ((a2).toNat * 9)).off + 4, none⟩ = some (.int .i64 ((rd_T40 l0 a2).f1.f3)) ∧ w'.cell? ⟨(ad215.add ((a2).toNat * 9)).block, (ad215.add ((a2).toNat * 9)).off + 5, none⟩ = some (.int .i64 ((rd_T40 l0 a2).f2)) ∧ w'.cell? ⟨(ad215.add ((a2).toNat * 9)).block, (ad215.add ((a2).toNat * 9)).off + 6, none⟩ = some (.bool ((rd_T40 l0 a2).f3)) ∧ w'.cell? ⟨(ad215.add ((a2).toNat * 9)).block, (ad215.add ((a2).toNat * 9)).off + 7, none⟩ = some (.int .i64 ((rd_T40 l0 a2).f4)) ∧ w'.cell? ⟨(ad215.add ((a2).toNat * 9)).block, (ad215.add ((a2).toNat * 9)).off + 8, none⟩ = some (.int .i64 ((rd_T40 l0 a2).f5))) ∧ (w'.heap[gb207]? = some (.cells #[.int .i64 0, .int .i64 0, .slice none 0 0, .bool false, .int .i64 0, .int .i64 0] 44 (0, 0))) ∧ (w'.heap[gb213]? = some (.cells #[.int .i64 t208, .int .i64 t209, .int .i64 t210, .int .i64 t211] 56 (0, 0))) ∧ (w'.heap[s_]? = some (.cells #[.int .i64 0, .int .i64 0, .slice none 0 0, .bool false, .int .i64 0, .int .i64 0] 44 (0, 0))) ∧ (w.heap.size ≤ s_) ∧ (w.heap.size ≤ s_) ∧ (gb207 ≠ s_) ∧ (s_ ≠ gb207) ∧ (gb213 ≠ s_) ∧ (s_ ≠ gb213) ∧ (Below w.heap.size w w')) ?_ ?_
    rotate_left
    ·intro hCont
     refine two_ (i := 2) (j := 12) (Ni := some 30) (Nj := some 12) #[true, true, true, true, true, true, true, true, true, true, true, false, false, false] #[true, true, false, true, true, true, true, true, true, true, true, false, true, false] rfl rfl rfl rfl (two_of HT_.out (by kernel_rfl)) (by decide) (by decide) (fun K hK => ?_) (fun K hK => ?_)
     ·skip
      refine goes_ Try.func29 (by kernel_rfl) rfl #[.slice (some ad215) l0.length c0, .int .i64 a1] (by rfl) rfl rfl (by (try simp only [List.map_toArray, List.map_cons, List.map_nil]); first | done | rfl | (simp only [List.length_drop, List.length_take]; rfl) | (simp only [*]; first | done | rfl)) ?_
      with_reducible refine (demerit_Start.calls k _ _ l0 a1 t214 _ ?side1 ?side2 A7.out).mono ?_
      (case side1 => exact cw_ HR0.out HB.out)
      (case side2 => exact HC0.out)
      rintro e w19 ⟨rfl, hb⟩
      refine ⟨_, rfl, ?_⟩
      have n0_ := a_ (kb_ BK207.out hb)
      have n1_ := a_ (kb_ BK213.out hb)
      have n2_ := a_ (below_step (bS2_ HB.out GE207.out GE213.out) hb)
      clear BK207
      clear BK213
      clear HB
      have BK207 := n0_
      have BK213 := n1_
      have HB := n2_
      clear n0_ n1_ n2_
      (try clear hb)
      (try clear hb2)
      (try clear hk)
      (try clear hi)
      refine hK.out _ _ ⟨(blk_cell BK213.out 0).trans rfl, (blk_cell BK213.out 1).trans rfl, (blk_cell BK213.out 2).trans rfl, (blk_cell BK213.out 3).trans rfl, (up_ HB.out hw215_0), (up_ HB.out hw215_1), (up_ HB.out hw215_2), (up_ HB.out hw215_3), (up_ HB.out hw215_4), (up_ HB.out hw215_5), (up_ HB.out hw215_6), (up_ HB.out hw215_7), (up_ HB.out hw215_8)⟩ (fun hHeld => ?_)
      clear hK K
      refine norm_ (a' := ?_) ?_ ?_
      rotate_left
      ·show Act.put _ (some 30) _ = _
       simp only [Act.put, List.setIfInBounds_toArray, List.set_cons_zero, List.set_cons_succ, i64_w, i32_w]
       rfl
      refine pure_ (i := 11) (N := some 39) #[true, true, true, true, true, true, true, true, true, true, true, true, false, false] rfl rfl (any_of HT_.out (by kernel_rfl)) (fun _ _ _ h => h) (Or.inl ⟨by rfl, fun w' => by go_simp; with_reducible rfl⟩) (by simp only [Act.put, List.setIfInBounds_toArray, List.set_cons_zero, List.set_cons_succ, i64_w, i32_w]; rfl) ?_
      refine one_ (i := 12) (N := some 12) #[true, true, true, true, true, true, true, true, true, true, true, true, true, false] rfl rfl (one_of HT_.out (by kernel_rfl)) (by decide) (fun K hK => ?_)
      refine box_step ?hg (N := 12) ?hd (cs := #[.int .i64 0, .int .i64 0, .slice none 0 0, .bool false, .int .i64 0, .int .i64 0]) (t := 44) ?hr ?_; (case hd => rfl); (case hg => rfl); (case hr => first | (go_simp; done) | (go_simp; rfl))
      intro gb216 hg w20 hbox hb
      have n0_ := a_ (kb_ BK207.out hb)
      have n1_ := a_ (kb_ BK213.out hb)
      have n2_ := a_ (below_step (bS2_ HB.out GE207.out GE213.out) hb)
      have n3_ := a_ (hbox)
      have n4_ := a_ ((by rw [hg]; exact (below_size (bS2_ HB.out GE207.out GE213.out)) : w.heap.size ≤ gb216))
      have n5_ := a_ ((by rw [hg]; exact (below_size (bS2_ HB.out GE207.out GE213.out)) : w.heap.size ≤ gb216))
      have n6_ := a_ ((by rw [hg]; exact Nat.ne_of_lt (blk_lt (kv_ BK207.out)) : gb207 ≠ gb216))
      have n7_ := a_ ((by rw [hg]; exact Nat.ne_of_gt (blk_lt (kv_ BK207.out)) : gb216 ≠ gb207))
      have n8_ := a_ ((by rw [hg]; exact Nat.ne_of_lt (blk_lt (kv_ BK213.out)) : gb213 ≠ gb216))
      have n9_ := a_ ((by rw [hg]; exact Nat.ne_of_gt (blk_lt (kv_ BK213.out)) : gb216 ≠ gb213))
      clear BK207
      clear BK213
      clear HB
      have BK207 := n0_
      have BK213 := n1_
      have HB := n2_
      have BK216 := n3_
      have GW216 := n4_
      have GE216 := n5_
      have NB207_216 := n6_
      have NB216_207 := n7_
      have NB213_216 := n8_
      have NB216_213 := n9_
      clear n0_ n1_ n2_ n3_ n4_ n5_ n6_ n7_ n8_ n9_
      clear hb hbox hg
      refine hK.out _ _ ⟨(blk_cell BK213.out 0).trans rfl, (blk_cell BK213.out 1).trans rfl, (blk_cell BK213.out 2).trans rfl, (blk_cell BK213.out 3).trans rfl, (up_ HB.out hw215_0), (up_ HB.out hw215_1), (up_ HB.out hw215_2), (up_ HB.out hw215_3), (up_ HB.out hw215_4), (up_ HB.out hw215_5), (up_ HB.out hw215_6), (up_ HB.out hw215_7), (up_ HB.out hw215_8)⟩ (fun hHeld => ?_)
      clear hK K
      refine norm_ (a' := ?_) ?_ ?_
      rotate_left
      ·show Act.put _ (some 12) _ = _
       simp only [Act.put, List.setIfInBounds_toArray, List.set_cons_zero, List.set_cons_succ, i64_w, i32_w]
       rfl
      exact norm_ (by simp only [putAll, Act.put, List.setIfInBounds_toArray, List.set_cons_zero, List.set_cons_succ]) (hCont (gb216) _ ⟨hHeld, (kv_ BK207.out), (kv_ BK213.out), (kv_ BK216.out), GW216.out, GE216.out, NB207_216.out, NB216_207.out, NB213_216.out, NB216_213.out, (bS3_ HB.out GE207.out GE213.out GE216.out)⟩)
     ·skip
      refine box_step ?hg (N := 12) ?hd (cs := #[.int .i64 0, .int .i64 0, .slice none 0 0, .bool false, .int .i64 0, .int .i64 0]) (t := 44) ?hr ?_; (case hd => rfl); (case hg => rfl); (case hr => first | (go_simp; done) | (go_simp; rfl))
      intro gb216 hg w19 hbox hb
      have n0_ := a_ (kb_ BK207.out hb)
      have n1_ := a_ (kb_ BK213.out hb)
      have n2_ := a_ (below_step (bS2_ HB.out GE207.out GE213.out) hb)
      have n3_ := a_ (hbox)
      have n4_ := a_ ((by rw [hg]; exact (below_size (bS2_ HB.out GE207.out GE213.out)) : w.heap.size ≤ gb216))
      have n5_ := a_ ((by rw [hg]; exact (below_size (bS2_ HB.out GE207.out GE213.out)) : w.heap.size ≤ gb216))
      have n6_ := a_ ((by rw [hg]; exact Nat.ne_of_lt (blk_lt (kv_ BK207.out)) : gb207 ≠ gb216))
      have n7_ := a_ ((by rw [hg]; exact Nat.ne_of_gt (blk_lt (kv_ BK207.out)) : gb216 ≠ gb207))
      have n8_ := a_ ((by rw [hg]; exact Nat.ne_of_lt (blk_lt (kv_ BK213.out)) : gb213 ≠ gb216))
      have n9_ := a_ ((by rw [hg]; exact Nat.ne_of_gt (blk_lt (kv_ BK213.out)) : gb216 ≠ gb213))
      clear BK207
      clear BK213
      clear HB
      have BK207 := n0_
      have BK213 := n1_
      have HB := n2_
      have BK216 := n3_
      have GW216 := n4_
      have GE216 := n5_
      have NB207_216 := n6_
      have NB216_207 := n7_
      have NB213_216 := n8_
      have NB216_213 := n9_
      clear n0_ n1_ n2_ n3_ n4_ n5_ n6_ n7_ n8_ n9_
      clear hb hbox hg
      refine hK.out _ _ ⟨(blk_cell BK213.out 0).trans rfl, (blk_cell BK213.out 1).trans rfl, (blk_cell BK213.out 2).trans rfl, (blk_cell BK213.out 3).trans rfl, (up_ HB.out hw215_0), (up_ HB.out hw215_1), (up_ HB.out hw215_2), (up_ HB.out hw215_3), (up_ HB.out hw215_4), (up_ HB.out hw215_5), (up_ HB.out hw215_6), (up_ HB.out hw215_7), (up_ HB.out hw215_8)⟩ (fun hHeld => ?_)
      clear hK K
      refine norm_ (a' := ?_) ?_ ?_
      rotate_left
      ·show Act.put _ (some 12) _ = _
       simp only [Act.put, List.setIfInBounds_toArray, List.set_cons_zero, List.set_cons_succ, i64_w, i32_w]
       rfl
      refine one_ (i := 2) (N := some 30) #[true, true, true, true, true, true, true, true, true, true, true, false, true, false] rfl rfl (one_of HT_.out (by kernel_rfl)) (by decide) (fun K hK => ?_)
      refine goes_ Try.func29 (by kernel_rfl) rfl #[.slice (some ad215) l0.length c0, .int .i64 a1] (by rfl) rfl rfl (by (try simp only [List.map_toArray, List.map_cons, List.map_nil]); first | done | rfl | (simp only [List.length_drop, List.length_take]; rfl) | (simp only [*]; first | done | rfl)) ?_
      with_reducible refine (demerit_Start.calls k _ _ l0 a1 t214 _ ?side1 ?side2 A7.out).mono ?_
      (case side1 => exact cw_ HR0.out HB.out)
      (case side2 => exact HC0.out)
      rintro e w20 ⟨rfl, hb⟩
      refine ⟨_, rfl, ?_⟩
      have n0_ := a_ (kb_ BK207.out hb)
      have n1_ := a_ (kb_ BK213.out hb)
      have n2_ := a_ (kb_ BK216.out hb)
      have n3_ := a_ (below_step (bS3_ HB.out GE207.out GE213.out GE216.out) hb)
      clear BK207
      clear BK213
      clear BK216
      clear HB
      have BK207 := n0_
      have BK213 := n1_
      have BK216 := n2_
      have HB := n3_
      clear n0_ n1_ n2_ n3_
      (try clear hb)
      (try clear hb2)
      (try clear hk)
      (try clear hi)
      refine hK.out _ _ ⟨(blk_cell BK213.out 0).trans rfl, (blk_cell BK213.out 1).trans rfl, (blk_cell BK213.out 2).trans rfl, (blk_cell BK213.out 3).trans rfl, (up_ HB.out hw215_0), (up_ HB.out hw215_1), (up_ HB.out hw215_2), (up_ HB.out hw215_3), (up_ HB.out hw215_4), (up_ HB.out hw215_5), (up_ HB.out hw215_6), (up_ HB.out hw215_7), (up_ HB.out hw215_8)⟩ (fun hHeld => ?_)
      clear hK K
      refine norm_ (a' := ?_) ?_ ?_
      rotate_left
      ·show Act.put _ (some 30) _ = _
       simp only [Act.put, List.setIfInBounds_toArray, List.set_cons_zero, List.set_cons_succ, i64_w, i32_w]
       rfl
      refine pure_ (i := 11) (N := some 39) #[true, true, true, true, true, true, true, true, true, true, true, true, true, false] rfl rfl (any_of HT_.out (by kernel_rfl)) (fun _ _ _ h => h) (Or.inl ⟨by rfl, fun w' => by go_simp; with_reducible rfl⟩) (by simp only [Act.put, List.setIfInBounds_toArray, List.set_cons_zero, List.set_cons_succ, i64_w, i32_w]; rfl) ?_
      exact norm_ (by simp only [putAll, Act.put, List.setIfInBounds_toArray, List.set_cons_zero, List.set_cons_succ]) (hCont (gb216) _ ⟨hHeld, (kv_ BK207.out), (kv_ BK213.out), (kv_ BK216.out), GW216.out, GE216.out, NB207_216.out, NB216_207.out, NB213_216.out, NB216_213.out, (bS3_ HB.out GE207.out GE213.out GE216.out)⟩)
    rintro gb216 w21 ⟨hS_, h0_, h1_, h2_, h3_, h4_, h5_, h6_, h7_, h8_, h9_⟩
    have n0_ : Aside0 (w21.heap[gb207]? = some (.cells #[.int .i64 0, .int .i64 0, .slice none 0 0, .bool false, .int .i64 0, .int .i64 0] 44 (0, 0))) := ⟨h0_⟩
    have n1_ : Aside0 (w21.heap[gb213]? = some (.cells #[.int .i64 t208, .int .i64 t209, .int .i64 t210, .int .i64 t211] 56 (0, 0))) := ⟨h1_⟩
    have n2_ : Aside0 (w21.heap[gb216]? = some (.cells #[.int .i64 0, .int .i64 0, .slice none 0 0, .bool false, .int .i64 0, .int .i64 0] 44 (0, 0))) := ⟨h2_⟩
    have n3_ : Aside0 (w.heap.size ≤ gb216) := ⟨h3_⟩
    have n4_ : Aside0 (w.heap.size ≤ gb216) := ⟨h4_⟩
    have n5_ : Aside0 (gb207 ≠ gb216) := ⟨h5_⟩
    have n6_ : Aside0 (gb216 ≠ gb207) := ⟨h6_⟩
    have n7_ : Aside0 (gb213 ≠ gb216) := ⟨h7_⟩
    have n8_ : Aside0 (gb216 ≠ gb213) := ⟨h8_⟩
    have n9_ : Aside0 (Below w.heap.size w w21) := ⟨h9_⟩
    clear BK207
    clear BK213
    clear HB
    clear h0_ h1_ h2_ h3_ h4_ h5_ h6_ h7_ h8_ h9_
    have BK207 := n0_
    have BK213 := n1_
    have BK216 := n2_
    have GW216 := n3_
    have GE216 := n4_
    have NB207_216 := n5_
    have NB216_207 := n6_
    have NB213_216 := n7_
    have NB216_213 := n8_
    have HB := n9_
    clear n0_ n1_ n2_ n3_ n4_ n5_ n6_ n7_ n8_ n9_
    have hHeld : w21.cell? ⟨gb213, 0, none⟩ = some (.int .i64 t208) ∧ w21.cell? ⟨gb213, 1, none⟩ = some (.int .i64 t209) ∧ w21.cell? ⟨gb213, 2, none⟩ = some (.int .i64 t210) ∧ w21.cell? ⟨gb213, 3, none⟩ = some (.int .i64 t211) ∧ w21.cell? (ad215.add ((a2).toNat * 9)) = some (.int .i64 ((rd_T40 l0 a2).f0)) ∧ w21.cell? ⟨(ad215.add ((a2).toNat * 9)).block, (ad215.add ((a2).toNat * 9)).off + 1, none⟩ = some (.int .i64 ((rd_T40 l0 a2).f1.f0)) ∧ w21.cell? ⟨(ad215.add ((a2).toNat * 9)).block, (ad215.add ((a2).toNat * 9)).off + 2, none⟩ = some (.int .i64 ((rd_T40 l0 a2).f1.f1)) ∧ w21.cell? ⟨(ad215.add ((a2).toNat * 9)).block, (ad215.add ((a2).toNat * 9)).off + 3, none⟩ = some (.int .i64 ((rd_T40 l0 a2).f1.f2)) ∧ w21.cell? ⟨(ad215.add ((a2).toNat * 9)).block, (ad215.add ((a2).toNat * 9)).off + 4, none⟩ = some (.int .i64 ((rd_T40 l0 a2).f1.f3)) ∧ w21.cell? ⟨(ad215.add ((a2).toNat * 9)).block, (ad215.add ((a2).toNat * 9)).off + 5, none⟩ = some (.int .i64 ((rd_T40 l0 a2).f2)) ∧ w21.cell? ⟨(ad215.add ((a2).toNat * 9)).block, (ad215.add ((a2).toNat * 9)).off + 6, none⟩ = some (.bool ((rd_T40 l0 a2).f3)) ∧ w21.cell? ⟨(ad215.add ((a2).toNat * 9)).block, (ad215.add ((a2).toNat * 9)).off + 7, none⟩ = some (.int .i64 ((rd_T40 l0 a2).f4)) ∧ w21.cell? ⟨(ad215.add ((a2).toNat * 9)).block, (ad215.add ((a2).toNat * 9)).off + 8, none⟩ = some (.int .i64 ((rd_T40 l0 a2).f5)) := hS_
    refine norm_ (a' := ?_) ?_ ?_
    rotate_left
    ·simp only [putAll, Act.put, List.setIfInBounds_toArray, List.set_cons_zero, List.set_cons_succ]
     rfl
    refine one_ (i := 13) (N := none) #[true, true, true, true, true, true, true, true, true, true, true, true, true, true] rfl rfl (one_of HT_.out (by kernel_rfl)) (by decide) (fun K hK => ?_)
    have hs22 : w21.cell? ⟨gb216, 0, none⟩ = some (.int .i64 0) := (blk_cell BK216.out 0).trans rfl
    have hfs22 := blk_frozen BK216.out 0
    have hns22_0 := NB207_216.out
    have hns22_1 := NB213_216.out
    have hms22_0 := NB216_207.out
    have hms22_1 := NB216_213.out
    have hs23 : w21.cell? ⟨gb216, 1, none⟩ = some (.int .i64 0) := (blk_cell BK216.out 1).trans rfl
    have hfs23 := blk_frozen BK216.out 1
    have hns23_0 := NB207_216.out
    have hns23_1 := NB213_216.out
    have hms23_0 := NB216_207.out
    have hms23_1 := NB216_213.out
    have hs24 : w21.cell? ⟨gb216, 2, none⟩ = some (.slice none 0 0) := (blk_cell BK216.out 2).trans rfl
    have hfs24 := blk_frozen BK216.out 2
    have hns24_0 := NB207_216.out
    have hns24_1 := NB213_216.out
    have hms24_0 := NB216_207.out
    have hms24_1 := NB216_213.out
    have hs25 : w21.cell? ⟨gb216, 3, none⟩ = some (.bool false) := (blk_cell BK216.out 3).trans rfl
    have hfs25 := blk_frozen BK216.out 3
    have hns25_0 := NB207_216.out
    have hns25_1 := NB213_216.out
    have hms25_0 := NB216_207.out
    have hms25_1 := NB216_213.out
    have hs26 : w21.cell? ⟨gb216, 4, none⟩ = some (.int .i64 0) := (blk_cell BK216.out 4).trans rfl
    have hfs26 := blk_frozen BK216.out 4
    have hns26_0 := NB207_216.out
    have hns26_1 := NB213_216.out
    have hms26_0 := NB216_207.out
    have hms26_1 := NB216_213.out
    have hs27 : w21.cell? ⟨gb216, 5, none⟩ = some (.int .i64 0) := (blk_cell BK216.out 5).trans rfl
    have hfs27 := blk_frozen BK216.out 5
    have hns27_0 := NB207_216.out
    have hns27_1 := NB213_216.out
    have hms27_0 := NB216_207.out
    have hms27_1 := NB216_213.out
    refine skip_ (w1 := ?_) (by rfl) rfl ?_ ?_
    rotate_left
    ·go_simp
     rfl
    refine hK.out _ _ ⟨(cc1_ NB213_216.out hHeld.1), (cc1_ NB213_216.out hHeld.2.1), (cc1_ NB213_216.out hHeld.2.2.1), (cc1_ NB213_216.out hHeld.2.2.2.1), (cc1_ (far_ hw215_0 GW216.out) hHeld.2.2.2.2.1), (cc1_ (far_ hw215_1 GW216.out) hHeld.2.2.2.2.2.1), (cc1_ (far_ hw215_2 GW216.out) hHeld.2.2.2.2.2.2.1), (cc1_ (far_ hw215_3 GW216.out) hHeld.2.2.2.2.2.2.2.1), (cc1_ (far_ hw215_4 GW216.out) hHeld.2.2.2.2.2.2.2.2.1), (cc1_ (far_ hw215_5 GW216.out) hHeld.2.2.2.2.2.2.2.2.2.1), (cc1_ (far_ hw215_6 GW216.out) hHeld.2.2.2.2.2.2.2.2.2.2.1), (cc1_ (far_ hw215_7 GW216.out) hHeld.2.2.2.2.2.2.2.2.2.2.2.1), (cc1_ (far_ hw215_8 GW216.out) hHeld.2.2.2.2.2.2.2.2.2.2.2.2)⟩ (fun hHeld => ?_)
    clear hK K
    refine done_ (done_of HT_.out (by kernel_rfl)) ?_
    try go_wp2_with (first | ((with_reducible refine gate_callee (f := 31) rfl ?_); refine gl_ (some 44) Try.func31 (by kernel_rfl) #[.slice (some ad215) l0.length c0, .int .i64 a1, .int .i64 a2] ?_; (with_reducible refine (demerit_Glues.calls k _ _ l0 a1 a2 t217 _ ?side1 ?side2 A10.out).mono ?_); (case side1 => exact Kd.C_below HR0.out (bS3_ HB.out GE207.out GE213.out GE216.out)); (case side2 => exact HC0.out); rintro e w28 ⟨v218, rfl, ho0, hb⟩; refine ⟨_, rfl, ?_⟩; have n0_ := a_ (Kd.R_lower ho0 (below_size (bS3_ HB.out GE207.out GE213.out GE216.out))); have n1_ := a_ (blk_below (kf1_ BK207.out NB207_216.out) hb); have n2_ := a_ (blk_below (kf1_ BK213.out NB213_216.out) hb); have n3_ := a_ (blk_below (g := gb216) (o := .cells #[.int .i64 t214, .int .i64 a2, .slice none 0 0, .bool ((rd_T40 l0 a2).f3), .int .i64 0, .int .i64 t211] 44 (0, 0)) (kp0_ BK216.out) hb); have n4_ := a_ (below_step (bS3_ HB.out GE207.out GE213.out GE216.out) hb); clear BK207; clear BK213; clear BK216; clear HB; have HO219 := n0_; have BK207 := n1_; have BK213 := n2_; have BK216 := n3_; have HB := n4_; clear n0_ n1_ n2_ n3_ n4_; (try clear hb); (try clear hb2); (try clear hk); (try clear hi); (try clear ho0); obtain ⟨Ao29, co29, eo29⟩ := Kd.R_slice HO219.out; subst eo29) | ((with_reducible refine gate_callee (f := 30) rfl ?_); refine gl_ (some 46) Try.func30 (by kernel_rfl) #[.slice Ao29 t217.length co29, .int .i64 a3] ?_; (with_reducible refine (glue_Widths.calls k _ _ t217 a3 t220 t221 _ ?side1 ?side2 A11.out).mono ?_); (case side1 => exact cr_ (Kd.R_reads' HO219.out).2.2); (case side2 => exact (Kd.R_reads' HO219.out).2.1); rintro e w30 ⟨v222, rfl, ho0, hb⟩; refine ⟨_, rfl, ?_⟩; have n0_ := a_ (Kd.R_below (rv_ HO219.out) hb); have n1_ := a_ (Kd.R_lower ho0 (below_size (bS3_ HB.out GE207.out GE213.out GE216.out))); have n2_ := a_ (kb_ BK207.out hb); have n3_ := a_ (kb_ BK213.out hb); have n4_ := a_ (kb_ BK216.out hb); have n5_ := a_ (below_step (bS3_ HB.out GE207.out GE213.out GE216.out) hb); clear HO219; clear BK207; clear BK213; clear BK216; clear HB; have HO219 := n0_; have HO223 := n1_; have BK207 := n2_; have BK213 := n3_; have BK216 := n4_; have HB := n5_; clear n0_ n1_ n2_ n3_ n4_ n5_; (try clear hb); (try clear hb2); (try clear hk); (try clear hi); (try clear ho0); have hnb31 := NB216_207.out; have hnc31 := NB207_216.out; have hnb32 := NB216_213.out; have hnc32 := NB213_216.out; obtain ⟨⟨Z33_0, Y33_0⟩, ⟨Z33_1, Y33_1⟩, ⟨Z33_2, Y33_2⟩, ⟨Z33_3, Y33_3⟩, ⟨Z33_4, Y33_4⟩, Z33_5, Y33_5⟩ := cs6_ BK216.out))
    go_loopg [15, 16] k (fun kq v15 v16 w' => ∃ (x15_1 : Int) (x16_1 : Int) (x217002_1 : List (S42)) (x217004_1 : Int) (u217002 : Value), v15 = .int .i64 x15_1 ∧ v16 = .int .i64 x16_1 ∧ Aside0 (setter_line.l0 kq l0 a2 t220 x15_1 x16_1 t214 a2 x217002_1 ((rd_T40 l0 a2).f3) x217004_1 t211 = some (r1, r2, r3, r4, r5, r6, r7)) ∧ Aside0 (kq ≤ k) ∧ Aside0 (Kd.R (Kd.int .i64) 2 w' w.heap.size (fun _ => True) v222 t220) ∧ Aside0 (Kd.R k42 42 w' w.heap.size (fun _ => True) u217002 x217002_1) ∧ Aside0 (w'.heap[gb207]? = some (.cells #[.int .i64 0, .int .i64 0, (.slice none 0 0), .bool false, .int .i64 0, .int .i64 0] 44 (0, 0))) ∧ Aside0 (w'.heap[gb213]? = some (.cells #[.int .i64 t208, .int .i64 t209, .int .i64 t210, .int .i64 t211] 56 (0, 0))) ∧ Aside0 (w'.heap[gb216]? = some (.cells #[.int .i64 t214, .int .i64 a2, u217002, .bool ((rd_T40 l0 a2).f3), .int .i64 x217004_1, .int .i64 t211] 44 (0, 0))) ∧ Aside0 (Below w.heap.size w w'))
    case atStart => exact ⟨(0), (t214), (([] : List (S42))), (0), (.slice none 0 0), (by first | rfl | (simp; done) | (simp [*]; done)), (by first | rfl | (simp; done) | (simp [*]; done)), H', ⟨Nat.le_refl _⟩, ⟨by (with_reducible repeat (first | apply Kd.R_alloc | apply Kd.R_drewN | apply Kd.R_drew)); exact HO223.out⟩, ⟨by first | exact Kd.R_nil _ _ _ _ _ | exact Kd.N_nil _ _ _ _ _ | exact Kd.V_nil _ _ _ _ _ | exact Kd.Q_nil _ _ _ _ _ | exact Kd.S_nil _ _ _ _ _⟩, ⟨kv_ BK207.out⟩, ⟨kv_ BK213.out⟩, ⟨kv_ BK216.out⟩, ⟨bS3_ HB.out GE207.out GE213.out GE216.out⟩⟩
    case round =>
     clear H'
     try clear c1
     try clear c2
     try clear p2
     try clear q2
     try clear hx2
     try clear c3
     try clear c6
     try clear c8
     try clear c8b0
     try clear c9
     try clear c9b0
     try clear c15
     try clear c19
     try clear p21
     try clear q21
     try clear hx21
     try clear c28
     try clear c29
     try clear c30
     try clear c31
     try clear c32
     try clear Z16_0
     try clear Z16_1
     try clear Z16_2
     try clear Z16_3
     try clear Z33_0
     try clear Z33_1
     try clear Z33_2
     try clear Z33_3
     try clear Z33_4
     try clear Z33_5
     try clear Y16_0
     try clear Y16_1
     try clear Y16_2
     try clear Y16_3
     try clear Y33_0
     try clear Y33_1
     try clear Y33_2
     try clear Y33_3
     try clear Y33_4
     try clear Y33_5
     try clear hx215_0
     try clear hx215_1
     try clear hx215_2
     try clear hx215_3
     try clear hx215_4
     try clear hx215_5
     try clear hx215_6
     try clear hx215_7
     try clear hx215_8
     try clear p215
     try clear q215
     obtain ⟨x15_1, x16_1, x217002_1, x217004_1, u217002, rfl, rfl, HA, HK1, HO_13, HO_217002, BK207, BK213, BK216, HB⟩ := hrel
     cases gk with
     | zero => exact absurd HA.out (by simp [setter_line.l0])
     | succ k1 =>
      have H := HA.out
      clear HA
      simp only [setter_line.l0] at H
      by_cases c34 : x16_1 < a2
      ·rw [if_pos c34] at H
       have c34b0 : decide (x16_1 < a2) = true := decide_eq_true c34
       clear c34
       by_cases c35 : 0 ≤ x16_1
       ·rw [if_pos c35] at H
        have c35b0 : decide (0 ≤ x16_1) = true := decide_eq_true c35
        clear c35
        by_cases c36 : x16_1 < (l0.length : Int)
        ·rw [if_pos c36] at H
         have c36b0 : decide (x16_1 < (l0.length : Int)) = true := decide_eq_true c36
         clear c36
         by_cases c37 : ((rd_T40 l0 x16_1).f0) = 0
         ·rw [if_pos c37] at H
          have c37b0 : (((rd_T40 l0 x16_1).f0) == 0) = true := beq_iff_eq.mpr c37
          have c37b1 : (((rd_T40 l0 x16_1).f0) != 0) = false := bne_eq_false_iff_eq.mpr c37
          clear c37
          by_cases c38 : x217002_1.length < 4398046511104
          ·rw [if_pos c38] at H
           have LMc38 := a_ c38
           clear c38
           obtain ⟨y228, hy228⟩ : ∃ y_ : List (S42), y_ = (x217002_1 ++ [(⟨(rd_T40 l0 x16_1).f4, (rd_T40 l0 x16_1).f5, x217004_1, (rd_T40 l0 x16_1).f1.f0⟩ : S42)]) := ⟨_, rfl⟩
           replace H : (if 0 ≤ x15_1 then (if x15_1 < (t220.length : Int) then (setter_line.l0 k1 l0 a2 t220 (wrap64 (x15_1 + 1)) (wrap64 (x16_1 + 1)) t214 a2 y228 ((rd_T40 l0 a2).f3) (wrap64 (x217004_1 + (rd t220 x15_1))) t211) else (none)) else (none)) = some (r1, r2, r3, r4, r5, r6, r7) := by first | (rw [hy228]; with_reducible exact H) | (have H2_ := (Option.bind_some _ _).symm.trans H; rw [hy228]; with_reducible exact H2_) | (have H2_ := (Option.bind_some _ _).symm.trans H; with_reducible exact H2_) | with_reducible exact H | (rw [hy228]; exact H) | exact H
           have Ny228 := a_ hy228
           clear hy228
           by_cases c39 : 0 ≤ x15_1
           ·rw [if_pos c39] at H
            have c39b0 : decide (0 ≤ x15_1) = true := decide_eq_true c39
            clear c39
            by_cases c40 : x15_1 < (t220.length : Int)
            ·rw [if_pos c40] at H
             have c40b0 : decide (x15_1 < (t220.length : Int)) = true := decide_eq_true c40
             clear c40
             have H' := a_ H
             clear H
             have p224 : 0 ≤ (x16_1 : Int) := od_
             have q224 : x16_1 < (l0.length : Int) := od_
             obtain ⟨ad224, e224, hx224_0, hx224_1, hx224_2, hx224_3, hx224_4, hx224_5, hx224_6, hx224_7, hx224_8⟩ := at_T40 (Kd.C_below HR0.out HB.out) x16_1 p224 q224
             obtain rfl : ad215 = ad224 := (by injection e224)
             replace p224 := eq_true p224
             replace q224 := eq_true q224
             try go_wp2
             have n0_ := a_ (Kd.R_drew HO_13.out)
             have n1_ := a_ (Kd.R_drew HO_217002.out)
             have n2_ := a_ (blk_drew BK207.out)
             have n3_ := a_ (blk_drew BK213.out)
             have n4_ := a_ (blk_drew BK216.out)
             have n5_ := a_ (below_drew1 HB.out)
             clear HO_13
             clear HO_217002
             clear BK207
             clear BK213
             clear BK216
             clear HB
             have HO_13 := n0_
             have HO_217002 := n1_
             have BK207 := n2_
             have BK213 := n3_
             have BK216 := n4_
             have HB := n5_
             clear n0_ n1_ n2_ n3_ n4_ n5_
             have p225 : 0 ≤ (x16_1 : Int) := od_
             have q225 : x16_1 < (l0.length : Int) := od_
             obtain ⟨ad225, e225, hx225_0, hx225_1, hx225_2, hx225_3, hx225_4, hx225_5, hx225_6, hx225_7, hx225_8⟩ := at_T40 HR0.out x16_1 p225 q225
             have hw225_8 := hx225_8
             have hw225_7 := hx225_7
             have hw225_6 := hx225_6
             have hw225_5 := hx225_5
             have hw225_4 := hx225_4
             have hw225_3 := hx225_3
             have hw225_2 := hx225_2
             have hw225_1 := hx225_1
             have hw225_0 := hx225_0
             obtain rfl : ad215 = ad225 := (by injection e225)
             try replace hx225_0 := up_ HB.out hx225_0
             try replace hx225_1 := up_ HB.out hx225_1
             try replace hx225_2 := up_ HB.out hx225_2
             try replace hx225_3 := up_ HB.out hx225_3
             try replace hx225_4 := up_ HB.out hx225_4
             try replace hx225_5 := up_ HB.out hx225_5
             try replace hx225_6 := up_ HB.out hx225_6
             try replace hx225_7 := up_ HB.out hx225_7
             try replace hx225_8 := up_ HB.out hx225_8
             replace p225 := eq_true p225
             replace q225 := eq_true q225
             have p226 : 0 ≤ (x16_1 : Int) := od_
             have q226 : x16_1 < (l0.length : Int) := od_
             obtain ⟨ad226, e226, hx226_0, hx226_1, hx226_2, hx226_3, hx226_4, hx226_5, hx226_6, hx226_7, hx226_8⟩ := at_T40 HR0.out x16_1 p226 q226
             have hw226_8 := hx226_8
             have hw226_7 := hx226_7
             have hw226_6 := hx226_6
             have hw226_5 := hx226_5
             have hw226_4 := hx226_4
             have hw226_3 := hx226_3
             have hw226_2 := hx226_2
             have hw226_1 := hx226_1
             have hw226_0 := hx226_0
             obtain rfl : ad215 = ad226 := (by injection e226)
             try replace hx226_0 := up_ HB.out hx226_0
             try replace hx226_1 := up_ HB.out hx226_1
             try replace hx226_2 := up_ HB.out hx226_2
             try replace hx226_3 := up_ HB.out hx226_3
             try replace hx226_4 := up_ HB.out hx226_4
             try replace hx226_5 := up_ HB.out hx226_5
             try replace hx226_6 := up_ HB.out hx226_6
             try replace hx226_7 := up_ HB.out hx226_7
             try replace hx226_8 := up_ HB.out hx226_8
             replace p226 := eq_true p226
             replace q226 := eq_true q226
             have p227 : 0 ≤ (x16_1 : Int) := od_
             have q227 : x16_1 < (l0.length : Int) := od_
             obtain ⟨ad227, e227, hx227_0, hx227_1, hx227_2, hx227_3, hx227_4, hx227_5, hx227_6, hx227_7, hx227_8⟩ := at_T40 HR0.out x16_1 p227 q227
             have hw227_8 := hx227_8
             have hw227_7 := hx227_7
             have hw227_6 := hx227_6
             have hw227_5 := hx227_5
             have hw227_4 := hx227_4
             have hw227_3 := hx227_3
             have hw227_2 := hx227_2
             have hw227_1 := hx227_1
             have hw227_0 := hx227_0
             obtain rfl : ad215 = ad227 := (by injection e227)
             try replace hx227_0 := up_ HB.out hx227_0
             try replace hx227_1 := up_ HB.out hx227_1
             try replace hx227_2 := up_ HB.out hx227_2
             try replace hx227_3 := up_ HB.out hx227_3
             try replace hx227_4 := up_ HB.out hx227_4
             try replace hx227_5 := up_ HB.out hx227_5
             try replace hx227_6 := up_ HB.out hx227_6
             try replace hx227_7 := up_ HB.out hx227_7
             try replace hx227_8 := up_ HB.out hx227_8
             replace p227 := eq_true p227
             replace q227 := eq_true q227
             refine start_ (n := 25) (S := fun w' => w'.cell? ⟨gb216, 0, none⟩ = some (.int .i64 t214) ∧ w'.cell? ⟨gb216, 1, none⟩ = some (.int .i64 a2) ∧ w'.cell? ⟨gb216, 2, none⟩ = some (u217002) ∧ w'.cell? ⟨gb216, 3, none⟩ = some (.bool ((rd_T40 l0 a2).f3)) ∧ w'.cell? ⟨gb216, 4, none⟩ = some (.int .i64 x217004_1) ∧ w'.cell? ⟨gb216, 5, none⟩ = some (.int .i64 t211) ∧ w'.cell? (ad215.add ((x16_1).toNat * 9)) = some (.int .i64 ((rd_T40 l0 x16_1).f0)) ∧ w'.cell? ⟨(ad215.add ((x16_1).toNat * 9)).block, (ad215.add ((x16_1).toNat * 9)).off + 1, none⟩ = some (.int .i64 ((rd_T40 l0 x16_1).f1.f0)) ∧ w'.cell? ⟨(ad215.add ((x16_1).toNat * 9)).block, (ad215.add ((x16_1).toNat * 9)).off + 2, none⟩ = some (.int .i64 ((rd_T40 l0 x16_1).f1.f1)) ∧ w'.cell? ⟨(ad215.add ((x16_1).toNat * 9)).block, (ad215.add ((x16_1).toNat * 9)).off + 3, none⟩ = some (.int .i64 ((rd_T40 l0 x16_1).f1.f2)) ∧ w'.cell? ⟨(ad215.add ((x16_1).toNat * 9)).block, (ad215.add ((x16_1).toNat * 9)).off + 4, none⟩ = some (.int .i64 ((rd_T40 l0 x16_1).f1.f3)) ∧ w'.cell? ⟨(ad215.add ((x16_1).toNat * 9)).block, (ad215.add ((x16_1).toNat * 9)).off + 5, none⟩ = some (.int .i64 ((rd_T40 l0 x16_1).f2)) ∧ w'.cell? ⟨(ad215.add ((x16_1).toNat * 9)).block, (ad215.add ((x16_1).toNat * 9)).off + 6, none⟩ = some (.bool ((rd_T40 l0 x16_1).f3)) ∧ w'.cell? ⟨(ad215.add ((x16_1).toNat * 9)).block, (ad215.add ((x16_1).toNat * 9)).off + 7, none⟩ = some (.int .i64 ((rd_T40 l0 x16_1).f4)) ∧ w'.cell? ⟨(ad215.add ((x16_1).toNat * 9)).block, (ad215.add ((x16_1).toNat * 9)).off + 8, none⟩ = some (.int .i64 ((rd_T40 l0 x16_1).f5)) ∧ w'.cell? (ad215.add ((x16_1).toNat * 9)) = some (.int .i64 ((rd_T40 l0 x16_1).f0)) ∧ w'.cell? ⟨(ad215.add ((x16_1).toNat * 9)).block, (ad215.add ((x16_1).toNat * 9)).off + 1, none⟩ = some (.int .i64 ((rd_T40 l0 x16_1).f1.f0)) ∧ w'.cell? ⟨(ad215.add ((x16_1).toNat * 9)).block, (ad215.add ((x16_1).toNat * 9)).off + 2, none⟩ = some (.int .i64 ((rd_T40 l0 x16_1).f1.f1)) ∧ w'.cell? ⟨(ad215.add ((x16_1).toNat * 9)).block, (ad215.add ((x16_1).toNat * 9)).off + 3, none⟩ = some (.int .i64 ((rd_T40 l0 x16_1).f1.f2)) ∧ w'.cell? ⟨(ad215.add ((x16_1).toNat * 9)).block, (ad215.add ((x16_1).toNat * 9)).off + 4, none⟩ = some (.int .i64 ((rd_T40 l0 x16_1).f1.f3)) ∧ w'.cell? ⟨(ad215.add ((x16_1).toNat * 9)).block, (ad215.add ((x16_1).toNat * 9)).off + 5, none⟩ = some (.int .i64 ((rd_T40 l0 x16_1).f2)) ∧ w'.cell? ⟨(ad215.add ((x16_1).toNat * 9)).block, (ad215.add ((x16_1).toNat * 9)).off + 6, none⟩ = some (.bool ((rd_T40 l0 x16_1).f3)) ∧ w'.cell? ⟨(ad215.add ((x16_1).toNat * 9)).block, (ad215.add ((x16_1).toNat * 9)).off + 7, none⟩ = some (.int .i64 ((rd_T40 l0 x16_1).f4)) ∧ w'.cell? ⟨(ad215.add ((x16_1).toNat * 9)).block, (ad215.add ((x16_1).toNat * 9)).off + 8, none⟩ = some (.int .i64 ((rd_T40 l0 x16_1).f5)) ∧ w'.cell? (ad215.add ((x16_1).toNat * 9)) = some (.int .i64 ((rd_T40 l0 x16_1).f0)) ∧ w'.cell? ⟨(ad215.add ((x16_1).toNat * 9)).block, (ad215.add ((x16_1).toNat * 9)).off + 1, none⟩ = some (.int .i64 ((rd_T40 l0 x16_1).f1.f0)) ∧ w'.cell? ⟨(ad215.add ((x16_1).toNat * 9)).block, (ad215.add ((x16_1).toNat * 9)).off + 2, none⟩ = some (.int .i64 ((rd_T40 l0 x16_1).f1.f1)) ∧ w'.cell? ⟨(ad215.add ((x16_1).toNat * 9)).block, (ad215.add ((x16_1).toNat * 9)).off + 3, none⟩ = some (.int .i64 ((rd_T40 l0 x16_1).f1.f2)) ∧ w'.cell? ⟨(ad215.add ((x16_1).toNat * 9)).block, (ad215.add ((x16_1).toNat * 9)).off + 4, none⟩ = some (.int .i64 ((rd_T40 l0 x16_1).f1.f3)) ∧ w'.cell? ⟨(ad215.add ((x16_1).toNat * 9)).block, (ad215.add ((x16_1).toNat * 9)).off + 5, none⟩ = some (.int .i64 ((rd_T40 l0 x16_1).f2)) ∧ w'.cell? ⟨(ad215.add ((x16_1).toNat * 9)).block, (ad215.add ((x16_1).toNat * 9)).off + 6, none⟩ = some (.bool ((rd_T40 l0 x16_1).f3)) ∧ w'.cell? ⟨(ad215.add ((x16_1).toNat * 9)).block, (ad215.add ((x16_1).toNat * 9)).off + 7, none⟩ = some (.int .i64 ((rd_T40 l0 x16_1).f4)) ∧ w'.cell? ⟨(ad215.add ((x16_1).toNat * 9)).block, (ad215.add ((x16_1).toNat * 9)).off + 8, none⟩ = some (.int .i64 ((rd_T40 l0 x16_1).f5))) (ds := [24]) #[false, false, false, false, false, false, false, false, false, false, false, false, false, false, false, false, false, false, false, false, false, false, false, false, false] (by kernel_rfl) rfl rfl ⟨(blk_cell BK216.out 0).trans rfl, (blk_cell BK216.out 1).trans rfl, (blk_cell BK216.out 2).trans rfl, (blk_cell BK216.out 3).trans rfl, (blk_cell BK216.out 4).trans rfl, (blk_cell BK216.out 5).trans rfl, (up_ HB.out hw225_0), (up_ HB.out hw225_1), (up_ HB.out hw225_2), (up_ HB.out hw225_3), (up_ HB.out hw225_4), (up_ HB.out hw225_5), (up_ HB.out hw225_6), (up_ HB.out hw225_7), (up_ HB.out hw225_8), (up_ HB.out hw226_0), (up_ HB.out hw226_1), (up_ HB.out hw226_2), (up_ HB.out hw226_3), (up_ HB.out hw226_4), (up_ HB.out hw226_5), (up_ HB.out hw226_6), (up_ HB.out hw226_7), (up_ HB.out hw226_8), (up_ HB.out hw227_0), (up_ HB.out hw227_1), (up_ HB.out hw227_2), (up_ HB.out hw227_3), (up_ HB.out hw227_4), (up_ HB.out hw227_5), (up_ HB.out hw227_6), (up_ HB.out hw227_7), (up_ HB.out hw227_8)⟩ (fun hHeld => ?_); refine with_tabW setter_line.tab13 setter_line.bits13 (fun HT_ HW_ => ?_)
             generalize wr.drew = w41 at HO_13 HO_217002 BK207 BK213 BK216 HB hx225_0 hx225_1 hx225_2 hx225_3 hx225_4 hx225_5 hx225_6 hx225_7 hx225_8 hx226_0 hx226_1 hx226_2 hx226_3 hx226_4 hx226_5 hx226_6 hx226_7 hx226_8 hx227_0 hx227_1 hx227_2 hx227_3 hx227_4 hx227_5 hx227_6 hx227_7 hx227_8 hHeld ⊢
             refine pure_ (i := 0) (N := some 65) #[true, false, false, false, false, false, false, false, false, false, false, false, false, false, false, false, false, false, false, false, false, false, false, false, false] rfl rfl (any_of HT_.out (by kernel_rfl)) (fun _ _ _ h => h) (Or.inl ⟨by rfl, fun w' => by go_simp; with_reducible rfl⟩) (by simp only [Act.put, List.setIfInBounds_toArray, List.set_cons_zero, List.set_cons_succ, i64_w, i32_w]; rfl) ?_
             refine pure_ (i := 2) (N := some 67) #[true, false, true, false, false, false, false, false, false, false, false, false, false, false, false, false, false, false, false, false, false, false, false, false, false] rfl rfl (any_of HT_.out (by kernel_rfl)) (fun _ _ _ h => h) (Or.inl ⟨by rfl, fun w' => by go_simp; with_reducible rfl⟩) (by simp only [Act.put, List.setIfInBounds_toArray, List.set_cons_zero, List.set_cons_succ, i64_w, i32_w]; rfl) ?_
             refine pure_ (i := 3) (N := some 68) #[true, false, true, true, false, false, false, false, false, false, false, false, false, false, false, false, false, false, false, false, false, false, false, false, false] rfl rfl (any_of HT_.out (by kernel_rfl)) (fun _ _ _ h => h) (Or.inl ⟨by rfl, fun w' => by go_simp; with_reducible rfl⟩) (by simp only [Act.put, List.setIfInBounds_toArray, List.set_cons_zero, List.set_cons_succ, i64_w, i32_w]; rfl) ?_
             refine pure_ (i := 4) (N := some 69) #[true, false, true, true, true, false, false, false, false, false, false, false, false, false, false, false, false, false, false, false, false, false, false, false, false] rfl rfl (any_of HT_.out (by kernel_rfl)) (fun _ _ _ h => h) (Or.inl ⟨by rfl, fun w' => by go_simp; with_reducible rfl⟩) (by simp only [Act.put, List.setIfInBounds_toArray, List.set_cons_zero, List.set_cons_succ, i64_w, i32_w]; rfl) ?_
             refine pure_ (i := 5) (N := some 70) #[true, false, true, true, true, true, false, false, false, false, false, false, false, false, false, false, false, false, false, false, false, false, false, false, false] rfl rfl (any_of HT_.out (by kernel_rfl)) (fun _ _ _ h => h) (Or.inl ⟨by rfl, fun w' => by go_simp; with_reducible rfl⟩) (by simp only [Act.put, List.setIfInBounds_toArray, List.set_cons_zero, List.set_cons_succ, i64_w, i32_w]; rfl) ?_
             refine pure_ (i := 7) (N := some 72) #[true, false, true, true, true, true, false, true, false, false, false, false, false, false, false, false, false, false, false, false, false, false, false, false, false] rfl rfl (any_of HT_.out (by kernel_rfl)) (fun _ _ _ h => h) (Or.inl ⟨by rfl, fun w' => by go_simp; with_reducible rfl⟩) (by simp only [Act.put, List.setIfInBounds_toArray, List.set_cons_zero, List.set_cons_succ, i64_w, i32_w]; rfl) ?_
             refine pure_ (i := 8) (N := some 73) #[true, false, true, true, true, true, false, true, true, false, false, false, false, false, false, false, false, false, false, false, false, false, false, false, false] rfl rfl (any_of HT_.out (by kernel_rfl)) (fun _ _ _ h => h) (Or.inl ⟨by rfl, fun w' => by go_simp; with_reducible rfl⟩) (by simp only [Act.put, List.setIfInBounds_toArray, List.set_cons_zero, List.set_cons_succ, i64_w, i32_w]; rfl) ?_
             refine pure_ (i := 9) (N := some 74) #[true, false, true, true, true, true, false, true, true, true, false, false, false, false, false, false, false, false, false, false, false, false, false, false, false] rfl rfl (any_of HT_.out (by kernel_rfl)) (fun _ _ _ h => h) (Or.inl ⟨by rfl, fun w' => by go_simp; with_reducible rfl⟩) (by simp only [Act.put, List.setIfInBounds_toArray, List.set_cons_zero, List.set_cons_succ, i64_w, i32_w]; rfl) ?_
             refine pure_ (i := 10) (N := some 75) #[true, false, true, true, true, true, false, true, true, true, true, false, false, false, false, false, false, false, false, false, false, false, false, false, false] rfl rfl (any_of HT_.out (by kernel_rfl)) (fun _ _ _ h => h) (Or.inl ⟨by rfl, fun w' => by go_simp; with_reducible rfl⟩) (by simp only [Act.put, List.setIfInBounds_toArray, List.set_cons_zero, List.set_cons_succ, i64_w, i32_w]; rfl) ?_
             refine pure_ (i := 12) (N := some 77) #[true, false, true, true, true, true, false, true, true, true, true, false, true, false, false, false, false, false, false, false, false, false, false, false, false] rfl rfl (any_of HT_.out (by kernel_rfl)) (fun _ _ _ h => h) (Or.inl ⟨by rfl, fun w' => by go_simp; with_reducible rfl⟩) (by simp only [Act.put, List.setIfInBounds_toArray, List.set_cons_zero, List.set_cons_succ, i64_w, i32_w]; rfl) ?_
             refine pure_ (i := 14) (N := some 79) #[true, false, true, true, true, true, false, true, true, true, true, false, true, false, true, false, false, false, false, false, false, false, false, false, false] rfl rfl (any_of HT_.out (by kernel_rfl)) (fun _ _ _ h => h) (Or.inl ⟨by rfl, fun w' => by go_simp; with_reducible rfl⟩) (by simp only [Act.put, List.setIfInBounds_toArray, List.set_cons_zero, List.set_cons_succ, i64_w, i32_w]; rfl) ?_
             refine pure_ (i := 15) (N := some 80) #[true, false, true, true, true, true, false, true, true, true, true, false, true, false, true, true, false, false, false, false, false, false, false, false, false] rfl rfl (any_of HT_.out (by kernel_rfl)) (fun _ _ _ h => h) (Or.inl ⟨by rfl, fun w' => by go_simp; with_reducible rfl⟩) (by simp only [Act.put, List.setIfInBounds_toArray, List.set_cons_zero, List.set_cons_succ, i64_w, i32_w]; rfl) ?_
             refine pure_ (i := 16) (N := some 81) #[true, false, true, true, true, true, false, true, true, true, true, false, true, false, true, true, true, false, false, false, false, false, false, false, false] rfl rfl (any_of HT_.out (by kernel_rfl)) (fun _ _ _ h => h) (Or.inl ⟨by rfl, fun w' => by go_simp; with_reducible rfl⟩) (by simp only [Act.put, List.setIfInBounds_toArray, List.set_cons_zero, List.set_cons_succ, i64_w, i32_w]; rfl) ?_
             refine pure_ (i := 17) (N := some 82) #[true, false, true, true, true, true, false, true, true, true, true, false, true, false, true, true, true, true, false, false, false, false, false, false, false] rfl rfl (any_of HT_.out (by kernel_rfl)) (fun _ _ _ h => h) (Or.inl ⟨by rfl, fun w' => by go_simp; with_reducible rfl⟩) (by simp only [Act.put, List.setIfInBounds_toArray, List.set_cons_zero, List.set_cons_succ, i64_w, i32_w]; rfl) ?_
             refine pure_ (i := 18) (N := some 83) #[true, false, true, true, true, true, false, true, true, true, true, false, true, false, true, true, true, true, true, false, false, false, false, false, false] rfl rfl (any_of HT_.out (by kernel_rfl)) (fun _ _ _ h => h) (Or.inl ⟨by rfl, fun w' => by go_simp; with_reducible rfl⟩) (by simp only [Act.put, List.setIfInBounds_toArray, List.set_cons_zero, List.set_cons_succ, i64_w, i32_w]; rfl) ?_
             refine take_ (i := 1) (N := some 66) (v := ?_) (a' := ?_) #[true, true, true, true, true, true, false, true, true, true, true, false, true, false, true, true, true, true, true, false, false, false, false, false, false] rfl rfl (take_ofW HT_.out HW_.out (by kernel_rfl)) (fun _ _ _ h => h) (Or.inl ⟨by rfl, ?_⟩) hHeld ?_ ?_
             rotate_left
             ·rintro w' ⟨s0, s1, s2, s3, s4, s5, s6, s7, s8, s9, s10, s11, s12, s13, s14, s15, s16, s17, s18, s19, s20, s21, s22, s23, s24, s25, s26, s27, s28, s29, s30, s31, s32⟩
              go_simp
              with_reducible rfl
             rotate_left
             ·simp only [Act.put, List.setIfInBounds_toArray, List.set_cons_zero, List.set_cons_succ, i64_w, i32_w]
              rfl
             refine take_ (i := 6) (N := some 71) (v := ?_) (a' := ?_) #[true, true, true, true, true, true, true, true, true, true, true, false, true, false, true, true, true, true, true, false, false, false, false, false, false] rfl rfl (take_ofW HT_.out HW_.out (by kernel_rfl)) (fun _ _ _ h => h) (Or.inl ⟨by rfl, ?_⟩) hHeld ?_ ?_
             rotate_left
             ·rintro w' ⟨s0, s1, s2, s3, s4, s5, s6, s7, s8, s9, s10, s11, s12, s13, s14, s15, s16, s17, s18, s19, s20, s21, s22, s23, s24, s25, s26, s27, s28, s29, s30, s31, s32⟩
              go_simp
              with_reducible rfl
             rotate_left
             ·simp only [Act.put, List.setIfInBounds_toArray, List.set_cons_zero, List.set_cons_succ, i64_w, i32_w]
              rfl
             refine take_ (i := 11) (N := some 76) (v := ?_) (a' := ?_) #[true, true, true, true, true, true, true, true, true, true, true, true, true, false, true, true, true, true, true, false, false, false, false, false, false] rfl rfl (take_ofW HT_.out HW_.out (by kernel_rfl)) (fun _ _ _ h => h) (Or.inl ⟨by rfl, ?_⟩) hHeld ?_ ?_
             rotate_left
             ·rintro w' ⟨s0, s1, s2, s3, s4, s5, s6, s7, s8, s9, s10, s11, s12, s13, s14, s15, s16, s17, s18, s19, s20, s21, s22, s23, s24, s25, s26, s27, s28, s29, s30, s31, s32⟩
              go_simp
              with_reducible rfl
             rotate_left
             ·simp only [Act.put, List.setIfInBounds_toArray, List.set_cons_zero, List.set_cons_succ, i64_w, i32_w]
              rfl
             refine take_ (i := 13) (N := some 78) (v := ?_) (a' := ?_) #[true, true, true, true, true, true, true, true, true, true, true, true, true, true, true, true, true, true, true, false, false, false, false, false, false] rfl rfl (take_ofW HT_.out HW_.out (by kernel_rfl)) (fun _ _ _ h => h) (Or.inl ⟨by rfl, ?_⟩) hHeld ?_ ?_
             rotate_left
             ·rintro w' ⟨s0, s1, s2, s3, s4, s5, s6, s7, s8, s9, s10, s11, s12, s13, s14, s15, s16, s17, s18, s19, s20, s21, s22, s23, s24, s25, s26, s27, s28, s29, s30, s31, s32⟩
              go_simp
              with_reducible rfl
             rotate_left
             ·simp only [Act.put, List.setIfInBounds_toArray, List.set_cons_zero, List.set_cons_succ, i64_w, i32_w]
              rfl
             refine take_ (i := 19) (N := some 84) (v := ?_) (a' := ?_) #[true, true, true, true, true, true, true, true, true, true, true, true, true, true, true, true, true, true, true, true, false, false, false, false, false] rfl rfl (take_ofW HT_.out HW_.out (by kernel_rfl)) (fun _ _ _ h => h) (Or.inl ⟨by rfl, ?_⟩) hHeld ?_ ?_
             rotate_left
             ·rintro w' ⟨s0, s1, s2, s3, s4, s5, s6, s7, s8, s9, s10, s11, s12, s13, s14, s15, s16, s17, s18, s19, s20, s21, s22, s23, s24, s25, s26, s27, s28, s29, s30, s31, s32⟩
              go_simp
              with_reducible rfl
             rotate_left
             ·simp only [Act.put, List.setIfInBounds_toArray, List.set_cons_zero, List.set_cons_succ, i64_w, i32_w]
              rfl
             refine pure_ (i := 20) (N := some 85) #[true, true, true, true, true, true, true, true, true, true, true, true, true, true, true, true, true, true, true, true, true, false, false, false, false] rfl rfl (any_of HT_.out (by kernel_rfl)) (fun _ _ _ h => h) (Or.inl ⟨by rfl, fun w' => by go_simp; with_reducible rfl⟩) (by simp only [Act.put, List.setIfInBounds_toArray, List.set_cons_zero, List.set_cons_succ, i64_w, i32_w]; rfl) ?_
             refine one_ (i := 21) (N := some 86) #[true, true, true, true, true, true, true, true, true, true, true, true, true, true, true, true, true, true, true, true, true, true, false, false, false] rfl rfl (one_of HT_.out (by kernel_rfl)) (by decide) (fun K hK => ?_)
             refine value_ (w1 := ?_) (v := ?_) (by rfl) rfl ?_ ?_
             rotate_left 2
             ·go_simp
              constructor
              ·rfl
              ·rfl
             refine hK.out _ _ ⟨(blk_cell (blk_alloc BK216.out _) 0).trans rfl, (blk_cell (blk_alloc BK216.out _) 1).trans rfl, (blk_cell (blk_alloc BK216.out _) 2).trans rfl, (blk_cell (blk_alloc BK216.out _) 3).trans rfl, (blk_cell (blk_alloc BK216.out _) 4).trans rfl, (blk_cell (blk_alloc BK216.out _) 5).trans rfl, (World.cell?_alloc_lt _ _ _ (World.block_lt_of_cell? _ _ ((up_ HB.out hw225_0)))).trans ((up_ HB.out hw225_0)), (World.cell?_alloc_lt _ _ _ (World.block_lt_of_cell? _ _ ((up_ HB.out hw225_1)))).trans ((up_ HB.out hw225_1)), (World.cell?_alloc_lt _ _ _ (World.block_lt_of_cell? _ _ ((up_ HB.out hw225_2)))).trans ((up_ HB.out hw225_2)), (World.cell?_alloc_lt _ _ _ (World.block_lt_of_cell? _ _ ((up_ HB.out hw225_3)))).trans ((up_ HB.out hw225_3)), (World.cell?_alloc_lt _ _ _ (World.block_lt_of_cell? _ _ ((up_ HB.out hw225_4)))).trans ((up_ HB.out hw225_4)), (World.cell?_alloc_lt _ _ _ (World.block_lt_of_cell? _ _ ((up_ HB.out hw225_5)))).trans ((up_ HB.out hw225_5)), (World.cell?_alloc_lt _ _ _ (World.block_lt_of_cell? _ _ ((up_ HB.out hw225_6)))).trans ((up_ HB.out hw225_6)), (World.cell?_alloc_lt _ _ _ (World.block_lt_of_cell? _ _ ((up_ HB.out hw225_7)))).trans ((up_ HB.out hw225_7)), (World.cell?_alloc_lt _ _ _ (World.block_lt_of_cell? _ _ ((up_ HB.out hw225_8)))).trans ((up_ HB.out hw225_8)), (World.cell?_alloc_lt _ _ _ (World.block_lt_of_cell? _ _ ((up_ HB.out hw226_0)))).trans ((up_ HB.out hw226_0)), (World.cell?_alloc_lt _ _ _ (World.block_lt_of_cell? _ _ ((up_ HB.out hw226_1)))).trans ((up_ HB.out hw226_1)), (World.cell?_alloc_lt _ _ _ (World.block_lt_of_cell? _ _ ((up_ HB.out hw226_2)))).trans ((up_ HB.out hw226_2)), (World.cell?_alloc_lt _ _ _ (World.block_lt_of_cell? _ _ ((up_ HB.out hw226_3)))).trans ((up_ HB.out hw226_3)), (World.cell?_alloc_lt _ _ _ (World.block_lt_of_cell? _ _ ((up_ HB.out hw226_4)))).trans ((up_ HB.out hw226_4)), (World.cell?_alloc_lt _ _ _ (World.block_lt_of_cell? _ _ ((up_ HB.out hw226_5)))).trans ((up_ HB.out hw226_5)), (World.cell?_alloc_lt _ _ _ (World.block_lt_of_cell? _ _ ((up_ HB.out hw226_6)))).trans ((up_ HB.out hw226_6)), (World.cell?_alloc_lt _ _ _ (World.block_lt_of_cell? _ _ ((up_ HB.out hw226_7)))).trans ((up_ HB.out hw226_7)), (World.cell?_alloc_lt _ _ _ (World.block_lt_of_cell? _ _ ((up_ HB.out hw226_8)))).trans ((up_ HB.out hw226_8)), (World.cell?_alloc_lt _ _ _ (World.block_lt_of_cell? _ _ ((up_ HB.out hw227_0)))).trans ((up_ HB.out hw227_0)), (World.cell?_alloc_lt _ _ _ (World.block_lt_of_cell? _ _ ((up_ HB.out hw227_1)))).trans ((up_ HB.out hw227_1)), (World.cell?_alloc_lt _ _ _ (World.block_lt_of_cell? _ _ ((up_ HB.out hw227_2)))).trans ((up_ HB.out hw227_2)), (World.cell?_alloc_lt _ _ _ (World.block_lt_of_cell? _ _ ((up_ HB.out hw227_3)))).trans ((up_ HB.out hw227_3)), (World.cell?_alloc_lt _ _ _ (World.block_lt_of_cell? _ _ ((up_ HB.out hw227_4)))).trans ((up_ HB.out hw227_4)), (World.cell?_alloc_lt _ _ _ (World.block_lt_of_cell? _ _ ((up_ HB.out hw227_5)))).trans ((up_ HB.out hw227_5)), (World.cell?_alloc_lt _ _ _ (World.block_lt_of_cell? _ _ ((up_ HB.out hw227_6)))).trans ((up_ HB.out hw227_6)), (World.cell?_alloc_lt _ _ _ (World.block_lt_of_cell? _ _ ((up_ HB.out hw227_7)))).trans ((up_ HB.out hw227_7)), (World.cell?_alloc_lt _ _ _ (World.block_lt_of_cell? _ _ ((up_ HB.out hw227_8)))).trans ((up_ HB.out hw227_8))⟩ (fun hHeld => ?_)
             clear hK K
             refine norm_ (a' := ?_) ?_ ?_
             rotate_left
             ·show Act.put _ (some 86) _ = _
              simp only [Act.put, List.setIfInBounds_toArray, List.set_cons_zero, List.set_cons_succ, i64_w, i32_w]
              rfl
             refine one_ (i := 22) (N := some 87) #[true, true, true, true, true, true, true, true, true, true, true, true, true, true, true, true, true, true, true, true, true, true, true, false, false] rfl rfl (one_of HT_.out (by kernel_rfl)) (by decide) (fun K hK => ?_)
             refine Kd.R_append_step k42 (w0 := w) w.heap.size (by rfl) (.tmp 66) (.tmp 86) 33 42 (.agg #[(.int .i64 0), (.int .i64 0), (.int .i64 0), (.int .i64 0)]) 32 rfl Try.underlying33 info42 rfl (by decide) (by omega) u217002 x217002_1 (⟨(rd_T40 l0 x16_1).f4, (rd_T40 l0 x16_1).f5, x217004_1, (rd_T40 l0 x16_1).f1.f0⟩ : S42) [.int .i64 ((rd_T40 l0 x16_1).f4), .int .i64 ((rd_T40 l0 x16_1).f5), .int .i64 x217004_1, .int .i64 ((rd_T40 l0 x16_1).f1.f0)] (fun _ => True) (fun _ => False) rfl rfl ?aP (fun _ hk => hk.elim) ?aF ?aO ?aB ?aS ?aL ?_
             (case aP => exact k42_mkM _ _ _ (⟨(rd_T40 l0 x16_1).f4, (rd_T40 l0 x16_1).f5, x217004_1, (rd_T40 l0 x16_1).f1.f0⟩ : S42))
             (case aB => exact (bS3_ HB.out GE207.out GE213.out GE216.out))
             (case aF => exact (fun _ _ => trivial))
             (case aO => exact (rv_ HO_217002.out))
             (case aS => exact (below_size (bS3_ HB.out GE207.out GE213.out GE216.out)))
             (case aL => have := LMc38.out; omega)
             intro v229 w42 ho hb hg hat
             rw [← Ny228.out] at ho
             have n0_ := a_ (Kd.R_over' (rv_ HO_13.out) (Kd.R_typed (rv_ HO_217002.out)) (by decide) hg)
             have n1_ := a_ (blk_grown (g := gb207) (o := .cells #[.int .i64 0, .int .i64 0, .slice none 0 0, .bool false, .int .i64 0, .int .i64 0] 44 (0, 0)) (kv_ BK207.out) hg (Kd.R_ne HO_217002.out BK207.out (by decide)))
             have n2_ := a_ (blk_grown (g := gb213) (o := .cells #[.int .i64 t208, .int .i64 t209, .int .i64 t210, .int .i64 t211] 56 (0, 0)) (kv_ BK213.out) hg (Kd.R_ne HO_217002.out BK213.out (by decide)))
             have n3_ := a_ (blk_grown (g := gb216) (o := .cells #[.int .i64 t214, .int .i64 a2, u217002, .bool ((rd_T40 l0 a2).f3), .int .i64 x217004_1, .int .i64 t211] 44 (0, 0)) (kv_ BK216.out) hg (Kd.R_ne HO_217002.out BK216.out (by decide)))
             have n4_ := a_ (hb)
             have n5_ := a_ (ho)
             clear HO_13
             clear BK207
             clear BK213
             clear BK216
             clear HB
             clear HO_217002
             have HO_13 := n0_
             have BK207 := n1_
             have BK213 := n2_
             have BK216 := n3_
             have HB := n4_
             have HO230 := n5_
             clear n0_ n1_ n2_ n3_ n4_ n5_
             clear ho hb hg hat
             obtain ⟨Ao43, co43, eo43⟩ := Kd.R_slice HO230.out
             (first | subst eo43 | (injection eo43 with f1_ f2_ f3_; have f4_ := f1_.symm; have f5_ := f3_.symm; clear f1_ f2_ f3_; subst f4_; subst f5_))
             refine hK.out _ _ ⟨(blk_cell BK216.out 0).trans rfl, (blk_cell BK216.out 1).trans rfl, (blk_cell BK216.out 2).trans rfl, (blk_cell BK216.out 3).trans rfl, (blk_cell BK216.out 4).trans rfl, (blk_cell BK216.out 5).trans rfl, (up_ HB.out hw225_0), (up_ HB.out hw225_1), (up_ HB.out hw225_2), (up_ HB.out hw225_3), (up_ HB.out hw225_4), (up_ HB.out hw225_5), (up_ HB.out hw225_6), (up_ HB.out hw225_7), (up_ HB.out hw225_8), (up_ HB.out hw226_0), (up_ HB.out hw226_1), (up_ HB.out hw226_2), (up_ HB.out hw226_3), (up_ HB.out hw226_4), (up_ HB.out hw226_5), (up_ HB.out hw226_6), (up_ HB.out hw226_7), (up_ HB.out hw226_8), (up_ HB.out hw227_0), (up_ HB.out hw227_1), (up_ HB.out hw227_2), (up_ HB.out hw227_3), (up_ HB.out hw227_4), (up_ HB.out hw227_5), (up_ HB.out hw227_6), (up_ HB.out hw227_7), (up_ HB.out hw227_8)⟩ (fun hHeld => ?_)
             clear hK K
             refine norm_ (a' := ?_) ?_ ?_
             rotate_left
             ·show Act.put _ (some 87) _ = _
              simp only [Act.put, List.setIfInBounds_toArray, List.set_cons_zero, List.set_cons_succ, i64_w, i32_w]
              rfl
             refine pure_ (i := 23) (N := some 88) #[true, true, true, true, true, true, true, true, true, true, true, true, true, true, true, true, true, true, true, true, true, true, true, true, false] rfl rfl (any_of HT_.out (by kernel_rfl)) (fun _ _ _ h => h) (Or.inl ⟨by rfl, fun w' => by go_simp; with_reducible rfl⟩) (by simp only [Act.put, List.setIfInBounds_toArray, List.set_cons_zero, List.set_cons_succ, i64_w, i32_w]; rfl) ?_
             refine last_ (i := 24) (N := none) #[true, true, true, true, true, true, true, true, true, true, true, true, true, true, true, true, true, true, true, true, true, true, true, true, true] rfl rfl (one_of HT_.out (by kernel_rfl)) (by decide) (fun K hK => ?_)
             have hs44 : w42.cell? ⟨gb216, 2, none⟩ = some (u217002) := (blk_cell BK216.out 2).trans rfl
             have hfs44 := blk_frozen BK216.out 2
             have hns44_0 := NB207_216.out
             have hns44_1 := NB213_216.out
             have hms44_0 := NB216_207.out
             have hms44_1 := NB216_213.out
             refine skip_ (w1 := ?_) (by rfl) rfl ?_ ?_
             rotate_left
             ·go_simp
              rfl
             refine hK.out _ _ ?_
             clear hK K
             refine done_ (done_of HT_.out (by kernel_rfl)) ?_
             try go_wp2
             have n0_ : Aside0 (Kd.R (Kd.int .i64) 2 (w42.setCell ⟨gb216, 2, none⟩ (.slice Ao43 y228.length co43)) w.heap.size (fun _ => True) v222 t220) := ⟨by (with_reducible repeat (first | apply Kd.R_alloc | apply Kd.R_drewN | apply Kd.R_drew)); exact Kd.R_mono (Kd.R_far (p := ⟨gb216, 2, none⟩) (Kd.R_types HO_13.out BK216.out (by decide)) (fun _ hk => hk.2) (.slice Ao43 y228.length co43)) (fun _ hk => trivial)⟩
             have n1_ : Aside0 (Kd.R k42 42 (w42.setCell ⟨gb216, 2, none⟩ (.slice Ao43 y228.length co43)) w.heap.size (fun _ => True) (.slice Ao43 y228.length co43) y228) := ⟨by (with_reducible repeat (first | apply Kd.R_alloc | apply Kd.R_drewN | apply Kd.R_drew)); exact Kd.R_mono (Kd.R_far (p := ⟨gb216, 2, none⟩) (Kd.R_types HO230.out BK216.out (by decide)) (fun _ hk => hk.2) (.slice Ao43 y228.length co43)) (fun _ hk => trivial)⟩
             have n2_ : Aside0 ((w42.setCell ⟨gb216, 2, none⟩ (.slice Ao43 y228.length co43)).heap[gb207]? = some (.cells #[.int .i64 0, .int .i64 0, .slice none 0 0, .bool false, .int .i64 0, .int .i64 0] 44 (0, 0))) := ⟨kf1_ BK207.out NB207_216.out⟩
             have n3_ : Aside0 ((w42.setCell ⟨gb216, 2, none⟩ (.slice Ao43 y228.length co43)).heap[gb213]? = some (.cells #[.int .i64 t208, .int .i64 t209, .int .i64 t210, .int .i64 t211] 56 (0, 0))) := ⟨kf1_ BK213.out NB213_216.out⟩
             have n4_ : Aside0 ((w42.setCell ⟨gb216, 2, none⟩ (.slice Ao43 y228.length co43)).heap[gb216]? = some (.cells #[.int .i64 t214, .int .i64 a2, .slice Ao43 y228.length co43, .bool ((rd_T40 l0 a2).f3), .int .i64 x217004_1, .int .i64 t211] 44 (0, 0))) := ⟨kp0_ BK216.out⟩
             have n5_ : Aside0 (Below w.heap.size w (w42.setCell ⟨gb216, 2, none⟩ (.slice Ao43 y228.length co43))) := ⟨bS3_ HB.out GE207.out GE213.out GE216.out⟩
             (try clear HO_13)
             (try clear HO230)
             (try clear BK207)
             (try clear BK213)
             (try clear BK216)
             (try clear HB)
             generalize (w42.setCell ⟨gb216, 2, none⟩ (.slice Ao43 y228.length co43)) = w45 at n0_ n1_ n2_ n3_ n4_ n5_ ⊢
             have HO_13 := n0_
             have HO230 := n1_
             have BK207 := n2_
             have BK213 := n3_
             have BK216 := n4_
             have HB := n5_
             clear n0_ n1_ n2_ n3_ n4_ n5_
             have n0_ := a_ (Kd.R_drew HO_13.out)
             have n1_ := a_ (Kd.R_drew HO230.out)
             have n2_ := a_ (blk_drew BK207.out)
             have n3_ := a_ (blk_drew BK213.out)
             have n4_ := a_ (blk_drew BK216.out)
             have n5_ := a_ (below_drew1 HB.out)
             clear HO_13
             clear HO230
             clear BK207
             clear BK213
             clear BK216
             clear HB
             have HO_13 := n0_
             have HO230 := n1_
             have BK207 := n2_
             have BK213 := n3_
             have BK216 := n4_
             have HB := n5_
             clear n0_ n1_ n2_ n3_ n4_ n5_
             obtain ⟨Ao47, co47, eo47⟩ := Kd.R_slice HO_13.out
             (first | subst eo47 | (injection eo47 with f1_ f2_ f3_; have f4_ := f1_.symm; have f5_ := f3_.symm; clear f1_ f2_ f3_; subst f4_; subst f5_))
             have p231 : 0 ≤ (x15_1 : Int) := od_
             have q231 : x15_1 < (t220.length : Int) := od_
             obtain ⟨ad231, e231, hx231_0⟩ := Kd.at_int (Kd.R_reads' HO_13.out).2.2 x15_1 p231 q231
             cases e231
             replace p231 := eq_true p231
             replace q231 := eq_true q231
             refine start_ (n := 9) (S := fun w' => w'.cell? ⟨gb216, 0, none⟩ = some (.int .i64 t214) ∧ w'.cell? ⟨gb216, 1, none⟩ = some (.int .i64 a2) ∧ w'.cell? ⟨gb216, 2, none⟩ = some (.slice Ao43 y228.length co43) ∧ w'.cell? ⟨gb216, 3, none⟩ = some (.bool ((rd_T40 l0 a2).f3)) ∧ w'.cell? ⟨gb216, 4, none⟩ = some (.int .i64 x217004_1) ∧ w'.cell? ⟨gb216, 5, none⟩ = some (.int .i64 t211) ∧ w'.cell? (ad231.add (x15_1).toNat) = some (.int .i64 (rd t220 x15_1))) (ds := [8]) #[false, false, false, false, false, false, false, false, false] (by kernel_rfl) rfl rfl ⟨(blk_cell BK216.out 0).trans rfl, (blk_cell BK216.out 1).trans rfl, (blk_cell BK216.out 2).trans rfl, (blk_cell BK216.out 3).trans rfl, (blk_cell BK216.out 4).trans rfl, (blk_cell BK216.out 5).trans rfl, hx231_0⟩ (fun hHeld => ?_); refine with_tabW setter_line.tab14 setter_line.bits14 (fun HT_ HW_ => ?_)
             generalize w45.drew = w46 at HO_13 HO230 BK207 BK213 BK216 HB hx231_0 hHeld ⊢
             refine pure_ (i := 0) (N := some 89) #[true, false, false, false, false, false, false, false, false] rfl rfl (any_of HT_.out (by kernel_rfl)) (fun _ _ _ h => h) (Or.inl ⟨by rfl, fun w' => by go_simp; with_reducible rfl⟩) (by simp only [Act.put, List.setIfInBounds_toArray, List.set_cons_zero, List.set_cons_succ, i64_w, i32_w]; rfl) ?_
             refine pure_ (i := 2) (N := some 91) #[true, false, true, false, false, false, false, false, false] rfl rfl (any_of HT_.out (by kernel_rfl)) (fun _ _ _ h => h) (Or.inl ⟨by rfl, fun w' => by go_simp; with_reducible rfl⟩) (by simp only [Act.put, List.setIfInBounds_toArray, List.set_cons_zero, List.set_cons_succ, i64_w, i32_w]; rfl) ?_
             refine pure_ (i := 3) (N := some 92) #[true, false, true, true, false, false, false, false, false] rfl rfl (any_of HT_.out (by kernel_rfl)) (fun _ _ _ h => h) (Or.inl ⟨by rfl, fun w' => by go_simp; with_reducible rfl⟩) (by simp only [Act.put, List.setIfInBounds_toArray, List.set_cons_zero, List.set_cons_succ, i64_w, i32_w]; rfl) ?_
             refine pure_ (i := 4) (N := some 93) #[true, false, true, true, true, false, false, false, false] rfl rfl (any_of HT_.out (by kernel_rfl)) (fun _ _ _ h => h) (Or.inl ⟨by rfl, fun w' => by go_simp; with_reducible rfl⟩) (by simp only [Act.put, List.setIfInBounds_toArray, List.set_cons_zero, List.set_cons_succ, i64_w, i32_w]; rfl) ?_
             refine take_ (i := 1) (N := some 90) (v := ?_) (a' := ?_) #[true, true, true, true, true, false, false, false, false] rfl rfl (take_ofW HT_.out HW_.out (by kernel_rfl)) (fun _ _ _ h => h) (Or.inl ⟨by rfl, ?_⟩) hHeld ?_ ?_
             rotate_left
             ·rintro w' ⟨s0, s1, s2, s3, s4, s5, s6⟩
              go_simp
              with_reducible rfl
             rotate_left
             ·simp only [Act.put, List.setIfInBounds_toArray, List.set_cons_zero, List.set_cons_succ, i64_w, i32_w]
              rfl
             refine take_ (i := 5) (N := some 94) (v := ?_) (a' := ?_) #[true, true, true, true, true, true, false, false, false] rfl rfl (take_ofW HT_.out HW_.out (by kernel_rfl)) (fun _ _ _ h => h) (Or.inl ⟨by rfl, ?_⟩) hHeld ?_ ?_
             rotate_left
             ·rintro w' ⟨s0, s1, s2, s3, s4, s5, s6⟩
              go_simp
              with_reducible rfl
             rotate_left
             ·simp only [Act.put, List.setIfInBounds_toArray, List.set_cons_zero, List.set_cons_succ, i64_w, i32_w]
              rfl
             refine pure_ (i := 6) (N := some 95) #[true, true, true, true, true, true, true, false, false] rfl rfl (any_of HT_.out (by kernel_rfl)) (fun _ _ _ h => h) (Or.inl ⟨by rfl, fun w' => by go_simp; with_reducible rfl⟩) (by simp only [Act.put, List.setIfInBounds_toArray, List.set_cons_zero, List.set_cons_succ, i64_w, i32_w]; rfl) ?_
             refine pure_ (i := 7) (N := some 96) #[true, true, true, true, true, true, true, true, false] rfl rfl (any_of HT_.out (by kernel_rfl)) (fun _ _ _ h => h) (Or.inl ⟨by rfl, fun w' => by go_simp; with_reducible rfl⟩) (by simp only [Act.put, List.setIfInBounds_toArray, List.set_cons_zero, List.set_cons_succ, i64_w, i32_w]; rfl) ?_
             refine last_ (i := 8) (N := none) #[true, true, true, true, true, true, true, true, true] rfl rfl (one_of HT_.out (by kernel_rfl)) (by decide) (fun K hK => ?_)
             have hs48 : w46.cell? ⟨gb216, 4, none⟩ = some (.int .i64 x217004_1) := (blk_cell BK216.out 4).trans rfl
             have hfs48 := blk_frozen BK216.out 4
             have hns48_0 := NB207_216.out
             have hns48_1 := NB213_216.out
             have hms48_0 := NB216_207.out
             have hms48_1 := NB216_213.out
             refine skip_ (w1 := ?_) (by rfl) rfl ?_ ?_
             rotate_left
             ·go_simp
              rfl
             refine hK.out _ _ ?_
             clear hK K
             refine done_ (done_of HT_.out (by kernel_rfl)) ?_
             try go_wp2
             go_roundg k1
             case measure => have := HK1.out; omega
             case rel => exact ⟨(wrap64 (x15_1 + 1)), (wrap64 (x16_1 + 1)), (y228), (wrap64 (x217004_1 + (rd t220 x15_1))), (.slice Ao43 y228.length co43), (by first | rfl | (simp; done) | (simp [*]; done)), (by first | rfl | (simp; done) | (simp [*]; done)), H', ⟨by have := HK1.out; omega⟩, ⟨by (with_reducible repeat (first | apply Kd.R_alloc | apply Kd.R_drewN | apply Kd.R_drew)); exact Kd.R_mono (Kd.R_far (p := ⟨gb216, 4, none⟩) (Kd.R_types HO_13.out BK216.out (by decide)) (fun _ hk => hk.2) (.int .i64 (wrap64 (x217004_1 + (rd t220 x15_1))))) (fun _ hk => trivial)⟩, ⟨by (with_reducible repeat (first | apply Kd.R_alloc | apply Kd.R_drewN | apply Kd.R_drew)); exact Kd.R_mono (Kd.R_far (p := ⟨gb216, 4, none⟩) (Kd.R_types HO230.out BK216.out (by decide)) (fun _ hk => hk.2) (.int .i64 (wrap64 (x217004_1 + (rd t220 x15_1))))) (fun _ hk => trivial)⟩, ⟨kf1_ BK207.out NB207_216.out⟩, ⟨kf1_ BK213.out NB213_216.out⟩, ⟨kp0_ BK216.out⟩, ⟨bS3_ HB.out GE207.out GE213.out GE216.out⟩⟩
            ·rw [if_neg c40] at H
             exact absurd H (by simp)
           ·rw [if_neg c39] at H
            exact absurd H (by simp)
          ·rw [if_neg c38] at H
           exact absurd H (by simp)
         ·rw [if_neg c37] at H
          have c37b0 : (((rd_T40 l0 x16_1).f0) == 0) = false := beq_eq_false_iff_ne.mpr c37
          have c37b1 : (((rd_T40 l0 x16_1).f0) != 0) = true := bne_iff_ne.mpr c37
          by_cases c49 : ((rd_T40 l0 x16_1).f0) = 1
          ·rw [if_pos c49] at H
           have c49b0 : (((rd_T40 l0 x16_1).f0) == 1) = true := beq_iff_eq.mpr c49
           have c49b1 : (((rd_T40 l0 x16_1).f0) != 1) = false := bne_eq_false_iff_eq.mpr c49
           clear c49
           by_cases c50 : 0 ≤ x15_1
           ·rw [if_pos c50] at H
            have c50b0 : decide (0 ≤ x15_1) = true := decide_eq_true c50
            clear c50
            by_cases c51 : x15_1 < (t220.length : Int)
            ·rw [if_pos c51] at H
             have c51b0 : decide (x15_1 < (t220.length : Int)) = true := decide_eq_true c51
             clear c51
             have H' := a_ H
             clear H
             have p224 : 0 ≤ (x16_1 : Int) := od_
             have q224 : x16_1 < (l0.length : Int) := od_
             obtain ⟨ad224, e224, hx224_0, hx224_1, hx224_2, hx224_3, hx224_4, hx224_5, hx224_6, hx224_7, hx224_8⟩ := at_T40 (Kd.C_below HR0.out HB.out) x16_1 p224 q224
             obtain rfl : ad215 = ad224 := (by injection e224)
             replace p224 := eq_true p224
             replace q224 := eq_true q224
             try go_wp2
             have n0_ := a_ (Kd.R_drew HO_13.out)
             have n1_ := a_ (Kd.R_drew HO_217002.out)
             have n2_ := a_ (blk_drew BK207.out)
             have n3_ := a_ (blk_drew BK213.out)
             have n4_ := a_ (blk_drew BK216.out)
             have n5_ := a_ (below_drew1 HB.out)
             clear HO_13
             clear HO_217002
             clear BK207
             clear BK213
             clear BK216
             clear HB
             have HO_13 := n0_
             have HO_217002 := n1_
             have BK207 := n2_
             have BK213 := n3_
             have BK216 := n4_
             have HB := n5_
             clear n0_ n1_ n2_ n3_ n4_ n5_
             obtain ⟨Ao53, co53, eo53⟩ := Kd.R_slice HO_13.out
             (first | subst eo53 | (injection eo53 with f1_ f2_ f3_; have f4_ := f1_.symm; have f5_ := f3_.symm; clear f1_ f2_ f3_; subst f4_; subst f5_))
             have p232 : 0 ≤ (x15_1 : Int) := od_
             have q232 : x15_1 < (t220.length : Int) := od_
             obtain ⟨ad232, e232, hx232_0⟩ := Kd.at_int (Kd.R_reads' HO_13.out).2.2 x15_1 p232 q232
             cases e232
             replace p232 := eq_true p232
             replace q232 := eq_true q232
             refine start_ (n := 9) (S := fun w' => w'.cell? ⟨gb216, 0, none⟩ = some (.int .i64 t214) ∧ w'.cell? ⟨gb216, 1, none⟩ = some (.int .i64 a2) ∧ w'.cell? ⟨gb216, 2, none⟩ = some (u217002) ∧ w'.cell? ⟨gb216, 3, none⟩ = some (.bool ((rd_T40 l0 a2).f3)) ∧ w'.cell? ⟨gb216, 4, none⟩ = some (.int .i64 x217004_1) ∧ w'.cell? ⟨gb216, 5, none⟩ = some (.int .i64 t211) ∧ w'.cell? (ad232.add (x15_1).toNat) = some (.int .i64 (rd t220 x15_1))) (ds := [8]) #[false, false, false, false, false, false, false, false, false] (by kernel_rfl) rfl rfl ⟨(blk_cell BK216.out 0).trans rfl, (blk_cell BK216.out 1).trans rfl, (blk_cell BK216.out 2).trans rfl, (blk_cell BK216.out 3).trans rfl, (blk_cell BK216.out 4).trans rfl, (blk_cell BK216.out 5).trans rfl, hx232_0⟩ (fun hHeld => ?_); refine with_tabW setter_line.tab14 setter_line.bits14 (fun HT_ HW_ => ?_)
             generalize wr.drew = w52 at HO_13 HO_217002 BK207 BK213 BK216 HB hx232_0 hHeld ⊢
             refine pure_ (i := 0) (N := some 89) #[true, false, false, false, false, false, false, false, false] rfl rfl (any_of HT_.out (by kernel_rfl)) (fun _ _ _ h => h) (Or.inl ⟨by rfl, fun w' => by go_simp; with_reducible rfl⟩) (by simp only [Act.put, List.setIfInBounds_toArray, List.set_cons_zero, List.set_cons_succ, i64_w, i32_w]; rfl) ?_
             refine pure_ (i := 2) (N := some 91) #[true, false, true, false, false, false, false, false, false] rfl rfl (any_of HT_.out (by kernel_rfl)) (fun _ _ _ h => h) (Or.inl ⟨by rfl, fun w' => by go_simp; with_reducible rfl⟩) (by simp only [Act.put, List.setIfInBounds_toArray, List.set_cons_zero, List.set_cons_succ, i64_w, i32_w]; rfl) ?_
             refine pure_ (i := 3) (N := some 92) #[true, false, true, true, false, false, false, false, false] rfl rfl (any_of HT_.out (by kernel_rfl)) (fun _ _ _ h => h) (Or.inl ⟨by rfl, fun w' => by go_simp; with_reducible rfl⟩) (by simp only [Act.put, List.setIfInBounds_toArray, List.set_cons_zero, List.set_cons_succ, i64_w, i32_w]; rfl) ?_
             refine pure_ (i := 4) (N := some 93) #[true, false, true, true, true, false, false, false, false] rfl rfl (any_of HT_.out (by kernel_rfl)) (fun _ _ _ h => h) (Or.inl ⟨by rfl, fun w' => by go_simp; with_reducible rfl⟩) (by simp only [Act.put, List.setIfInBounds_toArray, List.set_cons_zero, List.set_cons_succ, i64_w, i32_w]; rfl) ?_
             refine take_ (i := 1) (N := some 90) (v := ?_) (a' := ?_) #[true, true, true, true, true, false, false, false, false] rfl rfl (take_ofW HT_.out HW_.out (by kernel_rfl)) (fun _ _ _ h => h) (Or.inl ⟨by rfl, ?_⟩) hHeld ?_ ?_
             rotate_left
             ·rintro w' ⟨s0, s1, s2, s3, s4, s5, s6⟩
              go_simp
              with_reducible rfl
             rotate_left
             ·simp only [Act.put, List.setIfInBounds_toArray, List.set_cons_zero, List.set_cons_succ, i64_w, i32_w]
              rfl
             refine take_ (i := 5) (N := some 94) (v := ?_) (a' := ?_) #[true, true, true, true, true, true, false, false, false] rfl rfl (take_ofW HT_.out HW_.out (by kernel_rfl)) (fun _ _ _ h => h) (Or.inl ⟨by rfl, ?_⟩) hHeld ?_ ?_
             rotate_left
             ·rintro w' ⟨s0, s1, s2, s3, s4, s5, s6⟩
              go_simp
              with_reducible rfl
             rotate_left
             ·simp only [Act.put, List.setIfInBounds_toArray, List.set_cons_zero, List.set_cons_succ, i64_w, i32_w]
              rfl
             refine pure_ (i := 6) (N := some 95) #[true, true, true, true, true, true, true, false, false] rfl rfl (any_of HT_.out (by kernel_rfl)) (fun _ _ _ h => h) (Or.inl ⟨by rfl, fun w' => by go_simp; with_reducible rfl⟩) (by simp only [Act.put, List.setIfInBounds_toArray, List.set_cons_zero, List.set_cons_succ, i64_w, i32_w]; rfl) ?_
             refine pure_ (i := 7) (N := some 96) #[true, true, true, true, true, true, true, true, false] rfl rfl (any_of HT_.out (by kernel_rfl)) (fun _ _ _ h => h) (Or.inl ⟨by rfl, fun w' => by go_simp; with_reducible rfl⟩) (by simp only [Act.put, List.setIfInBounds_toArray, List.set_cons_zero, List.set_cons_succ, i64_w, i32_w]; rfl) ?_
             refine last_ (i := 8) (N := none) #[true, true, true, true, true, true, true, true, true] rfl rfl (one_of HT_.out (by kernel_rfl)) (by decide) (fun K hK => ?_)
             have hs54 : w52.cell? ⟨gb216, 4, none⟩ = some (.int .i64 x217004_1) := (blk_cell BK216.out 4).trans rfl
             have hfs54 := blk_frozen BK216.out 4
             have hns54_0 := NB207_216.out
             have hns54_1 := NB213_216.out
             have hms54_0 := NB216_207.out
             have hms54_1 := NB216_213.out
             refine skip_ (w1 := ?_) (by rfl) rfl ?_ ?_
             rotate_left
             ·go_simp
              rfl
             refine hK.out _ _ ?_
             clear hK K
             refine done_ (done_of HT_.out (by kernel_rfl)) ?_
             try go_wp2
             go_roundg k1
             case measure => have := HK1.out; omega
             case rel => exact ⟨(wrap64 (x15_1 + 1)), (wrap64 (x16_1 + 1)), (x217002_1), (wrap64 (x217004_1 + (rd t220 x15_1))), (u217002), (by first | rfl | (simp; done) | (simp [*]; done)), (by first | rfl | (simp; done) | (simp [*]; done)), H', ⟨by have := HK1.out; omega⟩, ⟨by (with_reducible repeat (first | apply Kd.R_alloc | apply Kd.R_drewN | apply Kd.R_drew)); exact Kd.R_mono (Kd.R_far (p := ⟨gb216, 4, none⟩) (Kd.R_types HO_13.out BK216.out (by decide)) (fun _ hk => hk.2) (.int .i64 (wrap64 (x217004_1 + (rd t220 x15_1))))) (fun _ hk => trivial)⟩, ⟨by (with_reducible repeat (first | apply Kd.R_alloc | apply Kd.R_drewN | apply Kd.R_drew)); exact Kd.R_mono (Kd.R_far (p := ⟨gb216, 4, none⟩) (Kd.R_types HO_217002.out BK216.out (by decide)) (fun _ hk => hk.2) (.int .i64 (wrap64 (x217004_1 + (rd t220 x15_1))))) (fun _ hk => trivial)⟩, ⟨kf1_ BK207.out NB207_216.out⟩, ⟨kf1_ BK213.out NB213_216.out⟩, ⟨kp0_ BK216.out⟩, ⟨bS3_ HB.out GE207.out GE213.out GE216.out⟩⟩
            ·rw [if_neg c51] at H
             exact absurd H (by simp)
           ·rw [if_neg c50] at H
            exact absurd H (by simp)
          ·rw [if_neg c49] at H
           have c49b0 : (((rd_T40 l0 x16_1).f0) == 1) = false := beq_eq_false_iff_ne.mpr c49
           have c49b1 : (((rd_T40 l0 x16_1).f0) != 1) = true := bne_iff_ne.mpr c49
           have H' := a_ H
           clear H
           have p224 : 0 ≤ (x16_1 : Int) := od_
           have q224 : x16_1 < (l0.length : Int) := od_
           obtain ⟨ad224, e224, hx224_0, hx224_1, hx224_2, hx224_3, hx224_4, hx224_5, hx224_6, hx224_7, hx224_8⟩ := at_T40 (Kd.C_below HR0.out HB.out) x16_1 p224 q224
           obtain rfl : ad215 = ad224 := (by injection e224)
           replace p224 := eq_true p224
           replace q224 := eq_true q224
           go_wp2
           go_roundg k1
           case measure => have := HK1.out; omega
           case rel => exact ⟨(x15_1), (wrap64 (x16_1 + 1)), (x217002_1), (x217004_1), (u217002), (by first | rfl | (simp; done) | (simp [*]; done)), (by first | rfl | (simp; done) | (simp [*]; done)), H', ⟨by have := HK1.out; omega⟩, ⟨by (with_reducible repeat (first | apply Kd.R_alloc | apply Kd.R_drewN | apply Kd.R_drew)); exact HO_13.out⟩, ⟨by (with_reducible repeat (first | apply Kd.R_alloc | apply Kd.R_drewN | apply Kd.R_drew)); exact HO_217002.out⟩, ⟨kv_ BK207.out⟩, ⟨kv_ BK213.out⟩, ⟨kv_ BK216.out⟩, ⟨bS3_ HB.out GE207.out GE213.out GE216.out⟩⟩
        ·rw [if_neg c36] at H
         exact absurd H (by simp)
       ·rw [if_neg c35] at H
        exact absurd H (by simp)
      ·rw [if_neg c34] at H
       have c34b0 : decide (x16_1 < a2) = false := decide_eq_false c34
       clear c34
       simp only [Option.some.injEq, Prod.mk.injEq] at H
       obtain ⟨rfl, rfl, rfl, rfl, rfl, rfl, rfl⟩ := H
       have hnb55 := NB216_207.out
       have hnc55 := NB207_216.out
       have hnb56 := NB216_213.out
       have hnc56 := NB213_216.out
       obtain ⟨⟨Z57_0, Y57_0⟩, ⟨Z57_1, Y57_1⟩, ⟨Z57_2, Y57_2⟩, ⟨Z57_3, Y57_3⟩, ⟨Z57_4, Y57_4⟩, Z57_5, Y57_5⟩ := cs6_ BK216.out
       have hnb58 := NB207_213.out
       have hnc58 := NB213_207.out
       obtain ⟨⟨Z59_0, Y59_0⟩, ⟨Z59_1, Y59_1⟩, ⟨Z59_2, Y59_2⟩, ⟨Z59_3, Y59_3⟩, ⟨Z59_4, Y59_4⟩, Z59_5, Y59_5⟩ := cs6_ BK207.out
       obtain ⟨Ao60, co60, eo60⟩ := Kd.R_slice HO_217002.out
       subst eo60
       go_wp2
       refine bodyPost_ret (results_ct rfl _ _ gb207 44 #[.int .i64 t214, .int .i64 a2, .slice Ao60 x217002_1.length co60, .bool ((rd_T40 l0 a2).f3), .int .i64 x217004_1, .int .i64 t211] (0, 0) _ rfl (kp0_ BK207.out) Try.underlying44 rfl (by kernel_rfl)) rfl ?_
       exact ⟨_, by first | rfl | (simp [errW_none, errW_some] <;> rfl) | (simp [*, errW_none, errW_some] <;> rfl), by (with_reducible repeat (first | apply Kd.R_alloc | apply Kd.R_drewN | apply Kd.R_drew)); exact Kd.R_mono (Kd.R_far (p := ⟨gb207, 5, none⟩) (Kd.R_far (p := ⟨gb207, 4, none⟩) (Kd.R_far (p := ⟨gb207, 3, none⟩) (Kd.R_far (p := ⟨gb207, 2, none⟩) (Kd.R_far (p := ⟨gb207, 1, none⟩) (Kd.R_far (p := ⟨gb207, 0, none⟩) (Kd.R_types HO_217002.out BK207.out (by decide)) (fun _ hk => hk.2) (.int .i64 t214)) (fun _ hk => hk.2) (.int .i64 a2)) (fun _ hk => hk.2) (.slice Ao60 x217002_1.length co60)) (fun _ hk => hk.2) (.bool ((rd_T40 l0 a2).f3))) (fun _ hk => hk.2) (.int .i64 x217004_1)) (fun _ hk => hk.2) (.int .i64 t211)) (fun _ hk => trivial), bS3_ HB.out GE207.out GE213.out GE216.out⟩
   ·rw [if_neg c9] at H
    exact absurd H (by simp)
  ·rw [if_neg c8] at H
   exact absurd H (by simp)
 ·replace c6 := Bool.eq_false_iff.mpr c6
  subst c6
  have H1 : (some (0, 0, ([] : List (S42)), false, 0, 0, false)) = some (r1, r2, r3, r4, r5, r6, r7) := by rw [if_neg (show ¬ (false = true) by decide)] at H; exact H
  clear H
  have H := H1
  clear H1
  simp only [Option.some.injEq, Prod.mk.injEq] at H
  obtain ⟨rfl, rfl, rfl, rfl, rfl, rfl, rfl⟩ := H
  go_enter Try.func19, Try.ntmps19
  go_wp2_with (first | ((with_reducible refine gate_dst (N := 8) rfl ?_); refine box_event ?hg (N := 8) ?hd (cs := #[.int .i64 0, .int .i64 0, .slice none 0 0, .bool false, .int .i64 0, .int .i64 0]) (t := 44) ?hr ?_; (case hd => rfl); (case hg => rfl); (case hr => first | (go_simp; done) | (go_simp; rfl)); intro gb207 hg w61 hbox hb; have n0_ := a_ (bs_ HB.out hb); have n1_ := a_ (hbox); have n2_ := a_ ((by rw [hg]; exact (below_size (bv_ HB.out)) : w.heap.size ≤ gb207)); have n3_ := a_ ((by rw [hg]; exact (below_size (bv_ HB.out)) : w.heap.size ≤ gb207)); clear HB; have HB := n0_; have BK207 := n1_; have GW207 := n2_; have GE207 := n3_; clear n0_ n1_ n2_ n3_; clear hb hbox hg) | ((with_reducible refine gate_callee (f := 28) rfl ?_); refine gl_ (some 22) Try.func28 (by kernel_rfl) #[.slice A0 l0.length c0, .int .i64 a1, .int .i64 a2, .int .i64 a3] ?_; (with_reducible refine (demerit_Line.calls k _ _ l0 a1 a2 a3 t208 t209 t210 t211 false _ ?side1 ?side2 A5.out).mono ?_); (case side1 => exact cw_ HR0.out HB.out); (case side2 => exact HC0.out); rintro e w62 ⟨rfl, hb⟩; refine ⟨_, rfl, ?_⟩; have n0_ := a_ (kb_ BK207.out hb); have n1_ := a_ (below_step (bS1_ HB.out GE207.out) hb); clear BK207; clear HB; have BK207 := n0_; have HB := n1_; clear n0_ n1_; (try clear hb); (try clear hb2); (try clear hk); (try clear hi)) | ((with_reducible refine gate_dst (N := 10) rfl ?_); refine box_event ?hg (N := 10) ?hd (cs := #[.int .i64 0, .int .i64 0, .int .i64 0, .int .i64 0]) (t := 56) ?hr ?_; (case hd => rfl); (case hg => rfl); (case hr => first | (go_simp; done) | (go_simp; rfl)); intro gb213 hg w63 hbox hb; have n0_ := a_ (kb_ BK207.out hb); have n1_ := a_ (below_step (bS1_ HB.out GE207.out) hb); have n2_ := a_ (hbox); have n3_ := a_ ((by rw [hg]; exact (below_size (bS1_ HB.out GE207.out)) : w.heap.size ≤ gb213)); have n4_ := a_ ((by rw [hg]; exact (below_size (bS1_ HB.out GE207.out)) : w.heap.size ≤ gb213)); have n5_ := a_ ((by rw [hg]; exact Nat.ne_of_lt (blk_lt (kv_ BK207.out)) : gb207 ≠ gb213)); have n6_ := a_ ((by rw [hg]; exact Nat.ne_of_gt (blk_lt (kv_ BK207.out)) : gb213 ≠ gb207)); clear BK207; clear HB; have BK207 := n0_; have HB := n1_; have BK213 := n2_; have GW213 := n3_; have GE213 := n4_; have NB207_213 := n5_; have NB213_207 := n6_; clear n0_ n1_ n2_ n3_ n4_ n5_ n6_; clear hb hbox hg; have hnb64 := NB213_207.out; have hnc64 := NB207_213.out; obtain ⟨⟨Z65_0, Y65_0⟩, ⟨Z65_1, Y65_1⟩, ⟨Z65_2, Y65_2⟩, Z65_3, Y65_3⟩ := cs4_ BK213.out; obtain ⟨⟨Z66_0, Y66_0⟩, ⟨Z66_1, Y66_1⟩, ⟨Z66_2, Y66_2⟩, ⟨Z66_3, Y66_3⟩, ⟨Z66_4, Y66_4⟩, Z66_5, Y66_5⟩ := cs6_ BK207.out))
  refine bodyPost_ret (results_ct rfl _ _ gb207 44 #[.int .i64 0, .int .i64 0, .slice none 0 0, .bool false, .int .i64 0, .int .i64 0] (0, 0) _ rfl (kp1_ BK207.out NB207_213.out) Try.underlying44 rfl (by kernel_rfl)) rfl ?_
  exact ⟨_, by first | rfl | (simp [errW_none, errW_some] <;> rfl) | (simp [*, errW_none, errW_some] <;> rfl), by first | exact Kd.R_nil _ _ _ _ _ | exact Kd.N_nil _ _ _ _ _ | exact Kd.V_nil _ _ _ _ _ | exact Kd.Q_nil _ _ _ _ _ | exact Kd.S_nil _ _ _ _ _, bS2_ HB.out GE207.out GE213.out⟩

end Go.Proofs.Ytpfnfofaajpdmaa.PWi

/- Written by a program of this session: functions of the given program as plain Lean functions, the walks that show it, and the row of each law, for every input that its statement speaks of. -/
import Derived.Test.YtpfnfofaajpdmaaPWix0
import Derived.Test.YtpfnfofaajpdmaaPWix12
import Derived.Test.YtpfnfofaajpdmaaPWix13
namespace Go.Proofs.Ytpfnfofaajpdmaa.PWi
open Go.RowKit Go.Proofs.YtpfnfofaajpdmaaW.PrintWords Go.Proofs.YtpfnfofaajpdmaaW.PrintLast Go.Proofs.YtpfnfofaajpdmaaW.PrintMore
attribute [local go_sem] max2_int min2_int max_two min_two max_three min_three max_four min_four   -- for this text's walks alone
set_option linter.unusedVariables false
set_option linter.unusedSimpArgs false

/-! ### variorumref09_Right: function 22 -/
mutual
def variorumref09_Right.j0 : Nat → Bool → Int → Int → Int → Int → Int → Int → Bool → Int → Int → Int → Int → Int → Int → Option (Bool)
 | 0, _, _, _, _, _, _, _, _, _, _, _, _, _, _ => none
 | k + 1, x4, x313000, x313001, x313002, x313003, x313004, x313005, x313006, x313007, x313008, x314000, x314001, x314002, x314003 => if x4 = true then (if x314001 = 0 then (if x314002 = 0 then (variorumref09_Right.j1 k (x314003 == 0) x313000 x313001 x313002 x313003 x313004 x313005 x313006 x313007 x313008 x314000 x314001 x314002 x314003) else (variorumref09_Right.j1 k false x313000 x313001 x313002 x313003 x313004 x313005 x313006 x313007 x313008 x314000 x314001 x314002 x314003)) else (variorumref09_Right.j1 k false x313000 x313001 x313002 x313003 x313004 x313005 x313006 x313007 x313008 x314000 x314001 x314002 x314003)) else (variorumref09_Right.j1 k false x313000 x313001 x313002 x313003 x313004 x313005 x313006 x313007 x313008 x314000 x314001 x314002 x314003)
def variorumref09_Right.j1 : Nat → Bool → Int → Int → Int → Int → Int → Int → Bool → Int → Int → Int → Int → Int → Int → Option (Bool)
 | 0, _, _, _, _, _, _, _, _, _, _, _, _, _, _ => none
 | k + 1, x5, x313000, x313001, x313002, x313003, x313004, x313005, x313006, x313007, x313008, x314000, x314001, x314002, x314003 => if x313000 = 0 then (if x5 = true then (if x313005 = 0 then (if x313006 = true then (some false) else (if x313007 ≥ 0 then (some (decide (x313008 ≥ 0))) else (some false))) else (some false)) else (some false)) else (if x313007 = 0 then (variorumref09_Right.j2 k x5 (x313008 != 0) x313000 x313001 x313002 x313003 x313004 x313005 x313006 x313007 x313008 x314000 x314001 x314002 x314003) else (variorumref09_Right.j2 k x5 true x313000 x313001 x313002 x313003 x313004 x313005 x313006 x313007 x313008 x314000 x314001 x314002 x314003))
def variorumref09_Right.j2 : Nat → Bool → Bool → Int → Int → Int → Int → Int → Int → Bool → Int → Int → Int → Int → Int → Int → Option (Bool)
 | 0, _, _, _, _, _, _, _, _, _, _, _, _, _, _, _ => none
 | k + 1, x5, x63, x313000, x313001, x313002, x313003, x313004, x313005, x313006, x313007, x313008, x314000, x314001, x314002, x314003 => if x63 = true then (some false) else (if x313000 = 1 then ((variorumref03_May.f k (([(⟨x314000, x314001, x314002, x314003⟩ : S38)] : List (S38)))).bind fun t318 => (if t318 = true then (if x314000 ≥ x314002 then (if x313005 = 0 then (some (!x313006)) else (some false)) else (some false)) else (some false))) else (if x313000 = 2 then (if x5 = true then (if x313005 ≥ (-10000) then (some (decide (x313005 ≤ 10000))) else (some false)) else (some false)) else (some false)))
end
def variorumref09_Right.f (k : Nat) (a0_0 : Int) (a0_1 : Int) (a0_2 : Int) (a0_3 : Int) (a0_4 : Int) (a0_5 : Int) (a0_6 : Bool) (a0_7 : Int) (a0_8 : Int) : Option (Bool) := if a0_1 ≥ 0 then ((variorumref02_Fits.f a0_1).bind fun t314 => (variorumref09_Right.j0 k t314 a0_0 a0_1 a0_2 a0_3 a0_4 a0_5 a0_6 a0_7 a0_8 a0_1 a0_2 a0_3 a0_4)) else (variorumref09_Right.j0 k false a0_0 a0_1 a0_2 a0_3 a0_4 a0_5 a0_6 a0_7 a0_8 a0_1 a0_2 a0_3 a0_4)
theorem variorumref09_Right.mono_l : ∀ k, (∀ y0 y1 y2 y3 y4 y5 y6 y7 y8 y9 y10 y11 y12 y13, LeO (variorumref09_Right.j0 k y0 y1 y2 y3 y4 y5 y6 y7 y8 y9 y10 y11 y12 y13) (variorumref09_Right.j0 (k + 1) y0 y1 y2 y3 y4 y5 y6 y7 y8 y9 y10 y11 y12 y13)) ∧ (∀ y0 y1 y2 y3 y4 y5 y6 y7 y8 y9 y10 y11 y12 y13, LeO (variorumref09_Right.j1 k y0 y1 y2 y3 y4 y5 y6 y7 y8 y9 y10 y11 y12 y13) (variorumref09_Right.j1 (k + 1) y0 y1 y2 y3 y4 y5 y6 y7 y8 y9 y10 y11 y12 y13)) ∧ (∀ y0 y1 y2 y3 y4 y5 y6 y7 y8 y9 y10 y11 y12 y13 y14, LeO (variorumref09_Right.j2 k y0 y1 y2 y3 y4 y5 y6 y7 y8 y9 y10 y11 y12 y13 y14) (variorumref09_Right.j2 (k + 1) y0 y1 y2 y3 y4 y5 y6 y7 y8 y9 y10 y11 y12 y13 y14))
 | 0 => ⟨fun _ _ _ _ _ _ _ _ _ _ _ _ _ _ r h => by simp [variorumref09_Right.j0] at h, fun _ _ _ _ _ _ _ _ _ _ _ _ _ _ r h => by simp [variorumref09_Right.j1] at h, fun _ _ _ _ _ _ _ _ _ _ _ _ _ _ _ r h => by simp [variorumref09_Right.j2] at h⟩
 | k + 1 => by
  obtain ⟨ih0, ih1, ih2⟩ := variorumref09_Right.mono_l k
  refine ⟨?_, ?_, ?_⟩
  ·intro y0 y1 y2 y3 y4 y5 y6 y7 y8 y9 y10 y11 y12 y13
   unfold variorumref09_Right.j0
   repeat' first | (with_reducible first | exact ih0 _ _ _ _ _ _ _ _ _ _ _ _ _ _ | exact ih1 _ _ _ _ _ _ _ _ _ _ _ _ _ _ | exact ih2 _ _ _ _ _ _ _ _ _ _ _ _ _ _ _ | exact variorumref03_May.mono _ _ | exact LeO.refl _ | exact LeO.none _ | refine LeO.ite ?_ ?_ | refine LeO.bind ?_ (fun _ => ?_)) | exact LeO.none _ | refine LeO.ite ?_ ?_ | refine LeO.bind ?_ (fun _ => ?_)
  ·intro y0 y1 y2 y3 y4 y5 y6 y7 y8 y9 y10 y11 y12 y13
   unfold variorumref09_Right.j1
   repeat' first | (with_reducible first | exact ih0 _ _ _ _ _ _ _ _ _ _ _ _ _ _ | exact ih1 _ _ _ _ _ _ _ _ _ _ _ _ _ _ | exact ih2 _ _ _ _ _ _ _ _ _ _ _ _ _ _ _ | exact variorumref03_May.mono _ _ | exact LeO.refl _ | exact LeO.none _ | refine LeO.ite ?_ ?_ | refine LeO.bind ?_ (fun _ => ?_)) | exact LeO.none _ | refine LeO.ite ?_ ?_ | refine LeO.bind ?_ (fun _ => ?_)
  ·intro y0 y1 y2 y3 y4 y5 y6 y7 y8 y9 y10 y11 y12 y13 y14
   unfold variorumref09_Right.j2
   repeat' first | (with_reducible first | exact ih0 _ _ _ _ _ _ _ _ _ _ _ _ _ _ | exact ih1 _ _ _ _ _ _ _ _ _ _ _ _ _ _ | exact ih2 _ _ _ _ _ _ _ _ _ _ _ _ _ _ _ | exact variorumref03_May.mono _ _ | exact LeO.refl _ | exact LeO.none _ | refine LeO.ite ?_ ?_ | refine LeO.bind ?_ (fun _ => ?_)) | exact LeO.none _ | refine LeO.ite ?_ ?_ | refine LeO.bind ?_ (fun _ => ?_)
theorem variorumref09_Right.mono : ∀ a0 a1 a2 a3 a4 a5 a6 a7 a8 k, LeO (variorumref09_Right.f k a0 a1 a2 a3 a4 a5 a6 a7 a8) (variorumref09_Right.f (k + 1) a0 a1 a2 a3 a4 a5 a6 a7 a8) := by
 intro a0 a1 a2 a3 a4 a5 a6 a7 a8 k
 obtain ⟨ih0, ih1, ih2⟩ := variorumref09_Right.mono_l k
 unfold variorumref09_Right.f
 repeat' first
   | (with_reducible exact ih0 _ _ _ _ _ _ _ _ _ _ _ _ _ _)
   | (with_reducible exact ih1 _ _ _ _ _ _ _ _ _ _ _ _ _ _)
   | (with_reducible exact ih2 _ _ _ _ _ _ _ _ _ _ _ _ _ _ _)
   | (with_reducible exact variorumref03_May.mono _ _)
   | (with_reducible exact LeO.refl _)
   | (with_reducible exact LeO.none _)
   | (with_reducible refine LeO.ite ?_ ?_)
   | (with_reducible refine LeO.bind ?_ (fun _ => ?_))
   | exact ih0 _ _ _ _ _ _ _ _ _ _ _ _ _ _
   | exact ih1 _ _ _ _ _ _ _ _ _ _ _ _ _ _
   | exact ih2 _ _ _ _ _ _ _ _ _ _ _ _ _ _ _
   | exact variorumref03_May.mono _ _
   | exact LeO.none _
   | refine LeO.ite ?_ ?_
   | refine LeO.bind ?_ (fun _ => ?_)
set_option maxHeartbeats 8000000 in
set_option maxRecDepth 100000 in
theorem variorumref09_Right.calls (k : Nat) (a0_0 : Int) (a0_1 : Int) (a0_2 : Int) (a0_3 : Int) (a0_4 : Int) (a0_5 : Int) (a0_6 : Bool) (a0_7 : Int) (a0_8 : Int) (r : Bool) (w : World) (h : variorumref09_Right.f k a0_0 a0_1 a0_2 a0_3 a0_4 a0_5 a0_6 a0_7 a0_8 = some r) :
  Calls Try.prog 22 #[.agg #[.int .i64 a0_0, .int .i64 a0_1, .int .i64 a0_2, .int .i64 a0_3, .int .i64 a0_4, .int .i64 a0_5, .bool a0_6, .int .i64 a0_7, .int .i64 a0_8]] w fun e w' => e = .returned (.bool r) ∧ Below w.heap.size w w' := by
 have hu40 := Try.underlying40
 have hu38 := Try.underlying38
 have HB := a_ (Below.refl w.heap.size w)
 have H : (if a0_1 ≥ 0 then ((variorumref02_Fits.f a0_1).bind fun t314 => (variorumref09_Right.j0 k t314 a0_0 a0_1 a0_2 a0_3 a0_4 a0_5 a0_6 a0_7 a0_8 a0_1 a0_2 a0_3 a0_4)) else (variorumref09_Right.j0 k false a0_0 a0_1 a0_2 a0_3 a0_4 a0_5 a0_6 a0_7 a0_8 a0_1 a0_2 a0_3 a0_4)) = some r := h
 clear h
 have HC2 := a_ H
 clear H
 go_enter Try.func22, Try.ntmps22
 go_upto_region 2 with (first | ((with_reducible refine gate_dst (N := 1) rfl ?_); refine box_event ?hg (N := 1) ?hd (cs := #[.int .i64 a0_0, .int .i64 a0_1, .int .i64 a0_2, .int .i64 a0_3, .int .i64 a0_4, .int .i64 a0_5, .bool a0_6, .int .i64 a0_7, .int .i64 a0_8]) (t := 40) ?hr ?_; (case hd => rfl); (case hg => rfl); (case hr => first | (go_simp; done) | (go_simp; rfl)); intro gb312 hg w3 hbox hb; have n0_ := a_ (bs_ HB.out hb); have n1_ := a_ (hbox); have n2_ := a_ ((by rw [hg]; exact (below_size (bv_ HB.out)) : w.heap.size ≤ gb312)); have n3_ := a_ ((by rw [hg]; exact (below_size (bv_ HB.out)) : w.heap.size ≤ gb312)); clear HB; have HB := n0_; have BK312 := n1_; have GW312 := n2_; have GE312 := n3_; clear n0_ n1_ n2_ n3_; clear hb hbox hg; obtain ⟨⟨Z4_0, Y4_0⟩, ⟨Z4_1, Y4_1⟩, ⟨Z4_2, Y4_2⟩, ⟨Z4_3, Y4_3⟩, ⟨Z4_4, Y4_4⟩, ⟨Z4_5, Y4_5⟩, ⟨Z4_6, Y4_6⟩, ⟨Z4_7, Y4_7⟩, Z4_8, Y4_8⟩ := cs9_ BK312.out) | ((with_reducible refine gate_dst (N := 3) rfl ?_); refine box_event ?hg (N := 3) ?hd (cs := #[.int .i64 0, .int .i64 0, .int .i64 0, .int .i64 0]) (t := 38) ?hr ?_; (case hd => rfl); (case hg => rfl); (case hr => first | (go_simp; done) | (go_simp; rfl)); intro gb313 hg w5 hbox hb; have n0_ := a_ (kb_ BK312.out hb); have n1_ := a_ (below_step (bS1_ HB.out GE312.out) hb); have n2_ := a_ (hbox); have n3_ := a_ ((by rw [hg]; exact (below_size (bS1_ HB.out GE312.out)) : w.heap.size ≤ gb313)); have n4_ := a_ ((by rw [hg]; exact (below_size (bS1_ HB.out GE312.out)) : w.heap.size ≤ gb313)); have n5_ := a_ ((by rw [hg]; exact Nat.ne_of_lt (blk_lt (kv_ BK312.out)) : gb312 ≠ gb313)); have n6_ := a_ ((by rw [hg]; exact Nat.ne_of_gt (blk_lt (kv_ BK312.out)) : gb313 ≠ gb312)); clear BK312; clear HB; have BK312 := n0_; have HB := n1_; have BK313 := n2_; have GW313 := n3_; have GE313 := n4_; have NB312_313 := n5_; have NB313_312 := n6_; clear n0_ n1_ n2_ n3_ n4_ n5_ n6_; clear hb hbox hg; have hnb6 := NB313_312.out; have hnc6 := NB312_313.out; obtain ⟨⟨Z7_0, Y7_0⟩, ⟨Z7_1, Y7_1⟩, ⟨Z7_2, Y7_2⟩, Z7_3, Y7_3⟩ := cs4_ BK313.out))
 (try simp only [Act.put, List.setIfInBounds_toArray, List.set_cons_zero, List.set_cons_succ])
 go_cut [4] (fun v4 wc => ∃ (kq : Nat) (x4_1 : Bool), v4 = .bool x4_1 ∧ Aside0 (variorumref09_Right.j0 kq x4_1 a0_0 a0_1 a0_2 a0_3 a0_4 a0_5 a0_6 a0_7 a0_8 a0_1 a0_2 a0_3 a0_4 = some r) ∧ Aside0 (kq ≤ k) ∧ Aside0 (wc.heap[gb312]? = some (.cells #[.int .i64 a0_0, .int .i64 a0_1, .int .i64 a0_2, .int .i64 a0_3, .int .i64 a0_4, .int .i64 a0_5, .bool a0_6, .int .i64 a0_7, .int .i64 a0_8] 40 (0, 0))) ∧ Aside0 (wc.heap[gb313]? = some (.cells #[.int .i64 a0_1, .int .i64 a0_2, .int .i64 a0_3, .int .i64 a0_4] 38 (0, 0))) ∧ Aside0 (Below w.heap.size w wc))
 case first =>
  have H := HC2.out
  clear HC2
  by_cases c8 : a0_1 ≥ 0
  ·rw [if_pos c8] at H
   have c8b0 : decide (0 ≤ a0_1) = true := decide_eq_true c8
   clear c8
   (first | rw [c8b0] | (simp only [i64_w, i32_w]; rw [c8b0]) | skip)
   replace H := Option.bind_eq_some_iff.mp H
   obtain ⟨t314, A90, H⟩ := H
   replace H : (variorumref09_Right.j0 k t314 a0_0 a0_1 a0_2 a0_3 a0_4 a0_5 a0_6 a0_7 a0_8 a0_1 a0_2 a0_3 a0_4) = some r := H
   have A9 := a_ A90
   clear A90
   have H' := a_ H
   clear H
   have hnb10 := NB313_312.out
   have hnc10 := NB312_313.out
   obtain ⟨⟨Z11_0, Y11_0⟩, ⟨Z11_1, Y11_1⟩, ⟨Z11_2, Y11_2⟩, Z11_3, Y11_3⟩ := cs4_ BK313.out
   go_wp2_with (first | (go_at_call 38; (with_reducible refine (variorumref02_Fits.calls a0_1 t314 _ A9.out).mono ?_); rintro e w' ⟨rfl, ⟨nd, rfl⟩⟩))
   go_meet
   case rel => exact ⟨_, (t314), (by first | rfl | (simp; done) | (simp [*]; done)), H', ⟨by first | omega | exact Nat.le_refl _⟩, ⟨kf1_ BK312.out NB312_313.out⟩, ⟨kp0_ BK313.out⟩, ⟨bS2_ HB.out GE312.out GE313.out⟩⟩
  ·rw [if_neg c8] at H
   have c8b0 : decide (0 ≤ a0_1) = false := decide_eq_false c8
   clear c8
   (first | rw [c8b0] | (simp only [i64_w, i32_w]; rw [c8b0]) | skip)
   have H' := a_ H
   clear H
   have hnb12 := NB313_312.out
   have hnc12 := NB312_313.out
   obtain ⟨⟨Z13_0, Y13_0⟩, ⟨Z13_1, Y13_1⟩, ⟨Z13_2, Y13_2⟩, Z13_3, Y13_3⟩ := cs4_ BK313.out
   go_wp2
   go_meet
   case rel => exact ⟨_, (false), (by first | rfl | (simp; done) | (simp [*]; done)), H', ⟨by first | omega | exact Nat.le_refl _⟩, ⟨kf1_ BK312.out NB312_313.out⟩, ⟨kp0_ BK313.out⟩, ⟨bS2_ HB.out GE312.out GE313.out⟩⟩
 case rest =>
  clear HC2
  try clear c1
  try clear c2
  try clear p2
  try clear c6
  try clear c8
  try clear c8b0
  try clear c10
  try clear c12
  try clear Z11_0
  try clear Z11_1
  try clear Z11_2
  try clear Z11_3
  try clear Z13_0
  try clear Z13_1
  try clear Z13_2
  try clear Z13_3
  try clear Z4_0
  try clear Z4_1
  try clear Z4_2
  try clear Z4_3
  try clear Z4_4
  try clear Z4_5
  try clear Z4_6
  try clear Z4_7
  try clear Z4_8
  try clear Z7_0
  try clear Z7_1
  try clear Z7_2
  try clear Z7_3
  try clear Y11_0
  try clear Y11_1
  try clear Y11_2
  try clear Y11_3
  try clear Y13_0
  try clear Y13_1
  try clear Y13_2
  try clear Y13_3
  try clear Y4_0
  try clear Y4_1
  try clear Y4_2
  try clear Y4_3
  try clear Y4_4
  try clear Y4_5
  try clear Y4_6
  try clear Y4_7
  try clear Y4_8
  try clear Y7_0
  try clear Y7_1
  try clear Y7_2
  try clear Y7_3
  obtain ⟨kq, x4_1, rfl, HA, HJ1, BK312, BK313, HB⟩ := hcut
  cases kq with
  | zero => exact absurd HA.out (by simp [variorumref09_Right.j0])
  | succ kj1 =>
   have H := HA.out
   clear HA
   simp only [variorumref09_Right.j0] at H
   have HC14 := a_ H
   clear H
   go_upto_region 3 with (fail)
   go_cut [5] (fun v5 wc => ∃ (kq : Nat) (x5_13 : Bool), v5 = .bool x5_13 ∧ Aside0 (variorumref09_Right.j1 kq x5_13 a0_0 a0_1 a0_2 a0_3 a0_4 a0_5 a0_6 a0_7 a0_8 a0_1 a0_2 a0_3 a0_4 = some r) ∧ Aside0 (kq ≤ kj1) ∧ Aside0 (wc.heap[gb312]? = some (.cells #[.int .i64 a0_0, .int .i64 a0_1, .int .i64 a0_2, .int .i64 a0_3, .int .i64 a0_4, .int .i64 a0_5, .bool a0_6, .int .i64 a0_7, .int .i64 a0_8] 40 (0, 0))) ∧ Aside0 (wc.heap[gb313]? = some (.cells #[.int .i64 a0_1, .int .i64 a0_2, .int .i64 a0_3, .int .i64 a0_4] 38 (0, 0))) ∧ Aside0 (Below w.heap.size w wc))
   case first =>
    have H := HC14.out
    clear HC14
    by_cases c15 : x4_1 = true
    ·subst c15
     have H1 : (if a0_2 = 0 then (if a0_3 = 0 then (variorumref09_Right.j1 kj1 (a0_4 == 0) a0_0 a0_1 a0_2 a0_3 a0_4 a0_5 a0_6 a0_7 a0_8 a0_1 a0_2 a0_3 a0_4) else (variorumref09_Right.j1 kj1 false a0_0 a0_1 a0_2 a0_3 a0_4 a0_5 a0_6 a0_7 a0_8 a0_1 a0_2 a0_3 a0_4)) else (variorumref09_Right.j1 kj1 false a0_0 a0_1 a0_2 a0_3 a0_4 a0_5 a0_6 a0_7 a0_8 a0_1 a0_2 a0_3 a0_4)) = some r := by rw [if_pos rfl] at H; exact H
     clear H
     have H := H1
     clear H1
     by_cases c16 : a0_2 = 0
     ·rw [if_pos c16] at H
      have c16b0 : (a0_2 == 0) = true := beq_iff_eq.mpr c16
      have c16b1 : (a0_2 != 0) = false := bne_eq_false_iff_eq.mpr c16
      clear c16
      (first | rw [c16b0] | (simp only [i64_w, i32_w]; rw [c16b0]) | skip)
      by_cases c17 : a0_3 = 0
      ·rw [if_pos c17] at H
       have c17b0 : (a0_3 == 0) = true := beq_iff_eq.mpr c17
       have c17b1 : (a0_3 != 0) = false := bne_eq_false_iff_eq.mpr c17
       clear c17
       have H' := a_ H
       clear H
       have hnb18 := NB313_312.out
       have hnc18 := NB312_313.out
       obtain ⟨⟨Z19_0, Y19_0⟩, ⟨Z19_1, Y19_1⟩, ⟨Z19_2, Y19_2⟩, Z19_3, Y19_3⟩ := cs4_ BK313.out
       go_wp2
       go_meet
       case rel => exact ⟨_, ((a0_4 == 0)), (by first | rfl | (simp; done) | (simp [*]; done)), H', ⟨by have := HJ1.out; first | omega | exact Nat.le_refl _⟩, ⟨kv_ BK312.out⟩, ⟨kv_ BK313.out⟩, ⟨bS2_ HB.out GE312.out GE313.out⟩⟩
      ·rw [if_neg c17] at H
       have c17b0 : (a0_3 == 0) = false := beq_eq_false_iff_ne.mpr c17
       have c17b1 : (a0_3 != 0) = true := bne_iff_ne.mpr c17
       have H' := a_ H
       clear H
       have hnb20 := NB313_312.out
       have hnc20 := NB312_313.out
       obtain ⟨⟨Z21_0, Y21_0⟩, ⟨Z21_1, Y21_1⟩, ⟨Z21_2, Y21_2⟩, Z21_3, Y21_3⟩ := cs4_ BK313.out
       go_wp2
       go_meet
       case rel => exact ⟨_, (false), (by first | rfl | (simp; done) | (simp [*]; done)), H', ⟨by have := HJ1.out; first | omega | exact Nat.le_refl _⟩, ⟨kv_ BK312.out⟩, ⟨kv_ BK313.out⟩, ⟨bS2_ HB.out GE312.out GE313.out⟩⟩
     ·rw [if_neg c16] at H
      have c16b0 : (a0_2 == 0) = false := beq_eq_false_iff_ne.mpr c16
      have c16b1 : (a0_2 != 0) = true := bne_iff_ne.mpr c16
      (first | rw [c16b0] | (simp only [i64_w, i32_w]; rw [c16b0]) | skip)
      have H' := a_ H
      clear H
      have hnb22 := NB313_312.out
      have hnc22 := NB312_313.out
      obtain ⟨⟨Z23_0, Y23_0⟩, ⟨Z23_1, Y23_1⟩, ⟨Z23_2, Y23_2⟩, Z23_3, Y23_3⟩ := cs4_ BK313.out
      go_wp2
      go_meet
      case rel => exact ⟨_, (false), (by first | rfl | (simp; done) | (simp [*]; done)), H', ⟨by have := HJ1.out; first | omega | exact Nat.le_refl _⟩, ⟨kv_ BK312.out⟩, ⟨kv_ BK313.out⟩, ⟨bS2_ HB.out GE312.out GE313.out⟩⟩
    ·replace c15 := Bool.eq_false_iff.mpr c15
     subst c15
     have H1 : (variorumref09_Right.j1 kj1 false a0_0 a0_1 a0_2 a0_3 a0_4 a0_5 a0_6 a0_7 a0_8 a0_1 a0_2 a0_3 a0_4) = some r := by rw [if_neg (show ¬ (false = true) by decide)] at H; exact H
     clear H
     have H := H1
     clear H1
     have H' := a_ H
     clear H
     go_wp2
     go_meet
     case rel => exact ⟨_, (false), (by first | rfl | (simp; done) | (simp [*]; done)), H', ⟨by have := HJ1.out; first | omega | exact Nat.le_refl _⟩, ⟨kv_ BK312.out⟩, ⟨kv_ BK313.out⟩, ⟨bS2_ HB.out GE312.out GE313.out⟩⟩
   case rest =>
    clear HC14
    try clear c1
    try clear c2
    try clear p2
    try clear c6
    try clear c8
    try clear c8b0
    try clear c10
    try clear c12
    try clear c15
    try clear c16
    try clear c16b0
    try clear c16b1
    try clear c17
    try clear c17b0
    try clear c17b1
    try clear c18
    try clear c20
    try clear c22
    try clear Z11_0
    try clear Z11_1
    try clear Z11_2
    try clear Z11_3
    try clear Z13_0
    try clear Z13_1
    try clear Z13_2
    try clear Z13_3
    try clear Z19_0
    try clear Z19_1
    try clear Z19_2
    try clear Z19_3
    try clear Z21_0
    try clear Z21_1
    try clear Z21_2
    try clear Z21_3
    try clear Z23_0
    try clear Z23_1
    try clear Z23_2
    try clear Z23_3
    try clear Z4_0
    try clear Z4_1
    try clear Z4_2
    try clear Z4_3
    try clear Z4_4
    try clear Z4_5
    try clear Z4_6
    try clear Z4_7
    try clear Z4_8
    try clear Z7_0
    try clear Z7_1
    try clear Z7_2
    try clear Z7_3
    try clear Y11_0
    try clear Y11_1
    try clear Y11_2
    try clear Y11_3
    try clear Y13_0
    try clear Y13_1
    try clear Y13_2
    try clear Y13_3
    try clear Y19_0
    try clear Y19_1
    try clear Y19_2
    try clear Y19_3
    try clear Y21_0
    try clear Y21_1
    try clear Y21_2
    try clear Y21_3
    try clear Y23_0
    try clear Y23_1
    try clear Y23_2
    try clear Y23_3
    try clear Y4_0
    try clear Y4_1
    try clear Y4_2
    try clear Y4_3
    try clear Y4_4
    try clear Y4_5
    try clear Y4_6
    try clear Y4_7
    try clear Y4_8
    try clear Y7_0
    try clear Y7_1
    try clear Y7_2
    try clear Y7_3
    try clear p2
    obtain ⟨kq, x5_13, rfl, HA, HJ13, BK312, BK313, HB⟩ := hcut
    cases kq with
    | zero => exact absurd HA.out (by simp [variorumref09_Right.j1])
    | succ kj13 =>
     have H := HA.out
     clear HA
     simp only [variorumref09_Right.j1] at H
     by_cases c24 : a0_0 = 0
     ·rw [if_pos c24] at H
      have c24b0 : (a0_0 == 0) = true := beq_iff_eq.mpr c24
      have c24b1 : (a0_0 != 0) = false := bne_eq_false_iff_eq.mpr c24
      clear c24
      by_cases c25 : x5_13 = true
      ·subst c25
       have H1 : (if a0_5 = 0 then (if a0_6 = true then (some false) else (if a0_7 ≥ 0 then (some (decide (a0_8 ≥ 0))) else (some false))) else (some false)) = some r := by rw [if_pos rfl] at H; exact H
       clear H
       have H := H1
       clear H1
       by_cases c26 : a0_5 = 0
       ·rw [if_pos c26] at H
        have c26b0 : (a0_5 == 0) = true := beq_iff_eq.mpr c26
        have c26b1 : (a0_5 != 0) = false := bne_eq_false_iff_eq.mpr c26
        clear c26
        by_cases c27 : a0_6 = true
        ·subst c27
         have H1 : (some false) = some r := by rw [if_pos rfl] at H; exact H
         clear H
         have H := H1
         clear H1
         obtain rfl := Option.some.inj H
         have hnb28 := NB312_313.out
         have hnc28 := NB313_312.out
         obtain ⟨⟨Z29_0, Y29_0⟩, ⟨Z29_1, Y29_1⟩, ⟨Z29_2, Y29_2⟩, ⟨Z29_3, Y29_3⟩, ⟨Z29_4, Y29_4⟩, ⟨Z29_5, Y29_5⟩, ⟨Z29_6, Y29_6⟩, ⟨Z29_7, Y29_7⟩, Z29_8, Y29_8⟩ := cs9_ BK312.out
         go_wp2
         go_ret
         exact ⟨by first | rfl | (simp [errW_none, errW_some] <;> rfl) | (simp [*, errW_none, errW_some] <;> rfl), bS2_ HB.out GE312.out GE313.out⟩
        ·replace c27 := Bool.eq_false_iff.mpr c27
         subst c27
         have H1 : (if a0_7 ≥ 0 then (some (decide (a0_8 ≥ 0))) else (some false)) = some r := by rw [if_neg (show ¬ (false = true) by decide)] at H; exact H
         clear H
         have H := H1
         clear H1
         by_cases c30 : a0_7 ≥ 0
         ·rw [if_pos c30] at H
          have c30b0 : decide (0 ≤ a0_7) = true := decide_eq_true c30
          clear c30
          obtain rfl := Option.some.inj H
          have hnb31 := NB312_313.out
          have hnc31 := NB313_312.out
          obtain ⟨⟨Z32_0, Y32_0⟩, ⟨Z32_1, Y32_1⟩, ⟨Z32_2, Y32_2⟩, ⟨Z32_3, Y32_3⟩, ⟨Z32_4, Y32_4⟩, ⟨Z32_5, Y32_5⟩, ⟨Z32_6, Y32_6⟩, ⟨Z32_7, Y32_7⟩, Z32_8, Y32_8⟩ := cs9_ BK312.out
          go_wp2
          go_ret
          exact ⟨by first | rfl | (simp [errW_none, errW_some] <;> rfl) | (simp [*, errW_none, errW_some] <;> rfl), bS2_ HB.out GE312.out GE313.out⟩
         ·rw [if_neg c30] at H
          have c30b0 : decide (0 ≤ a0_7) = false := decide_eq_false c30
          clear c30
          obtain rfl := Option.some.inj H
          have hnb33 := NB312_313.out
          have hnc33 := NB313_312.out
          obtain ⟨⟨Z34_0, Y34_0⟩, ⟨Z34_1, Y34_1⟩, ⟨Z34_2, Y34_2⟩, ⟨Z34_3, Y34_3⟩, ⟨Z34_4, Y34_4⟩, ⟨Z34_5, Y34_5⟩, ⟨Z34_6, Y34_6⟩, ⟨Z34_7, Y34_7⟩, Z34_8, Y34_8⟩ := cs9_ BK312.out
          go_wp2
          go_ret
          exact ⟨by first | rfl | (simp [errW_none, errW_some] <;> rfl) | (simp [*, errW_none, errW_some] <;> rfl), bS2_ HB.out GE312.out GE313.out⟩
       ·rw [if_neg c26] at H
        have c26b0 : (a0_5 == 0) = false := beq_eq_false_iff_ne.mpr c26
        have c26b1 : (a0_5 != 0) = true := bne_iff_ne.mpr c26
        obtain rfl := Option.some.inj H
        have hnb35 := NB312_313.out
        have hnc35 := NB313_312.out
        obtain ⟨⟨Z36_0, Y36_0⟩, ⟨Z36_1, Y36_1⟩, ⟨Z36_2, Y36_2⟩, ⟨Z36_3, Y36_3⟩, ⟨Z36_4, Y36_4⟩, ⟨Z36_5, Y36_5⟩, ⟨Z36_6, Y36_6⟩, ⟨Z36_7, Y36_7⟩, Z36_8, Y36_8⟩ := cs9_ BK312.out
        go_wp2
        go_ret
        exact ⟨by first | rfl | (simp [errW_none, errW_some] <;> rfl) | (simp [*, errW_none, errW_some] <;> rfl), bS2_ HB.out GE312.out GE313.out⟩
      ·replace c25 := Bool.eq_false_iff.mpr c25
       subst c25
       have H1 : (some false) = some r := by rw [if_neg (show ¬ (false = true) by decide)] at H; exact H
       clear H
       have H := H1
       clear H1
       obtain rfl := Option.some.inj H
       have hnb37 := NB312_313.out
       have hnc37 := NB313_312.out
       obtain ⟨⟨Z38_0, Y38_0⟩, ⟨Z38_1, Y38_1⟩, ⟨Z38_2, Y38_2⟩, ⟨Z38_3, Y38_3⟩, ⟨Z38_4, Y38_4⟩, ⟨Z38_5, Y38_5⟩, ⟨Z38_6, Y38_6⟩, ⟨Z38_7, Y38_7⟩, Z38_8, Y38_8⟩ := cs9_ BK312.out
       go_wp2
       go_ret
       exact ⟨by first | rfl | (simp [errW_none, errW_some] <;> rfl) | (simp [*, errW_none, errW_some] <;> rfl), bS2_ HB.out GE312.out GE313.out⟩
     ·rw [if_neg c24] at H
      have c24b0 : (a0_0 == 0) = false := beq_eq_false_iff_ne.mpr c24
      have c24b1 : (a0_0 != 0) = true := bne_iff_ne.mpr c24
      have HC39 := a_ H
      clear H
      have hnb40 := NB312_313.out
      have hnc40 := NB313_312.out
      obtain ⟨⟨Z41_0, Y41_0⟩, ⟨Z41_1, Y41_1⟩, ⟨Z41_2, Y41_2⟩, ⟨Z41_3, Y41_3⟩, ⟨Z41_4, Y41_4⟩, ⟨Z41_5, Y41_5⟩, ⟨Z41_6, Y41_6⟩, ⟨Z41_7, Y41_7⟩, Z41_8, Y41_8⟩ := cs9_ BK312.out
      go_upto_region 6 with (fail)
      go_cut [63] (fun v63 wc => ∃ (kq : Nat) (x63_38 : Bool), v63 = .bool x63_38 ∧ Aside0 (variorumref09_Right.j2 kq x5_13 x63_38 a0_0 a0_1 a0_2 a0_3 a0_4 a0_5 a0_6 a0_7 a0_8 a0_1 a0_2 a0_3 a0_4 = some r) ∧ Aside0 (kq ≤ kj13) ∧ Aside0 (wc.heap[gb312]? = some (.cells #[.int .i64 a0_0, .int .i64 a0_1, .int .i64 a0_2, .int .i64 a0_3, .int .i64 a0_4, .int .i64 a0_5, .bool a0_6, .int .i64 a0_7, .int .i64 a0_8] 40 (0, 0))) ∧ Aside0 (wc.heap[gb313]? = some (.cells #[.int .i64 a0_1, .int .i64 a0_2, .int .i64 a0_3, .int .i64 a0_4] 38 (0, 0))) ∧ Aside0 (Below w.heap.size w wc))
      case first =>
       have H := HC39.out
       clear HC39
       by_cases c42 : a0_7 = 0
       ·rw [if_pos c42] at H
        have c42b0 : (a0_7 == 0) = true := beq_iff_eq.mpr c42
        have c42b1 : (a0_7 != 0) = false := bne_eq_false_iff_eq.mpr c42
        clear c42
        (first | rw [c42b0] | (simp only [i64_w, i32_w]; rw [c42b0]) | skip)
        have H' := a_ H
        clear H
        have hnb43 := NB312_313.out
        have hnc43 := NB313_312.out
        obtain ⟨⟨Z44_0, Y44_0⟩, ⟨Z44_1, Y44_1⟩, ⟨Z44_2, Y44_2⟩, ⟨Z44_3, Y44_3⟩, ⟨Z44_4, Y44_4⟩, ⟨Z44_5, Y44_5⟩, ⟨Z44_6, Y44_6⟩, ⟨Z44_7, Y44_7⟩, Z44_8, Y44_8⟩ := cs9_ BK312.out
        go_wp2
        go_meet
        case rel => exact ⟨_, ((a0_8 != 0)), (by first | rfl | (simp; done) | (simp [*]; done)), H', ⟨by have := HJ1.out; have := HJ13.out; first | omega | exact Nat.le_refl _⟩, ⟨kv_ BK312.out⟩, ⟨kv_ BK313.out⟩, ⟨bS2_ HB.out GE312.out GE313.out⟩⟩
       ·rw [if_neg c42] at H
        have c42b0 : (a0_7 == 0) = false := beq_eq_false_iff_ne.mpr c42
        have c42b1 : (a0_7 != 0) = true := bne_iff_ne.mpr c42
        (first | rw [c42b0] | (simp only [i64_w, i32_w]; rw [c42b0]) | skip)
        have H' := a_ H
        clear H
        have hnb45 := NB312_313.out
        have hnc45 := NB313_312.out
        obtain ⟨⟨Z46_0, Y46_0⟩, ⟨Z46_1, Y46_1⟩, ⟨Z46_2, Y46_2⟩, ⟨Z46_3, Y46_3⟩, ⟨Z46_4, Y46_4⟩, ⟨Z46_5, Y46_5⟩, ⟨Z46_6, Y46_6⟩, ⟨Z46_7, Y46_7⟩, Z46_8, Y46_8⟩ := cs9_ BK312.out
        go_wp2
        go_meet
        case rel => exact ⟨_, (true), (by first | rfl | (simp; done) | (simp [*]; done)), H', ⟨by have := HJ1.out; have := HJ13.out; first | omega | exact Nat.le_refl _⟩, ⟨kv_ BK312.out⟩, ⟨kv_ BK313.out⟩, ⟨bS2_ HB.out GE312.out GE313.out⟩⟩
      case rest =>
       clear HC39
       try clear c1
       try clear c2
       try clear p2
       try clear c3
       try clear c4
       try clear c6
       try clear c8
       try clear c8b0
       try clear c10
       try clear c12
       try clear c15
       try clear c16
       try clear c16b0
       try clear c16b1
       try clear c17
       try clear c17b0
       try clear c17b1
       try clear c18
       try clear c20
       try clear c22
       try clear c24
       try clear c24b0
       try clear c24b1
       try clear c25
       try clear c26
       try clear c26b0
       try clear c26b1
       try clear c27
       try clear c28
       try clear c30
       try clear c30b0
       try clear c31
       try clear c33
       try clear c35
       try clear c37
       try clear c40
       try clear c42
       try clear c42b0
       try clear c42b1
       try clear c43
       try clear c45
       try clear Z11_0
       try clear Z11_1
       try clear Z11_2
       try clear Z11_3
       try clear Z13_0
       try clear Z13_1
       try clear Z13_2
       try clear Z13_3
       try clear Z19_0
       try clear Z19_1
       try clear Z19_2
       try clear Z19_3
       try clear Z21_0
       try clear Z21_1
       try clear Z21_2
       try clear Z21_3
       try clear Z23_0
       try clear Z23_1
       try clear Z23_2
       try clear Z23_3
       try clear Z29_0
       try clear Z29_1
       try clear Z29_2
       try clear Z29_3
       try clear Z29_4
       try clear Z29_5
       try clear Z29_6
       try clear Z29_7
       try clear Z29_8
       try clear Z32_0
       try clear Z32_1
       try clear Z32_2
       try clear Z32_3
       try clear Z32_4
       try clear Z32_5
       try clear Z32_6
       try clear Z32_7
       try clear Z32_8
       try clear Z34_0
       try clear Z34_1
       try clear Z34_2
       try clear Z34_3
       try clear Z34_4
       try clear Z34_5
       try clear Z34_6
       try clear Z34_7
       try clear Z34_8
       try clear Z36_0
       try clear Z36_1
       try clear Z36_2
       try clear Z36_3
       try clear Z36_4
       try clear Z36_5
       try clear Z36_6
       try clear Z36_7
       try clear Z36_8
       try clear Z38_0
       try clear Z38_1
       try clear Z38_2
       try clear Z38_3
       try clear Z38_4
       try clear Z38_5
       try clear Z38_6
       try clear Z38_7
       try clear Z38_8
       try clear Z41_0
       try clear Z41_1
       try clear Z41_2
       try clear Z41_3
       try clear Z41_4
       try clear Z41_5
       try clear Z41_6
       try clear Z41_7
       try clear Z41_8
       try clear Z44_0
       try clear Z44_1
       try clear Z44_2
       try clear Z44_3
       try clear Z44_4
       try clear Z44_5
       try clear Z44_6
       try clear Z44_7
       try clear Z44_8
       try clear Z46_0
       try clear Z46_1
       try clear Z46_2
       try clear Z46_3
       try clear Z46_4
       try clear Z46_5
       try clear Z46_6
       try clear Z46_7
       try clear Z46_8
       try clear Z4_0
       try clear Z4_1
       try clear Z4_2
       try clear Z4_3
       try clear Z4_4
       try clear Z4_5
       try clear Z4_6
       try clear Z4_7
       try clear Z4_8
       try clear Z7_0
       try clear Z7_1
       try clear Z7_2
       try clear Z7_3
       try clear Y11_0
       try clear Y11_1
       try clear Y11_2
       try clear Y11_3
       try clear Y13_0
       try clear Y13_1
       try clear Y13_2
       try clear Y13_3
       try clear Y19_0
       try clear Y19_1
       try clear Y19_2
       try clear Y19_3
       try clear Y21_0
       try clear Y21_1
       try clear Y21_2
       try clear Y21_3
       try clear Y23_0
       try clear Y23_1
       try clear Y23_2
       try clear Y23_3
       try clear Y29_0
       try clear Y29_1
       try clear Y29_2
       try clear Y29_3
       try clear Y29_4
       try clear Y29_5
       try clear Y29_6
       try clear Y29_7
       try clear Y29_8
       try clear Y32_0
       try clear Y32_1
       try clear Y32_2
       try clear Y32_3
       try clear Y32_4
       try clear Y32_5
       try clear Y32_6
       try clear Y32_7
       try clear Y32_8
       try clear Y34_0
       try clear Y34_1
       try clear Y34_2
       try clear Y34_3
       try clear Y34_4
       try clear Y34_5
       try clear Y34_6
       try clear Y34_7
       try clear Y34_8
       try clear Y36_0
       try clear Y36_1
       try clear Y36_2
       try clear Y36_3
       try clear Y36_4
       try clear Y36_5
       try clear Y36_6
       try clear Y36_7
       try clear Y36_8
       try clear Y38_0
       try clear Y38_1
       try clear Y38_2
       try clear Y38_3
       try clear Y38_4
       try clear Y38_5
       try clear Y38_6
       try clear Y38_7
       try clear Y38_8
       try clear Y41_0
       try clear Y41_1
       try clear Y41_2
       try clear Y41_3
       try clear Y41_4
       try clear Y41_5
       try clear Y41_6
       try clear Y41_7
       try clear Y41_8
       try clear Y44_0
       try clear Y44_1
       try clear Y44_2
       try clear Y44_3
       try clear Y44_4
       try clear Y44_5
       try clear Y44_6
       try clear Y44_7
       try clear Y44_8
       try clear Y46_0
       try clear Y46_1
       try clear Y46_2
       try clear Y46_3
       try clear Y46_4
       try clear Y46_5
       try clear Y46_6
       try clear Y46_7
       try clear Y46_8
       try clear Y4_0
       try clear Y4_1
       try clear Y4_2
       try clear Y4_3
       try clear Y4_4
       try clear Y4_5
       try clear Y4_6
       try clear Y4_7
       try clear Y4_8
       try clear Y7_0
       try clear Y7_1
       try clear Y7_2
       try clear Y7_3
       try clear p2
       obtain ⟨kq, x63_38, rfl, HA, HJ38, BK312, BK313, HB⟩ := hcut
       cases kq with
       | zero => exact absurd HA.out (by simp [variorumref09_Right.j2])
       | succ kj38 =>
        have H := HA.out
        clear HA
        simp only [variorumref09_Right.j2] at H
        by_cases c47 : x63_38 = true
        ·subst c47
         have H1 : (some false) = some r := by rw [if_pos rfl] at H; exact H
         clear H
         have H := H1
         clear H1
         obtain rfl := Option.some.inj H
         go_wp2
         go_ret
         exact ⟨by first | rfl | (simp [errW_none, errW_some] <;> rfl) | (simp [*, errW_none, errW_some] <;> rfl), bS2_ HB.out GE312.out GE313.out⟩
        ·replace c47 := Bool.eq_false_iff.mpr c47
         subst c47
         have H1 : (if a0_0 = 1 then ((variorumref03_May.f kj38 (([(⟨a0_1, a0_2, a0_3, a0_4⟩ : S38)] : List (S38)))).bind fun t318 => (if t318 = true then (if a0_1 ≥ a0_3 then (if a0_5 = 0 then (some (!a0_6)) else (some false)) else (some false)) else (some false))) else (if a0_0 = 2 then (if x5_13 = true then (if a0_5 ≥ (-10000) then (some (decide (a0_5 ≤ 10000))) else (some false)) else (some false)) else (some false))) = some r := by rw [if_neg (show ¬ (false = true) by decide)] at H; exact H
         clear H
         have H := H1
         clear H1
         by_cases c48 : a0_0 = 1
         ·rw [if_pos c48] at H
          have c48b0 : (a0_0 == 1) = true := beq_iff_eq.mpr c48
          have c48b1 : (a0_0 != 1) = false := bne_eq_false_iff_eq.mpr c48
          clear c48
          obtain ⟨y315, hy315⟩ : ∃ y_ : List (S38), y_ = (([(⟨a0_1, a0_2, a0_3, a0_4⟩ : S38)] : List (S38))) := ⟨_, rfl⟩
          replace H : ((variorumref03_May.f kj38 y315).bind fun t318 => (if t318 = true then (if a0_1 ≥ a0_3 then (if a0_5 = 0 then (some (!a0_6)) else (some false)) else (some false)) else (some false))) = some r := by first | (rw [hy315]; with_reducible exact H) | (have H2_ := (Option.bind_some _ _).symm.trans H; rw [hy315]; with_reducible exact H2_) | (have H2_ := (Option.bind_some _ _).symm.trans H; with_reducible exact H2_) | with_reducible exact H | (rw [hy315]; exact H) | exact H
          have Ny315 := a_ hy315
          clear hy315
          replace H := Option.bind_eq_some_iff.mp H
          obtain ⟨t318, A490, H⟩ := H
          replace H : (if t318 = true then (if a0_1 ≥ a0_3 then (if a0_5 = 0 then (some (!a0_6)) else (some false)) else (some false)) else (some false)) = some r := H
          have A49 := a_ A490
          clear A490
          by_cases c50 : t318 = true
          ·subst c50
           have H1 : (if a0_1 ≥ a0_3 then (if a0_5 = 0 then (some (!a0_6)) else (some false)) else (some false)) = some r := by rw [if_pos rfl] at H; exact H
           clear H
           have H := H1
           clear H1
           by_cases c51 : a0_1 ≥ a0_3
           ·rw [if_pos c51] at H
            have c51b0 : decide (a0_3 ≤ a0_1) = true := decide_eq_true c51
            clear c51
            by_cases c52 : a0_5 = 0
            ·rw [if_pos c52] at H
             have c52b0 : (a0_5 == 0) = true := beq_iff_eq.mpr c52
             have c52b1 : (a0_5 != 0) = false := bne_eq_false_iff_eq.mpr c52
             clear c52
             obtain rfl := Option.some.inj H
             have hnb53 := NB312_313.out
             have hnc53 := NB313_312.out
             obtain ⟨⟨Z54_0, Y54_0⟩, ⟨Z54_1, Y54_1⟩, ⟨Z54_2, Y54_2⟩, ⟨Z54_3, Y54_3⟩, ⟨Z54_4, Y54_4⟩, ⟨Z54_5, Y54_5⟩, ⟨Z54_6, Y54_6⟩, ⟨Z54_7, Y54_7⟩, Z54_8, Y54_8⟩ := cs9_ BK312.out
             obtain ⟨⟨Z55_0, Y55_0⟩, ⟨Z55_1, Y55_1⟩, ⟨Z55_2, Y55_2⟩, Z55_3, Y55_3⟩ := cs4_ BK313.out
             go_wp2_with (first | ((with_reducible refine gate_dst (N := 68) rfl ?_); refine Kd.R_lit k38 _ 38 ?hg (N := 68) ?hd (xs := ([(⟨a0_1, a0_2, a0_3, a0_4⟩ : S38)] : List (S38))) (inner := [.int .i64 a0_1, .int .i64 a0_2, .int .i64 a0_3, .int .i64 a0_4]) (ok := fun _ => True) (okp := fun _ => True) ?hr ?hp (fun _ hk => hk) trivial (Below.refl _ _) (Nat.le_refl _) (by simp) ?_; (case hd => rfl); (case hg => rfl); (case hr => first | (go_simp; done) | (go_simp; rfl)); (case hp => exact (Reps.c4 (show Kd.M k38 _ _ _ (⟨a0_1, a0_2, a0_3, a0_4⟩ : S38) [.int .i64 a0_1, .int .i64 a0_2, .int .i64 a0_3, .int .i64 a0_4] from (k38_mkM _ _ _ (⟨a0_1, a0_2, a0_3, a0_4⟩ : S38) )) (Reps.none _ _))); intro v316 w56 ho57 hb hg_ hnew_; clear hg_ hnew_; (first | rw [← Ny315.out] at ho57 | (simp only [Int.reduceToNat] at ho57; rw [← Ny315.out] at ho57)); have n0_ := a_ (Kd.R_lower (Kd.R_newB ho57 (g := gb313) (o := .cells #[.int .i64 a0_1, .int .i64 a0_2, .int .i64 a0_3, .int .i64 a0_4] 38 (0, 0)) (kv_ BK313.out)) (below_size (bS2_ HB.out GE312.out GE313.out))); have n1_ := a_ (kb_ BK312.out hb); have n2_ := a_ (kb_ BK313.out hb); have n3_ := a_ (below_step (bS2_ HB.out GE312.out GE313.out) hb); clear BK312; clear BK313; clear HB; have HO317 := n0_; have BK312 := n1_; have BK313 := n2_; have HB := n3_; clear n0_ n1_ n2_ n3_; clear hb ho57; obtain ⟨Ao58, co58, eo58⟩ := Kd.R_slice HO317.out; subst eo58) | ((with_reducible refine gate_callee (f := 23) rfl ?_); refine gl_ (some 69) Try.func23 (by kernel_rfl) #[.slice Ao58 y315.length co58] ?_; (with_reducible refine (variorumref03_May.calls kj38 _ _ y315 true _ ?side1 ?side2 A49.out).mono ?_); (case side1 => exact cr_ (Kd.R_reads' HO317.out).2.2); (case side2 => exact (Kd.R_reads' HO317.out).2.1); rintro e w59 ⟨rfl, hb⟩; refine ⟨_, rfl, ?_⟩; have n0_ := a_ (Kd.R_below (rv_ HO317.out) hb); have n1_ := a_ (kb_ BK312.out hb); have n2_ := a_ (kb_ BK313.out hb); have n3_ := a_ (below_step (bS2_ HB.out GE312.out GE313.out) hb); clear HO317; clear BK312; clear BK313; clear HB; have HO317 := n0_; have BK312 := n1_; have BK313 := n2_; have HB := n3_; clear n0_ n1_ n2_ n3_; (try clear hb); (try clear hb2); (try clear hk); (try clear hi); obtain ⟨⟨Z60_0, Y60_0⟩, ⟨Z60_1, Y60_1⟩, ⟨Z60_2, Y60_2⟩, Z60_3, Y60_3⟩ := cs4_ BK313.out; obtain ⟨⟨Z61_0, Y61_0⟩, ⟨Z61_1, Y61_1⟩, ⟨Z61_2, Y61_2⟩, ⟨Z61_3, Y61_3⟩, ⟨Z61_4, Y61_4⟩, ⟨Z61_5, Y61_5⟩, ⟨Z61_6, Y61_6⟩, ⟨Z61_7, Y61_7⟩, Z61_8, Y61_8⟩ := cs9_ BK312.out))
             go_ret
             exact ⟨by first | rfl | (simp [errW_none, errW_some] <;> rfl) | (simp [*, errW_none, errW_some] <;> rfl), bS2_ HB.out GE312.out GE313.out⟩
            ·rw [if_neg c52] at H
             have c52b0 : (a0_5 == 0) = false := beq_eq_false_iff_ne.mpr c52
             have c52b1 : (a0_5 != 0) = true := bne_iff_ne.mpr c52
             obtain rfl := Option.some.inj H
             have hnb62 := NB312_313.out
             have hnc62 := NB313_312.out
             obtain ⟨⟨Z63_0, Y63_0⟩, ⟨Z63_1, Y63_1⟩, ⟨Z63_2, Y63_2⟩, ⟨Z63_3, Y63_3⟩, ⟨Z63_4, Y63_4⟩, ⟨Z63_5, Y63_5⟩, ⟨Z63_6, Y63_6⟩, ⟨Z63_7, Y63_7⟩, Z63_8, Y63_8⟩ := cs9_ BK312.out
             obtain ⟨⟨Z64_0, Y64_0⟩, ⟨Z64_1, Y64_1⟩, ⟨Z64_2, Y64_2⟩, Z64_3, Y64_3⟩ := cs4_ BK313.out
             go_wp2_with (first | ((with_reducible refine gate_dst (N := 68) rfl ?_); refine Kd.R_lit k38 _ 38 ?hg (N := 68) ?hd (xs := ([(⟨a0_1, a0_2, a0_3, a0_4⟩ : S38)] : List (S38))) (inner := [.int .i64 a0_1, .int .i64 a0_2, .int .i64 a0_3, .int .i64 a0_4]) (ok := fun _ => True) (okp := fun _ => True) ?hr ?hp (fun _ hk => hk) trivial (Below.refl _ _) (Nat.le_refl _) (by simp) ?_; (case hd => rfl); (case hg => rfl); (case hr => first | (go_simp; done) | (go_simp; rfl)); (case hp => exact (Reps.c4 (show Kd.M k38 _ _ _ (⟨a0_1, a0_2, a0_3, a0_4⟩ : S38) [.int .i64 a0_1, .int .i64 a0_2, .int .i64 a0_3, .int .i64 a0_4] from (k38_mkM _ _ _ (⟨a0_1, a0_2, a0_3, a0_4⟩ : S38) )) (Reps.none _ _))); intro v316 w65 ho66 hb hg_ hnew_; clear hg_ hnew_; (first | rw [← Ny315.out] at ho66 | (simp only [Int.reduceToNat] at ho66; rw [← Ny315.out] at ho66)); have n0_ := a_ (Kd.R_lower (Kd.R_newB ho66 (g := gb313) (o := .cells #[.int .i64 a0_1, .int .i64 a0_2, .int .i64 a0_3, .int .i64 a0_4] 38 (0, 0)) (kv_ BK313.out)) (below_size (bS2_ HB.out GE312.out GE313.out))); have n1_ := a_ (kb_ BK312.out hb); have n2_ := a_ (kb_ BK313.out hb); have n3_ := a_ (below_step (bS2_ HB.out GE312.out GE313.out) hb); clear BK312; clear BK313; clear HB; have HO317 := n0_; have BK312 := n1_; have BK313 := n2_; have HB := n3_; clear n0_ n1_ n2_ n3_; clear hb ho66; obtain ⟨Ao67, co67, eo67⟩ := Kd.R_slice HO317.out; subst eo67) | ((with_reducible refine gate_callee (f := 23) rfl ?_); refine gl_ (some 69) Try.func23 (by kernel_rfl) #[.slice Ao67 y315.length co67] ?_; (with_reducible refine (variorumref03_May.calls kj38 _ _ y315 true _ ?side1 ?side2 A49.out).mono ?_); (case side1 => exact cr_ (Kd.R_reads' HO317.out).2.2); (case side2 => exact (Kd.R_reads' HO317.out).2.1); rintro e w68 ⟨rfl, hb⟩; refine ⟨_, rfl, ?_⟩; have n0_ := a_ (Kd.R_below (rv_ HO317.out) hb); have n1_ := a_ (kb_ BK312.out hb); have n2_ := a_ (kb_ BK313.out hb); have n3_ := a_ (below_step (bS2_ HB.out GE312.out GE313.out) hb); clear HO317; clear BK312; clear BK313; clear HB; have HO317 := n0_; have BK312 := n1_; have BK313 := n2_; have HB := n3_; clear n0_ n1_ n2_ n3_; (try clear hb); (try clear hb2); (try clear hk); (try clear hi); obtain ⟨⟨Z69_0, Y69_0⟩, ⟨Z69_1, Y69_1⟩, ⟨Z69_2, Y69_2⟩, Z69_3, Y69_3⟩ := cs4_ BK313.out; obtain ⟨⟨Z70_0, Y70_0⟩, ⟨Z70_1, Y70_1⟩, ⟨Z70_2, Y70_2⟩, ⟨Z70_3, Y70_3⟩, ⟨Z70_4, Y70_4⟩, ⟨Z70_5, Y70_5⟩, ⟨Z70_6, Y70_6⟩, ⟨Z70_7, Y70_7⟩, Z70_8, Y70_8⟩ := cs9_ BK312.out))
             go_ret
             exact ⟨by first | rfl | (simp [errW_none, errW_some] <;> rfl) | (simp [*, errW_none, errW_some] <;> rfl), bS2_ HB.out GE312.out GE313.out⟩
           ·rw [if_neg c51] at H
            have c51b0 : decide (a0_3 ≤ a0_1) = false := decide_eq_false c51
            clear c51
            obtain rfl := Option.some.inj H
            have hnb71 := NB312_313.out
            have hnc71 := NB313_312.out
            obtain ⟨⟨Z72_0, Y72_0⟩, ⟨Z72_1, Y72_1⟩, ⟨Z72_2, Y72_2⟩, ⟨Z72_3, Y72_3⟩, ⟨Z72_4, Y72_4⟩, ⟨Z72_5, Y72_5⟩, ⟨Z72_6, Y72_6⟩, ⟨Z72_7, Y72_7⟩, Z72_8, Y72_8⟩ := cs9_ BK312.out
            obtain ⟨⟨Z73_0, Y73_0⟩, ⟨Z73_1, Y73_1⟩, ⟨Z73_2, Y73_2⟩, Z73_3, Y73_3⟩ := cs4_ BK313.out
            go_wp2_with (first | ((with_reducible refine gate_dst (N := 68) rfl ?_); refine Kd.R_lit k38 _ 38 ?hg (N := 68) ?hd (xs := ([(⟨a0_1, a0_2, a0_3, a0_4⟩ : S38)] : List (S38))) (inner := [.int .i64 a0_1, .int .i64 a0_2, .int .i64 a0_3, .int .i64 a0_4]) (ok := fun _ => True) (okp := fun _ => True) ?hr ?hp (fun _ hk => hk) trivial (Below.refl _ _) (Nat.le_refl _) (by simp) ?_; (case hd => rfl); (case hg => rfl); (case hr => first | (go_simp; done) | (go_simp; rfl)); (case hp => exact (Reps.c4 (show Kd.M k38 _ _ _ (⟨a0_1, a0_2, a0_3, a0_4⟩ : S38) [.int .i64 a0_1, .int .i64 a0_2, .int .i64 a0_3, .int .i64 a0_4] from (k38_mkM _ _ _ (⟨a0_1, a0_2, a0_3, a0_4⟩ : S38) )) (Reps.none _ _))); intro v316 w74 ho75 hb hg_ hnew_; clear hg_ hnew_; (first | rw [← Ny315.out] at ho75 | (simp only [Int.reduceToNat] at ho75; rw [← Ny315.out] at ho75)); have n0_ := a_ (Kd.R_lower (Kd.R_newB ho75 (g := gb313) (o := .cells #[.int .i64 a0_1, .int .i64 a0_2, .int .i64 a0_3, .int .i64 a0_4] 38 (0, 0)) (kv_ BK313.out)) (below_size (bS2_ HB.out GE312.out GE313.out))); have n1_ := a_ (kb_ BK312.out hb); have n2_ := a_ (kb_ BK313.out hb); have n3_ := a_ (below_step (bS2_ HB.out GE312.out GE313.out) hb); clear BK312; clear BK313; clear HB; have HO317 := n0_; have BK312 := n1_; have BK313 := n2_; have HB := n3_; clear n0_ n1_ n2_ n3_; clear hb ho75; obtain ⟨Ao76, co76, eo76⟩ := Kd.R_slice HO317.out; subst eo76) | ((with_reducible refine gate_callee (f := 23) rfl ?_); refine gl_ (some 69) Try.func23 (by kernel_rfl) #[.slice Ao76 y315.length co76] ?_; (with_reducible refine (variorumref03_May.calls kj38 _ _ y315 true _ ?side1 ?side2 A49.out).mono ?_); (case side1 => exact cr_ (Kd.R_reads' HO317.out).2.2); (case side2 => exact (Kd.R_reads' HO317.out).2.1); rintro e w77 ⟨rfl, hb⟩; refine ⟨_, rfl, ?_⟩; have n0_ := a_ (Kd.R_below (rv_ HO317.out) hb); have n1_ := a_ (kb_ BK312.out hb); have n2_ := a_ (kb_ BK313.out hb); have n3_ := a_ (below_step (bS2_ HB.out GE312.out GE313.out) hb); clear HO317; clear BK312; clear BK313; clear HB; have HO317 := n0_; have BK312 := n1_; have BK313 := n2_; have HB := n3_; clear n0_ n1_ n2_ n3_; (try clear hb); (try clear hb2); (try clear hk); (try clear hi); obtain ⟨⟨Z78_0, Y78_0⟩, ⟨Z78_1, Y78_1⟩, ⟨Z78_2, Y78_2⟩, Z78_3, Y78_3⟩ := cs4_ BK313.out))
            go_ret
            exact ⟨by first | rfl | (simp [errW_none, errW_some] <;> rfl) | (simp [*, errW_none, errW_some] <;> rfl), bS2_ HB.out GE312.out GE313.out⟩
          ·replace c50 := Bool.eq_false_iff.mpr c50
           subst c50
           have H1 : (some false) = some r := by rw [if_neg (show ¬ (false = true) by decide)] at H; exact H
           clear H
           have H := H1
           clear H1
           obtain rfl := Option.some.inj H
           have hnb79 := NB312_313.out
           have hnc79 := NB313_312.out
           obtain ⟨⟨Z80_0, Y80_0⟩, ⟨Z80_1, Y80_1⟩, ⟨Z80_2, Y80_2⟩, ⟨Z80_3, Y80_3⟩, ⟨Z80_4, Y80_4⟩, ⟨Z80_5, Y80_5⟩, ⟨Z80_6, Y80_6⟩, ⟨Z80_7, Y80_7⟩, Z80_8, Y80_8⟩ := cs9_ BK312.out
           obtain ⟨⟨Z81_0, Y81_0⟩, ⟨Z81_1, Y81_1⟩, ⟨Z81_2, Y81_2⟩, Z81_3, Y81_3⟩ := cs4_ BK313.out
           go_wp2_with (first | ((with_reducible refine gate_dst (N := 68) rfl ?_); refine Kd.R_lit k38 _ 38 ?hg (N := 68) ?hd (xs := ([(⟨a0_1, a0_2, a0_3, a0_4⟩ : S38)] : List (S38))) (inner := [.int .i64 a0_1, .int .i64 a0_2, .int .i64 a0_3, .int .i64 a0_4]) (ok := fun _ => True) (okp := fun _ => True) ?hr ?hp (fun _ hk => hk) trivial (Below.refl _ _) (Nat.le_refl _) (by simp) ?_; (case hd => rfl); (case hg => rfl); (case hr => first | (go_simp; done) | (go_simp; rfl)); (case hp => exact (Reps.c4 (show Kd.M k38 _ _ _ (⟨a0_1, a0_2, a0_3, a0_4⟩ : S38) [.int .i64 a0_1, .int .i64 a0_2, .int .i64 a0_3, .int .i64 a0_4] from (k38_mkM _ _ _ (⟨a0_1, a0_2, a0_3, a0_4⟩ : S38) )) (Reps.none _ _))); intro v316 w82 ho83 hb hg_ hnew_; clear hg_ hnew_; (first | rw [← Ny315.out] at ho83 | (simp only [Int.reduceToNat] at ho83; rw [← Ny315.out] at ho83)); have n0_ := a_ (Kd.R_lower (Kd.R_newB ho83 (g := gb313) (o := .cells #[.int .i64 a0_1, .int .i64 a0_2, .int .i64 a0_3, .int .i64 a0_4] 38 (0, 0)) (kv_ BK313.out)) (below_size (bS2_ HB.out GE312.out GE313.out))); have n1_ := a_ (kb_ BK312.out hb); have n2_ := a_ (kb_ BK313.out hb); have n3_ := a_ (below_step (bS2_ HB.out GE312.out GE313.out) hb); clear BK312; clear BK313; clear HB; have HO317 := n0_; have BK312 := n1_; have BK313 := n2_; have HB := n3_; clear n0_ n1_ n2_ n3_; clear hb ho83; obtain ⟨Ao84, co84, eo84⟩ := Kd.R_slice HO317.out; subst eo84) | ((with_reducible refine gate_callee (f := 23) rfl ?_); refine gl_ (some 69) Try.func23 (by kernel_rfl) #[.slice Ao84 y315.length co84] ?_; (with_reducible refine (variorumref03_May.calls kj38 _ _ y315 false _ ?side1 ?side2 A49.out).mono ?_); (case side1 => exact cr_ (Kd.R_reads' HO317.out).2.2); (case side2 => exact (Kd.R_reads' HO317.out).2.1); rintro e w85 ⟨rfl, hb⟩; refine ⟨_, rfl, ?_⟩; have n0_ := a_ (Kd.R_below (rv_ HO317.out) hb); have n1_ := a_ (kb_ BK312.out hb); have n2_ := a_ (kb_ BK313.out hb); have n3_ := a_ (below_step (bS2_ HB.out GE312.out GE313.out) hb); clear HO317; clear BK312; clear BK313; clear HB; have HO317 := n0_; have BK312 := n1_; have BK313 := n2_; have HB := n3_; clear n0_ n1_ n2_ n3_; (try clear hb); (try clear hb2); (try clear hk); (try clear hi)))
           go_ret
           exact ⟨by first | rfl | (simp [errW_none, errW_some] <;> rfl) | (simp [*, errW_none, errW_some] <;> rfl), bS2_ HB.out GE312.out GE313.out⟩
         ·rw [if_neg c48] at H
          have c48b0 : (a0_0 == 1) = false := beq_eq_false_iff_ne.mpr c48
          have c48b1 : (a0_0 != 1) = true := bne_iff_ne.mpr c48
          by_cases c86 : a0_0 = 2
          ·rw [if_pos c86] at H
           have c86b0 : (a0_0 == 2) = true := beq_iff_eq.mpr c86
           have c86b1 : (a0_0 != 2) = false := bne_eq_false_iff_eq.mpr c86
           clear c86
           by_cases c87 : x5_13 = true
           ·subst c87
            have H1 : (if a0_5 ≥ (-10000) then (some (decide (a0_5 ≤ 10000))) else (some false)) = some r := by rw [if_pos rfl] at H; exact H
            clear H
            have H := H1
            clear H1
            by_cases c88 : a0_5 ≥ (-10000)
            ·rw [if_pos c88] at H
             have c88b0 : decide ((-10000) ≤ a0_5) = true := decide_eq_true c88
             clear c88
             obtain rfl := Option.some.inj H
             have hnb89 := NB312_313.out
             have hnc89 := NB313_312.out
             obtain ⟨⟨Z90_0, Y90_0⟩, ⟨Z90_1, Y90_1⟩, ⟨Z90_2, Y90_2⟩, ⟨Z90_3, Y90_3⟩, ⟨Z90_4, Y90_4⟩, ⟨Z90_5, Y90_5⟩, ⟨Z90_6, Y90_6⟩, ⟨Z90_7, Y90_7⟩, Z90_8, Y90_8⟩ := cs9_ BK312.out
             go_wp2
             go_ret
             exact ⟨by first | rfl | (simp [errW_none, errW_some] <;> rfl) | (simp [*, errW_none, errW_some] <;> rfl), bS2_ HB.out GE312.out GE313.out⟩
            ·rw [if_neg c88] at H
             have c88b0 : decide ((-10000) ≤ a0_5) = false := decide_eq_false c88
             clear c88
             obtain rfl := Option.some.inj H
             have hnb91 := NB312_313.out
             have hnc91 := NB313_312.out
             obtain ⟨⟨Z92_0, Y92_0⟩, ⟨Z92_1, Y92_1⟩, ⟨Z92_2, Y92_2⟩, ⟨Z92_3, Y92_3⟩, ⟨Z92_4, Y92_4⟩, ⟨Z92_5, Y92_5⟩, ⟨Z92_6, Y92_6⟩, ⟨Z92_7, Y92_7⟩, Z92_8, Y92_8⟩ := cs9_ BK312.out
             go_wp2
             go_ret
             exact ⟨by first | rfl | (simp [errW_none, errW_some] <;> rfl) | (simp [*, errW_none, errW_some] <;> rfl), bS2_ HB.out GE312.out GE313.out⟩
           ·replace c87 := Bool.eq_false_iff.mpr c87
            subst c87
            have H1 : (some false) = some r := by rw [if_neg (show ¬ (false = true) by decide)] at H; exact H
            clear H
            have H := H1
            clear H1
            obtain rfl := Option.some.inj H
            have hnb93 := NB312_313.out
            have hnc93 := NB313_312.out
            obtain ⟨⟨Z94_0, Y94_0⟩, ⟨Z94_1, Y94_1⟩, ⟨Z94_2, Y94_2⟩, ⟨Z94_3, Y94_3⟩, ⟨Z94_4, Y94_4⟩, ⟨Z94_5, Y94_5⟩, ⟨Z94_6, Y94_6⟩, ⟨Z94_7, Y94_7⟩, Z94_8, Y94_8⟩ := cs9_ BK312.out
            go_wp2
            go_ret
            exact ⟨by first | rfl | (simp [errW_none, errW_some] <;> rfl) | (simp [*, errW_none, errW_some] <;> rfl), bS2_ HB.out GE312.out GE313.out⟩
          ·rw [if_neg c86] at H
           have c86b0 : (a0_0 == 2) = false := beq_eq_false_iff_ne.mpr c86
           have c86b1 : (a0_0 != 2) = true := bne_iff_ne.mpr c86
           obtain rfl := Option.some.inj H
           have hnb95 := NB312_313.out
           have hnc95 := NB313_312.out
           obtain ⟨⟨Z96_0, Y96_0⟩, ⟨Z96_1, Y96_1⟩, ⟨Z96_2, Y96_2⟩, ⟨Z96_3, Y96_3⟩, ⟨Z96_4, Y96_4⟩, ⟨Z96_5, Y96_5⟩, ⟨Z96_6, Y96_6⟩, ⟨Z96_7, Y96_7⟩, Z96_8, Y96_8⟩ := cs9_ BK312.out
           go_wp2
           go_ret
           exact ⟨by first | rfl | (simp [errW_none, errW_some] <;> rfl) | (simp [*, errW_none, errW_some] <;> rfl), bS2_ HB.out GE312.out GE313.out⟩

end Go.Proofs.Ytpfnfofaajpdmaa.PWi

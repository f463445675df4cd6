/- Written by a program of this session: functions of the given program as plain Lean functions, the walks that show it, and the row of each law, for every input that its statement speaks of. -/
import Derived.Test.YtpfnfofaajpdmaaPWix0
import Derived.Test.YtpfnfofaajpdmaaPWix12
namespace Go.Proofs.Ytpfnfofaajpdmaa.PWi
open Go.RowKit Go.Proofs.YtpfnfofaajpdmaaW.PrintWords Go.Proofs.YtpfnfofaajpdmaaW.PrintLast Go.Proofs.YtpfnfofaajpdmaaW.PrintMore
attribute [local go_sem] max2_int min2_int max_two min_two max_three min_three max_four min_four   -- for this text's walks alone
set_option linter.unusedVariables false
set_option linter.unusedSimpArgs false

/-! ### variorumref03_May: function 23 -/
mutual
def variorumref03_May.l0 : Nat → List (S38) → Int → Int → Int → Int → Option (Bool)
 | 0, _, _, _, _, _ => none
 | k + 1, x0, x3, x4, x5, x6 => if x6 < (x0.length : Int) then (if 0 ≤ x6 then ((variorumref02_Fits.f ((rd_T38 x0 x6).f0)).bind fun t309 => (if t309 = true then (if ((rd_T38 x0 x6).f1) < 0 then (variorumref03_May.j1 k x0 x3 x4 x5 x6 true ((rd_T38 x0 x6).f0) ((rd_T38 x0 x6).f1) ((rd_T38 x0 x6).f2) ((rd_T38 x0 x6).f3)) else ((variorumref02_Fits.f ((rd_T38 x0 x6).f1)).bind fun t310 => (if t310 = true then (if ((rd_T38 x0 x6).f2) < 0 then (variorumref03_May.j1 k x0 x3 x4 x5 x6 true ((rd_T38 x0 x6).f0) ((rd_T38 x0 x6).f1) ((rd_T38 x0 x6).f2) ((rd_T38 x0 x6).f3)) else ((variorumref02_Fits.f ((rd_T38 x0 x6).f2)).bind fun t311 => (if t311 = true then (if ((rd_T38 x0 x6).f3) < 0 then (variorumref03_May.j1 k x0 x3 x4 x5 x6 true ((rd_T38 x0 x6).f0) ((rd_T38 x0 x6).f1) ((rd_T38 x0 x6).f2) ((rd_T38 x0 x6).f3)) else (variorumref03_May.j1 k x0 x3 x4 x5 x6 (decide (((rd_T38 x0 x6).f3) > 3)) ((rd_T38 x0 x6).f0) ((rd_T38 x0 x6).f1) ((rd_T38 x0 x6).f2) ((rd_T38 x0 x6).f3))) else (variorumref03_May.j1 k x0 x3 x4 x5 x6 true ((rd_T38 x0 x6).f0) ((rd_T38 x0 x6).f1) ((rd_T38 x0 x6).f2) ((rd_T38 x0 x6).f3))))) else (variorumref03_May.j1 k x0 x3 x4 x5 x6 true ((rd_T38 x0 x6).f0) ((rd_T38 x0 x6).f1) ((rd_T38 x0 x6).f2) ((rd_T38 x0 x6).f3))))) else (variorumref03_May.j1 k x0 x3 x4 x5 x6 true ((rd_T38 x0 x6).f0) ((rd_T38 x0 x6).f1) ((rd_T38 x0 x6).f2) ((rd_T38 x0 x6).f3)))) else (none)) else ((variorumref02_Fits.f x3).bind fun t304 => (if t304 = true then ((variorumref02_Fits.f x4).bind fun t305 => (if t305 = true then ((variorumref02_Fits.f x5).bind fun t306 => (some t306)) else (some false))) else (some false)))
def variorumref03_May.j1 : Nat → List (S38) → Int → Int → Int → Int → Bool → Int → Int → Int → Int → Option (Bool)
 | 0, _, _, _, _, _, _, _, _, _, _ => none
 | k + 1, x0, x3, x4, x5, x6, x56, x309000, x309001, x309002, x309003 => if x56 = true then (some false) else (if x309000 < 0 then (variorumref03_May.l0 k x0 (wrap64 (x3 - x309000)) (wrap64 (x4 + x309001)) (wrap64 (x5 + x309002)) (wrap64 (x6 + 1))) else (variorumref03_May.l0 k x0 (wrap64 (x3 + x309000)) (wrap64 (x4 + x309001)) (wrap64 (x5 + x309002)) (wrap64 (x6 + 1))))
end
def variorumref03_May.f (k : Nat) (l0 : List (S38)) : Option (Bool) := if (l0.length : Int) > 2000 then (some false) else (variorumref03_May.l0 k l0 0 0 0 0)
theorem variorumref03_May.mono_l : ∀ k, (∀ y0 y1 y2 y3 y4, LeO (variorumref03_May.l0 k y0 y1 y2 y3 y4) (variorumref03_May.l0 (k + 1) y0 y1 y2 y3 y4)) ∧ (∀ y0 y1 y2 y3 y4 y5 y6 y7 y8 y9, LeO (variorumref03_May.j1 k y0 y1 y2 y3 y4 y5 y6 y7 y8 y9) (variorumref03_May.j1 (k + 1) y0 y1 y2 y3 y4 y5 y6 y7 y8 y9))
 | 0 => ⟨fun _ _ _ _ _ r h => by simp [variorumref03_May.l0] at h, fun _ _ _ _ _ _ _ _ _ _ r h => by simp [variorumref03_May.j1] at h⟩
 | k + 1 => by
  obtain ⟨ih0, ih1⟩ := variorumref03_May.mono_l k
  refine ⟨?_, ?_⟩
  ·intro y0 y1 y2 y3 y4
   unfold variorumref03_May.l0
   repeat' first | (with_reducible first | exact ih0 _ _ _ _ _ | exact ih1 _ _ _ _ _ _ _ _ _ _ | exact LeO.refl _ | exact LeO.none _ | refine LeO.ite ?_ ?_ | refine LeO.bind ?_ (fun _ => ?_)) | exact LeO.none _ | refine LeO.ite ?_ ?_ | refine LeO.bind ?_ (fun _ => ?_)
  ·intro y0 y1 y2 y3 y4 y5 y6 y7 y8 y9
   unfold variorumref03_May.j1
   repeat' first | (with_reducible first | exact ih0 _ _ _ _ _ | exact ih1 _ _ _ _ _ _ _ _ _ _ | exact LeO.refl _ | exact LeO.none _ | refine LeO.ite ?_ ?_ | refine LeO.bind ?_ (fun _ => ?_)) | exact LeO.none _ | refine LeO.ite ?_ ?_ | refine LeO.bind ?_ (fun _ => ?_)
theorem variorumref03_May.mono : ∀ a0 k, LeO (variorumref03_May.f k a0) (variorumref03_May.f (k + 1) a0) := by
 intro a0 k
 obtain ⟨ih0, ih1⟩ := variorumref03_May.mono_l k
 unfold variorumref03_May.f
 repeat' first
   | (with_reducible exact ih0 _ _ _ _ _)
   | (with_reducible exact ih1 _ _ _ _ _ _ _ _ _ _)
   | (with_reducible exact LeO.refl _)
   | (with_reducible exact LeO.none _)
   | (with_reducible refine LeO.ite ?_ ?_)
   | (with_reducible refine LeO.bind ?_ (fun _ => ?_))
   | exact ih0 _ _ _ _ _
   | exact ih1 _ _ _ _ _ _ _ _ _ _
   | exact LeO.none _
   | refine LeO.ite ?_ ?_
   | refine LeO.bind ?_ (fun _ => ?_)
set_option maxHeartbeats 8000000 in
set_option maxRecDepth 100000 in
theorem variorumref03_May.calls (k : Nat) (A0 : Option Addr) (c0 : Nat) (l0 : List (S38)) (r : Bool) (w : World) (hr0 : Kd.C k38 w A0 l0.length l0) (hc0 : l0.length ≤ c0) (h : variorumref03_May.f k l0 = some r) :
  Calls Try.prog 23 #[.slice A0 l0.length c0] w fun e w' => e = .returned (.bool r) ∧ Below w.heap.size w w' := by
 have hu38 := Try.underlying38
 have HR0 := a_ hr0
 have HC0 := a_ hc0
 clear hr0 hc0
 have HB := a_ (Below.refl w.heap.size w)
 have H : (if (l0.length : Int) > 2000 then (some false) else (variorumref03_May.l0 k l0 0 0 0 0)) = some r := h
 clear h
 by_cases c2 : (l0.length : Int) > 2000
 ·rw [if_pos c2] at H
  have c2b0 : decide (2000 < (l0.length : Int)) = true := decide_eq_true c2
  have c2b1 : decide (2000 < l0.length) = true := decide_eq_true (by omega)
  clear c2
  obtain rfl := Option.some.inj H
  go_enter Try.func23, Try.ntmps23
  go_wp2
  go_ret
  exact ⟨by first | rfl | (simp [errW_none, errW_some] <;> rfl) | (simp [*, errW_none, errW_some] <;> rfl), bv_ HB.out⟩
 ·rw [if_neg c2] at H
  have c2b0 : decide (2000 < (l0.length : Int)) = false := decide_eq_false c2
  have c2b1 : decide (2000 < l0.length) = false := decide_eq_false (by omega)
  clear c2
  have H' := a_ H
  clear H
  go_enter Try.func23, Try.ntmps23
  go_wp2
  go_loopg [3, 4, 5, 6] k (fun kq v3 v4 v5 v6 w' => ∃ (x3_1 : Int) (x4_1 : Int) (x5_1 : Int) (x6_1 : Int), v3 = .int .i64 x3_1 ∧ v4 = .int .i64 x4_1 ∧ v5 = .int .i64 x5_1 ∧ v6 = .int .i64 x6_1 ∧ Aside0 (variorumref03_May.l0 kq l0 x3_1 x4_1 x5_1 x6_1 = some r) ∧ Aside0 (kq ≤ k) ∧ Aside0 (Below w.heap.size w w'))
  case atStart => exact ⟨(0), (0), (0), (0), (by first | rfl | (simp; done) | (simp [*]; done)), (by first | rfl | (simp; done) | (simp [*]; done)), (by first | rfl | (simp; done) | (simp [*]; done)), (by first | rfl | (simp; done) | (simp [*]; done)), H', ⟨Nat.le_refl _⟩, ⟨bv_ HB.out⟩⟩
  case round =>
   clear H'
   try clear c2
   try clear c2b0
   try clear c2b1
   try clear p2
   obtain ⟨x3_1, x4_1, x5_1, x6_1, rfl, rfl, rfl, rfl, HA, HK1, HB⟩ := hrel
   cases gk with
   | zero => exact absurd HA.out (by simp [variorumref03_May.l0])
   | succ k1 =>
    have H := HA.out
    clear HA
    simp only [variorumref03_May.l0] at H
    by_cases c3 : x6_1 < (l0.length : Int)
    ·rw [if_pos c3] at H
     have c3b0 : decide (x6_1 < (l0.length : Int)) = true := decide_eq_true c3
     clear c3
     by_cases c4 : 0 ≤ x6_1
     ·rw [if_pos c4] at H
      have c4b0 : decide (0 ≤ x6_1) = true := decide_eq_true c4
      clear c4
      have HC5 := a_ H
      clear H
      have p307 : 0 ≤ (x6_1 : Int) := od_
      have q307 : x6_1 < (l0.length : Int) := od_
      obtain ⟨ad307, e307, hx307_0, hx307_1, hx307_2, hx307_3⟩ := at_T38 (Kd.C_below HR0.out HB.out) x6_1 p307 q307
      cases e307
      replace p307 := eq_true p307
      replace q307 := eq_true q307
      go_upto_region 8 with (first | ((with_reducible refine gate_dst (N := 7) rfl ?_); refine box_event ?hg (N := 7) ?hd (cs := #[.int .i64 0, .int .i64 0, .int .i64 0, .int .i64 0]) (t := 38) ?hr ?_; (case hd => rfl); (case hg => rfl); (case hr => first | (go_simp; done) | (go_simp; rfl)); intro gb308 hg w6 hbox hb; have n0_ := a_ (bs_ HB.out hb); have n1_ := a_ (hbox); have n2_ := a_ ((by rw [hg]; exact (below_size (bv_ HB.out)) : w.heap.size ≤ gb308)); have n3_ := a_ ((by rw [hg]; exact (below_size (bv_ HB.out)) : w.heap.size ≤ gb308)); clear HB; have HB := n0_; have BK308 := n1_; have GW308 := n2_; have GE308 := n3_; clear n0_ n1_ n2_ n3_; clear hb hbox hg; obtain ⟨⟨Z7_0, Y7_0⟩, ⟨Z7_1, Y7_1⟩, ⟨Z7_2, Y7_2⟩, Z7_3, Y7_3⟩ := cs4_ BK308.out))
      (try simp only [Act.put, List.setIfInBounds_toArray, List.set_cons_zero, List.set_cons_succ])
      go_cut [56] (fun v56 wc => ∃ (kq : Nat) (x56_4 : Bool), v56 = .bool x56_4 ∧ Aside0 (variorumref03_May.j1 kq l0 x3_1 x4_1 x5_1 x6_1 x56_4 ((rd_T38 l0 x6_1).f0) ((rd_T38 l0 x6_1).f1) ((rd_T38 l0 x6_1).f2) ((rd_T38 l0 x6_1).f3) = some r) ∧ Aside0 (kq ≤ k1) ∧ Aside0 (wc.heap[gb308]? = some (.cells #[.int .i64 ((rd_T38 l0 x6_1).f0), .int .i64 ((rd_T38 l0 x6_1).f1), .int .i64 ((rd_T38 l0 x6_1).f2), .int .i64 ((rd_T38 l0 x6_1).f3)] 38 (0, 0))) ∧ Aside0 (Below w.heap.size w wc))
      case first =>
       have H := HC5.out
       clear HC5
       replace H := Option.bind_eq_some_iff.mp H
       obtain ⟨t309, A80, H⟩ := H
       replace H : (if t309 = true then (if ((rd_T38 l0 x6_1).f1) < 0 then (variorumref03_May.j1 k1 l0 x3_1 x4_1 x5_1 x6_1 true ((rd_T38 l0 x6_1).f0) ((rd_T38 l0 x6_1).f1) ((rd_T38 l0 x6_1).f2) ((rd_T38 l0 x6_1).f3)) else ((variorumref02_Fits.f ((rd_T38 l0 x6_1).f1)).bind fun t310 => (if t310 = true then (if ((rd_T38 l0 x6_1).f2) < 0 then (variorumref03_May.j1 k1 l0 x3_1 x4_1 x5_1 x6_1 true ((rd_T38 l0 x6_1).f0) ((rd_T38 l0 x6_1).f1) ((rd_T38 l0 x6_1).f2) ((rd_T38 l0 x6_1).f3)) else ((variorumref02_Fits.f ((rd_T38 l0 x6_1).f2)).bind fun t311 => (if t311 = true then (if ((rd_T38 l0 x6_1).f3) < 0 then (variorumref03_May.j1 k1 l0 x3_1 x4_1 x5_1 x6_1 true ((rd_T38 l0 x6_1).f0) ((rd_T38 l0 x6_1).f1) ((rd_T38 l0 x6_1).f2) ((rd_T38 l0 x6_1).f3)) else (variorumref03_May.j1 k1 l0 x3_1 x4_1 x5_1 x6_1 (decide (((rd_T38 l0 x6_1).f3) > 3)) ((rd_T38 l0 x6_1).f0) ((rd_T38 l0 x6_1).f1) ((rd_T38 l0 x6_1).f2) ((rd_T38 l0 x6_1).f3))) else (variorumref03_May.j1 k1 l0 x3_1 x4_1 x5_1 x6_1 true ((rd_T38 l0 x6_1).f0) ((rd_T38 l0 x6_1).f1) ((rd_T38 l0 x6_1).f2) ((rd_T38 l0 x6_1).f3))))) else (variorumref03_May.j1 k1 l0 x3_1 x4_1 x5_1 x6_1 true ((rd_T38 l0 x6_1).f0) ((rd_T38 l0 x6_1).f1) ((rd_T38 l0 x6_1).f2) ((rd_T38 l0 x6_1).f3))))) else (variorumref03_May.j1 k1 l0 x3_1 x4_1 x5_1 x6_1 true ((rd_T38 l0 x6_1).f0) ((rd_T38 l0 x6_1).f1) ((rd_T38 l0 x6_1).f2) ((rd_T38 l0 x6_1).f3))) = some r := H
       have A8 := a_ A80
       clear A80
       by_cases c9 : t309 = true
       ·subst c9
        have H1 : (if ((rd_T38 l0 x6_1).f1) < 0 then (variorumref03_May.j1 k1 l0 x3_1 x4_1 x5_1 x6_1 true ((rd_T38 l0 x6_1).f0) ((rd_T38 l0 x6_1).f1) ((rd_T38 l0 x6_1).f2) ((rd_T38 l0 x6_1).f3)) else ((variorumref02_Fits.f ((rd_T38 l0 x6_1).f1)).bind fun t310 => (if t310 = true then (if ((rd_T38 l0 x6_1).f2) < 0 then (variorumref03_May.j1 k1 l0 x3_1 x4_1 x5_1 x6_1 true ((rd_T38 l0 x6_1).f0) ((rd_T38 l0 x6_1).f1) ((rd_T38 l0 x6_1).f2) ((rd_T38 l0 x6_1).f3)) else ((variorumref02_Fits.f ((rd_T38 l0 x6_1).f2)).bind fun t311 => (if t311 = true then (if ((rd_T38 l0 x6_1).f3) < 0 then (variorumref03_May.j1 k1 l0 x3_1 x4_1 x5_1 x6_1 true ((rd_T38 l0 x6_1).f0) ((rd_T38 l0 x6_1).f1) ((rd_T38 l0 x6_1).f2) ((rd_T38 l0 x6_1).f3)) else (variorumref03_May.j1 k1 l0 x3_1 x4_1 x5_1 x6_1 (decide (((rd_T38 l0 x6_1).f3) > 3)) ((rd_T38 l0 x6_1).f0) ((rd_T38 l0 x6_1).f1) ((rd_T38 l0 x6_1).f2) ((rd_T38 l0 x6_1).f3))) else (variorumref03_May.j1 k1 l0 x3_1 x4_1 x5_1 x6_1 true ((rd_T38 l0 x6_1).f0) ((rd_T38 l0 x6_1).f1) ((rd_T38 l0 x6_1).f2) ((rd_T38 l0 x6_1).f3))))) else (variorumref03_May.j1 k1 l0 x3_1 x4_1 x5_1 x6_1 true ((rd_T38 l0 x6_1).f0) ((rd_T38 l0 x6_1).f1) ((rd_T38 l0 x6_1).f2) ((rd_T38 l0 x6_1).f3))))) = some r := by rw [if_pos rfl] at H; exact H
        clear H
        have H := H1
        clear H1
        by_cases c10 : ((rd_T38 l0 x6_1).f1) < 0
        ·rw [if_pos c10] at H
         have c10b0 : decide (((rd_T38 l0 x6_1).f1) < 0) = true := decide_eq_true c10
         clear c10
         (first | rw [c10b0] | (simp only [i64_w, i32_w]; rw [c10b0]) | skip)
         have H' := a_ H
         clear H
         obtain ⟨⟨Z11_0, Y11_0⟩, ⟨Z11_1, Y11_1⟩, ⟨Z11_2, Y11_2⟩, Z11_3, Y11_3⟩ := cs4_ BK308.out
         go_wp2_with (first | ((with_reducible refine gate_callee (f := 38) rfl ?_); refine gl_ (some 23) Try.func38 (by kernel_rfl) #[.int .i64 ((rd_T38 l0 x6_1).f0)] ?_; (with_reducible refine (variorumref02_Fits.calls ((rd_T38 l0 x6_1).f0) true _ A8.out).mono ?_); rintro e w' ⟨rfl, ⟨nd, rfl⟩⟩; refine ⟨_, rfl, ?_⟩))
         go_meet
         case rel => exact ⟨_, (true), (by first | rfl | (simp; done) | (simp [*]; done)), H', ⟨by have := HK1.out; first | omega | exact Nat.le_refl _⟩, ⟨kp0_ BK308.out⟩, ⟨bS1_ HB.out GE308.out⟩⟩
        ·rw [if_neg c10] at H
         have c10b0 : decide (((rd_T38 l0 x6_1).f1) < 0) = false := decide_eq_false c10
         clear c10
         (first | rw [c10b0] | (simp only [i64_w, i32_w]; rw [c10b0]) | skip)
         replace H := Option.bind_eq_some_iff.mp H
         obtain ⟨t310, A120, H⟩ := H
         replace H : (if t310 = true then (if ((rd_T38 l0 x6_1).f2) < 0 then (variorumref03_May.j1 k1 l0 x3_1 x4_1 x5_1 x6_1 true ((rd_T38 l0 x6_1).f0) ((rd_T38 l0 x6_1).f1) ((rd_T38 l0 x6_1).f2) ((rd_T38 l0 x6_1).f3)) else ((variorumref02_Fits.f ((rd_T38 l0 x6_1).f2)).bind fun t311 => (if t311 = true then (if ((rd_T38 l0 x6_1).f3) < 0 then (variorumref03_May.j1 k1 l0 x3_1 x4_1 x5_1 x6_1 true ((rd_T38 l0 x6_1).f0) ((rd_T38 l0 x6_1).f1) ((rd_T38 l0 x6_1).f2) ((rd_T38 l0 x6_1).f3)) else (variorumref03_May.j1 k1 l0 x3_1 x4_1 x5_1 x6_1 (decide (((rd_T38 l0 x6_1).f3) > 3)) ((rd_T38 l0 x6_1).f0) ((rd_T38 l0 x6_1).f1) ((rd_T38 l0 x6_1).f2) ((rd_T38 l0 x6_1).f3))) else (variorumref03_May.j1 k1 l0 x3_1 x4_1 x5_1 x6_1 true ((rd_T38 l0 x6_1).f0) ((rd_T38 l0 x6_1).f1) ((rd_T38 l0 x6_1).f2) ((rd_T38 l0 x6_1).f3))))) else (variorumref03_May.j1 k1 l0 x3_1 x4_1 x5_1 x6_1 true ((rd_T38 l0 x6_1).f0) ((rd_T38 l0 x6_1).f1) ((rd_T38 l0 x6_1).f2) ((rd_T38 l0 x6_1).f3))) = some r := H
         have A12 := a_ A120
         clear A120
         by_cases c13 : t310 = true
         ·subst c13
          have H1 : (if ((rd_T38 l0 x6_1).f2) < 0 then (variorumref03_May.j1 k1 l0 x3_1 x4_1 x5_1 x6_1 true ((rd_T38 l0 x6_1).f0) ((rd_T38 l0 x6_1).f1) ((rd_T38 l0 x6_1).f2) ((rd_T38 l0 x6_1).f3)) else ((variorumref02_Fits.f ((rd_T38 l0 x6_1).f2)).bind fun t311 => (if t311 = true then (if ((rd_T38 l0 x6_1).f3) < 0 then (variorumref03_May.j1 k1 l0 x3_1 x4_1 x5_1 x6_1 true ((rd_T38 l0 x6_1).f0) ((rd_T38 l0 x6_1).f1) ((rd_T38 l0 x6_1).f2) ((rd_T38 l0 x6_1).f3)) else (variorumref03_May.j1 k1 l0 x3_1 x4_1 x5_1 x6_1 (decide (((rd_T38 l0 x6_1).f3) > 3)) ((rd_T38 l0 x6_1).f0) ((rd_T38 l0 x6_1).f1) ((rd_T38 l0 x6_1).f2) ((rd_T38 l0 x6_1).f3))) else (variorumref03_May.j1 k1 l0 x3_1 x4_1 x5_1 x6_1 true ((rd_T38 l0 x6_1).f0) ((rd_T38 l0 x6_1).f1) ((rd_T38 l0 x6_1).f2) ((rd_T38 l0 x6_1).f3))))) = some r := by rw [if_pos rfl] at H; exact H
          clear H
          have H := H1
          clear H1
          by_cases c14 : ((rd_T38 l0 x6_1).f2) < 0
          ·rw [if_pos c14] at H
           have c14b0 : decide (((rd_T38 l0 x6_1).f2) < 0) = true := decide_eq_true c14
           clear c14
           have H' := a_ H
           clear H
           obtain ⟨⟨Z15_0, Y15_0⟩, ⟨Z15_1, Y15_1⟩, ⟨Z15_2, Y15_2⟩, Z15_3, Y15_3⟩ := cs4_ BK308.out
           go_wp2_with (first | ((with_reducible refine gate_callee (f := 38) rfl ?_); refine gl_ (some 23) Try.func38 (by kernel_rfl) #[.int .i64 ((rd_T38 l0 x6_1).f0)] ?_; (with_reducible refine (variorumref02_Fits.calls ((rd_T38 l0 x6_1).f0) true _ A8.out).mono ?_); rintro e w' ⟨rfl, ⟨nd, rfl⟩⟩; refine ⟨_, rfl, ?_⟩) | (go_at_call 38; (with_reducible refine (variorumref02_Fits.calls ((rd_T38 l0 x6_1).f1) true _ A12.out).mono ?_); rintro e w' ⟨rfl, ⟨nd, rfl⟩⟩))
           go_meet
           case rel => exact ⟨_, (true), (by first | rfl | (simp; done) | (simp [*]; done)), H', ⟨by have := HK1.out; first | omega | exact Nat.le_refl _⟩, ⟨kp0_ BK308.out⟩, ⟨bS1_ HB.out GE308.out⟩⟩
          ·rw [if_neg c14] at H
           have c14b0 : decide (((rd_T38 l0 x6_1).f2) < 0) = false := decide_eq_false c14
           clear c14
           replace H := Option.bind_eq_some_iff.mp H
           obtain ⟨t311, A160, H⟩ := H
           replace H : (if t311 = true then (if ((rd_T38 l0 x6_1).f3) < 0 then (variorumref03_May.j1 k1 l0 x3_1 x4_1 x5_1 x6_1 true ((rd_T38 l0 x6_1).f0) ((rd_T38 l0 x6_1).f1) ((rd_T38 l0 x6_1).f2) ((rd_T38 l0 x6_1).f3)) else (variorumref03_May.j1 k1 l0 x3_1 x4_1 x5_1 x6_1 (decide (((rd_T38 l0 x6_1).f3) > 3)) ((rd_T38 l0 x6_1).f0) ((rd_T38 l0 x6_1).f1) ((rd_T38 l0 x6_1).f2) ((rd_T38 l0 x6_1).f3))) else (variorumref03_May.j1 k1 l0 x3_1 x4_1 x5_1 x6_1 true ((rd_T38 l0 x6_1).f0) ((rd_T38 l0 x6_1).f1) ((rd_T38 l0 x6_1).f2) ((rd_T38 l0 x6_1).f3))) = some r := H
           have A16 := a_ A160
           clear A160
           by_cases c17 : t311 = true
           ·subst c17
            have H1 : (if ((rd_T38 l0 x6_1).f3) < 0 then (variorumref03_May.j1 k1 l0 x3_1 x4_1 x5_1 x6_1 true ((rd_T38 l0 x6_1).f0) ((rd_T38 l0 x6_1).f1) ((rd_T38 l0 x6_1).f2) ((rd_T38 l0 x6_1).f3)) else (variorumref03_May.j1 k1 l0 x3_1 x4_1 x5_1 x6_1 (decide (((rd_T38 l0 x6_1).f3) > 3)) ((rd_T38 l0 x6_1).f0) ((rd_T38 l0 x6_1).f1) ((rd_T38 l0 x6_1).f2) ((rd_T38 l0 x6_1).f3))) = some r := by rw [if_pos rfl] at H; exact H
            clear H
            have H := H1
            clear H1
            by_cases c18 : ((rd_T38 l0 x6_1).f3) < 0
            ·rw [if_pos c18] at H
             have c18b0 : decide (((rd_T38 l0 x6_1).f3) < 0) = true := decide_eq_true c18
             clear c18
             have H' := a_ H
             clear H
             obtain ⟨⟨Z19_0, Y19_0⟩, ⟨Z19_1, Y19_1⟩, ⟨Z19_2, Y19_2⟩, Z19_3, Y19_3⟩ := cs4_ BK308.out
             go_wp2_with (first | ((with_reducible refine gate_callee (f := 38) rfl ?_); refine gl_ (some 23) Try.func38 (by kernel_rfl) #[.int .i64 ((rd_T38 l0 x6_1).f0)] ?_; (with_reducible refine (variorumref02_Fits.calls ((rd_T38 l0 x6_1).f0) true _ A8.out).mono ?_); rintro e w' ⟨rfl, ⟨nd, rfl⟩⟩; refine ⟨_, rfl, ?_⟩) | (go_at_call 38; (with_reducible refine (variorumref02_Fits.calls ((rd_T38 l0 x6_1).f1) true _ A12.out).mono ?_); rintro e w' ⟨rfl, ⟨nd, rfl⟩⟩) | (go_at_call 38; (with_reducible refine (variorumref02_Fits.calls ((rd_T38 l0 x6_1).f2) true _ A16.out).mono ?_); rintro e w' ⟨rfl, ⟨nd, rfl⟩⟩))
             go_meet
             case rel => exact ⟨_, (true), (by first | rfl | (simp; done) | (simp [*]; done)), H', ⟨by have := HK1.out; first | omega | exact Nat.le_refl _⟩, ⟨kp0_ BK308.out⟩, ⟨bS1_ HB.out GE308.out⟩⟩
            ·rw [if_neg c18] at H
             have c18b0 : decide (((rd_T38 l0 x6_1).f3) < 0) = false := decide_eq_false c18
             clear c18
             have H' := a_ H
             clear H
             obtain ⟨⟨Z20_0, Y20_0⟩, ⟨Z20_1, Y20_1⟩, ⟨Z20_2, Y20_2⟩, Z20_3, Y20_3⟩ := cs4_ BK308.out
             go_wp2_with (first | ((with_reducible refine gate_callee (f := 38) rfl ?_); refine gl_ (some 23) Try.func38 (by kernel_rfl) #[.int .i64 ((rd_T38 l0 x6_1).f0)] ?_; (with_reducible refine (variorumref02_Fits.calls ((rd_T38 l0 x6_1).f0) true _ A8.out).mono ?_); rintro e w' ⟨rfl, ⟨nd, rfl⟩⟩; refine ⟨_, rfl, ?_⟩) | (go_at_call 38; (with_reducible refine (variorumref02_Fits.calls ((rd_T38 l0 x6_1).f1) true _ A12.out).mono ?_); rintro e w' ⟨rfl, ⟨nd, rfl⟩⟩) | (go_at_call 38; (with_reducible refine (variorumref02_Fits.calls ((rd_T38 l0 x6_1).f2) true _ A16.out).mono ?_); rintro e w' ⟨rfl, ⟨nd, rfl⟩⟩))
             go_meet
             case rel => exact ⟨_, (decide (((rd_T38 l0 x6_1).f3) > 3)), (by first | rfl | (simp; done) | (simp [*]; done)), H', ⟨by have := HK1.out; first | omega | exact Nat.le_refl _⟩, ⟨kp0_ BK308.out⟩, ⟨bS1_ HB.out GE308.out⟩⟩
           ·replace c17 := Bool.eq_false_iff.mpr c17
            subst c17
            have H1 : (variorumref03_May.j1 k1 l0 x3_1 x4_1 x5_1 x6_1 true ((rd_T38 l0 x6_1).f0) ((rd_T38 l0 x6_1).f1) ((rd_T38 l0 x6_1).f2) ((rd_T38 l0 x6_1).f3)) = some r := by rw [if_neg (show ¬ (false = true) by decide)] at H; exact H
            clear H
            have H := H1
            clear H1
            have H' := a_ H
            clear H
            obtain ⟨⟨Z21_0, Y21_0⟩, ⟨Z21_1, Y21_1⟩, ⟨Z21_2, Y21_2⟩, Z21_3, Y21_3⟩ := cs4_ BK308.out
            go_wp2_with (first | ((with_reducible refine gate_callee (f := 38) rfl ?_); refine gl_ (some 23) Try.func38 (by kernel_rfl) #[.int .i64 ((rd_T38 l0 x6_1).f0)] ?_; (with_reducible refine (variorumref02_Fits.calls ((rd_T38 l0 x6_1).f0) true _ A8.out).mono ?_); rintro e w' ⟨rfl, ⟨nd, rfl⟩⟩; refine ⟨_, rfl, ?_⟩) | (go_at_call 38; (with_reducible refine (variorumref02_Fits.calls ((rd_T38 l0 x6_1).f1) true _ A12.out).mono ?_); rintro e w' ⟨rfl, ⟨nd, rfl⟩⟩) | (go_at_call 38; (with_reducible refine (variorumref02_Fits.calls ((rd_T38 l0 x6_1).f2) false _ A16.out).mono ?_); rintro e w' ⟨rfl, ⟨nd, rfl⟩⟩))
            go_meet
            case rel => exact ⟨_, (true), (by first | rfl | (simp; done) | (simp [*]; done)), H', ⟨by have := HK1.out; first | omega | exact Nat.le_refl _⟩, ⟨kp0_ BK308.out⟩, ⟨bS1_ HB.out GE308.out⟩⟩
         ·replace c13 := Bool.eq_false_iff.mpr c13
          subst c13
          have H1 : (variorumref03_May.j1 k1 l0 x3_1 x4_1 x5_1 x6_1 true ((rd_T38 l0 x6_1).f0) ((rd_T38 l0 x6_1).f1) ((rd_T38 l0 x6_1).f2) ((rd_T38 l0 x6_1).f3)) = some r := by rw [if_neg (show ¬ (false = true) by decide)] at H; exact H
          clear H
          have H := H1
          clear H1
          have H' := a_ H
          clear H
          obtain ⟨⟨Z22_0, Y22_0⟩, ⟨Z22_1, Y22_1⟩, ⟨Z22_2, Y22_2⟩, Z22_3, Y22_3⟩ := cs4_ BK308.out
          go_wp2_with (first | ((with_reducible refine gate_callee (f := 38) rfl ?_); refine gl_ (some 23) Try.func38 (by kernel_rfl) #[.int .i64 ((rd_T38 l0 x6_1).f0)] ?_; (with_reducible refine (variorumref02_Fits.calls ((rd_T38 l0 x6_1).f0) true _ A8.out).mono ?_); rintro e w' ⟨rfl, ⟨nd, rfl⟩⟩; refine ⟨_, rfl, ?_⟩) | (go_at_call 38; (with_reducible refine (variorumref02_Fits.calls ((rd_T38 l0 x6_1).f1) false _ A12.out).mono ?_); rintro e w' ⟨rfl, ⟨nd, rfl⟩⟩))
          go_meet
          case rel => exact ⟨_, (true), (by first | rfl | (simp; done) | (simp [*]; done)), H', ⟨by have := HK1.out; first | omega | exact Nat.le_refl _⟩, ⟨kp0_ BK308.out⟩, ⟨bS1_ HB.out GE308.out⟩⟩
       ·replace c9 := Bool.eq_false_iff.mpr c9
        subst c9
        have H1 : (variorumref03_May.j1 k1 l0 x3_1 x4_1 x5_1 x6_1 true ((rd_T38 l0 x6_1).f0) ((rd_T38 l0 x6_1).f1) ((rd_T38 l0 x6_1).f2) ((rd_T38 l0 x6_1).f3)) = some r := by rw [if_neg (show ¬ (false = true) by decide)] at H; exact H
        clear H
        have H := H1
        clear H1
        have H' := a_ H
        clear H
        obtain ⟨⟨Z23_0, Y23_0⟩, ⟨Z23_1, Y23_1⟩, ⟨Z23_2, Y23_2⟩, Z23_3, Y23_3⟩ := cs4_ BK308.out
        go_wp2_with (first | ((with_reducible refine gate_callee (f := 38) rfl ?_); refine gl_ (some 23) Try.func38 (by kernel_rfl) #[.int .i64 ((rd_T38 l0 x6_1).f0)] ?_; (with_reducible refine (variorumref02_Fits.calls ((rd_T38 l0 x6_1).f0) false _ A8.out).mono ?_); rintro e w' ⟨rfl, ⟨nd, rfl⟩⟩; refine ⟨_, rfl, ?_⟩))
        go_meet
        case rel => exact ⟨_, (true), (by first | rfl | (simp; done) | (simp [*]; done)), H', ⟨by have := HK1.out; first | omega | exact Nat.le_refl _⟩, ⟨kp0_ BK308.out⟩, ⟨bS1_ HB.out GE308.out⟩⟩
      case rest =>
       clear HC5
       try clear c1
       try clear c2
       try clear c2b0
       try clear c2b1
       try clear p2
       try clear c3
       try clear c3b0
       try clear p3
       try clear q3
       try clear hx3
       try clear c4
       try clear c4b0
       try clear c9
       try clear c10
       try clear c10b0
       try clear c13
       try clear c14
       try clear c14b0
       try clear c17
       try clear c18
       try clear c18b0
       try clear c23
       try clear Z11_0
       try clear Z11_1
       try clear Z11_2
       try clear Z11_3
       try clear Z15_0
       try clear Z15_1
       try clear Z15_2
       try clear Z15_3
       try clear Z19_0
       try clear Z19_1
       try clear Z19_2
       try clear Z19_3
       try clear Z20_0
       try clear Z20_1
       try clear Z20_2
       try clear Z20_3
       try clear Z21_0
       try clear Z21_1
       try clear Z21_2
       try clear Z21_3
       try clear Z22_0
       try clear Z22_1
       try clear Z22_2
       try clear Z22_3
       try clear Z23_0
       try clear Z23_1
       try clear Z23_2
       try clear Z23_3
       try clear Z7_0
       try clear Z7_1
       try clear Z7_2
       try clear Z7_3
       try clear Y11_0
       try clear Y11_1
       try clear Y11_2
       try clear Y11_3
       try clear Y15_0
       try clear Y15_1
       try clear Y15_2
       try clear Y15_3
       try clear Y19_0
       try clear Y19_1
       try clear Y19_2
       try clear Y19_3
       try clear Y20_0
       try clear Y20_1
       try clear Y20_2
       try clear Y20_3
       try clear Y21_0
       try clear Y21_1
       try clear Y21_2
       try clear Y21_3
       try clear Y22_0
       try clear Y22_1
       try clear Y22_2
       try clear Y22_3
       try clear Y23_0
       try clear Y23_1
       try clear Y23_2
       try clear Y23_3
       try clear Y7_0
       try clear Y7_1
       try clear Y7_2
       try clear Y7_3
       try clear hx307_0
       try clear hx307_1
       try clear hx307_2
       try clear hx307_3
       try clear p2
       try clear p307
       try clear q307
       obtain ⟨kq, x56_4, rfl, HA, HJ4, BK308, HB⟩ := hcut
       cases kq with
       | zero => exact absurd HA.out (by simp [variorumref03_May.j1])
       | succ kj4 =>
        have H := HA.out
        clear HA
        simp only [variorumref03_May.j1] at H
        by_cases c24 : x56_4 = true
        ·subst c24
         have H1 : (some false) = some r := by rw [if_pos rfl] at H; exact H
         clear H
         have H := H1
         clear H1
         obtain rfl := Option.some.inj H
         go_wp2
         go_ret
         exact ⟨by first | rfl | (simp [errW_none, errW_some] <;> rfl) | (simp [*, errW_none, errW_some] <;> rfl), bS1_ HB.out GE308.out⟩
        ·replace c24 := Bool.eq_false_iff.mpr c24
         subst c24
         have H1 : (if ((rd_T38 l0 x6_1).f0) < 0 then (variorumref03_May.l0 kj4 l0 (wrap64 (x3_1 - ((rd_T38 l0 x6_1).f0))) (wrap64 (x4_1 + ((rd_T38 l0 x6_1).f1))) (wrap64 (x5_1 + ((rd_T38 l0 x6_1).f2))) (wrap64 (x6_1 + 1))) else (variorumref03_May.l0 kj4 l0 (wrap64 (x3_1 + ((rd_T38 l0 x6_1).f0))) (wrap64 (x4_1 + ((rd_T38 l0 x6_1).f1))) (wrap64 (x5_1 + ((rd_T38 l0 x6_1).f2))) (wrap64 (x6_1 + 1)))) = some r := by rw [if_neg (show ¬ (false = true) by decide)] at H; exact H
         clear H
         have H := H1
         clear H1
         by_cases c25 : ((rd_T38 l0 x6_1).f0) < 0
         ·rw [if_pos c25] at H
          have c25b0 : decide (((rd_T38 l0 x6_1).f0) < 0) = true := decide_eq_true c25
          clear c25
          have H' := a_ H
          clear H
          obtain ⟨⟨Z26_0, Y26_0⟩, ⟨Z26_1, Y26_1⟩, ⟨Z26_2, Y26_2⟩, Z26_3, Y26_3⟩ := cs4_ BK308.out
          go_wp2
          go_roundg kj4
          case measure => have := HK1.out; have := HJ4.out; omega
          case rel => exact ⟨(wrap64 (x3_1 - ((rd_T38 l0 x6_1).f0))), (wrap64 (x4_1 + ((rd_T38 l0 x6_1).f1))), (wrap64 (x5_1 + ((rd_T38 l0 x6_1).f2))), (wrap64 (x6_1 + 1)), (by first | rfl | (simp; done) | (simp [*]; done)), (by first | rfl | (simp; done) | (simp [*]; done)), (by first | rfl | (simp; done) | (simp [*]; done)), (by first | rfl | (simp; done) | (simp [*]; done)), H', ⟨by have := HK1.out; have := HJ4.out; omega⟩, ⟨bS1_ HB.out GE308.out⟩⟩
         ·rw [if_neg c25] at H
          have c25b0 : decide (((rd_T38 l0 x6_1).f0) < 0) = false := decide_eq_false c25
          clear c25
          have H' := a_ H
          clear H
          obtain ⟨⟨Z27_0, Y27_0⟩, ⟨Z27_1, Y27_1⟩, ⟨Z27_2, Y27_2⟩, Z27_3, Y27_3⟩ := cs4_ BK308.out
          go_wp2
          go_roundg kj4
          case measure => have := HK1.out; have := HJ4.out; omega
          case rel => exact ⟨(wrap64 (x3_1 + ((rd_T38 l0 x6_1).f0))), (wrap64 (x4_1 + ((rd_T38 l0 x6_1).f1))), (wrap64 (x5_1 + ((rd_T38 l0 x6_1).f2))), (wrap64 (x6_1 + 1)), (by first | rfl | (simp; done) | (simp [*]; done)), (by first | rfl | (simp; done) | (simp [*]; done)), (by first | rfl | (simp; done) | (simp [*]; done)), (by first | rfl | (simp; done) | (simp [*]; done)), H', ⟨by have := HK1.out; have := HJ4.out; omega⟩, ⟨bS1_ HB.out GE308.out⟩⟩
     ·rw [if_neg c4] at H
      exact absurd H (by simp)
    ·rw [if_neg c3] at H
     have c3b0 : decide (x6_1 < (l0.length : Int)) = false := decide_eq_false c3
     clear c3
     replace H := Option.bind_eq_some_iff.mp H
     obtain ⟨t304, A280, H⟩ := H
     replace H : (if t304 = true then ((variorumref02_Fits.f x4_1).bind fun t305 => (if t305 = true then ((variorumref02_Fits.f x5_1).bind fun t306 => (some t306)) else (some false))) else (some false)) = some r := H
     have A28 := a_ A280
     clear A280
     by_cases c29 : t304 = true
     ·subst c29
      have H1 : ((variorumref02_Fits.f x4_1).bind fun t305 => (if t305 = true then ((variorumref02_Fits.f x5_1).bind fun t306 => (some t306)) else (some false))) = some r := by rw [if_pos rfl] at H; exact H
      clear H
      have H := H1
      clear H1
      replace H := Option.bind_eq_some_iff.mp H
      obtain ⟨t305, A300, H⟩ := H
      replace H : (if t305 = true then ((variorumref02_Fits.f x5_1).bind fun t306 => (some t306)) else (some false)) = some r := H
      have A30 := a_ A300
      clear A300
      by_cases c31 : t305 = true
      ·subst c31
       have H1 : ((variorumref02_Fits.f x5_1).bind fun t306 => (some t306)) = some r := by rw [if_pos rfl] at H; exact H
       clear H
       have H := H1
       clear H1
       replace H := Option.bind_eq_some_iff.mp H
       obtain ⟨t306, A320, H⟩ := H
       replace H : (some t306) = some r := H
       have A32 := a_ A320
       clear A320
       obtain rfl := Option.some.inj H
       go_wp2_with (first | ((with_reducible refine gate_callee (f := 38) rfl ?_); refine gl_ (some 77) Try.func38 (by kernel_rfl) #[.int .i64 x3_1] ?_; (with_reducible refine (variorumref02_Fits.calls x3_1 true _ A28.out).mono ?_); rintro e w' ⟨rfl, ⟨nd, rfl⟩⟩; refine ⟨_, rfl, ?_⟩) | (go_at_call 38; (with_reducible refine (variorumref02_Fits.calls x4_1 true _ A30.out).mono ?_); rintro e w' ⟨rfl, ⟨nd, rfl⟩⟩) | (go_at_call 38; (with_reducible refine (variorumref02_Fits.calls x5_1 t306 _ A32.out).mono ?_); rintro e w' ⟨rfl, ⟨nd, rfl⟩⟩))
       go_ret
       exact ⟨by first | rfl | (simp [errW_none, errW_some] <;> rfl) | (simp [*, errW_none, errW_some] <;> rfl), bv_ HB.out⟩
      ·replace c31 := Bool.eq_false_iff.mpr c31
       subst c31
       have H1 : (some false) = some r := by rw [if_neg (show ¬ (false = true) by decide)] at H; exact H
       clear H
       have H := H1
       clear H1
       obtain rfl := Option.some.inj H
       go_wp2_with (first | ((with_reducible refine gate_callee (f := 38) rfl ?_); refine gl_ (some 77) Try.func38 (by kernel_rfl) #[.int .i64 x3_1] ?_; (with_reducible refine (variorumref02_Fits.calls x3_1 true _ A28.out).mono ?_); rintro e w' ⟨rfl, ⟨nd, rfl⟩⟩; refine ⟨_, rfl, ?_⟩) | (go_at_call 38; (with_reducible refine (variorumref02_Fits.calls x4_1 false _ A30.out).mono ?_); rintro e w' ⟨rfl, ⟨nd, rfl⟩⟩))
       go_ret
       exact ⟨by first | rfl | (simp [errW_none, errW_some] <;> rfl) | (simp [*, errW_none, errW_some] <;> rfl), bv_ HB.out⟩
     ·replace c29 := Bool.eq_false_iff.mpr c29
      subst c29
      have H1 : (some false) = some r := by rw [if_neg (show ¬ (false = true) by decide)] at H; exact H
      clear H
      have H := H1
      clear H1
      obtain rfl := Option.some.inj H
      go_wp2_with (first | ((with_reducible refine gate_callee (f := 38) rfl ?_); refine gl_ (some 77) Try.func38 (by kernel_rfl) #[.int .i64 x3_1] ?_; (with_reducible refine (variorumref02_Fits.calls x3_1 false _ A28.out).mono ?_); rintro e w' ⟨rfl, ⟨nd, rfl⟩⟩; refine ⟨_, rfl, ?_⟩))
      go_ret
      exact ⟨by first | rfl | (simp [errW_none, errW_some] <;> rfl) | (simp [*, errW_none, errW_some] <;> rfl), bv_ HB.out⟩

end Go.Proofs.Ytpfnfofaajpdmaa.PWi

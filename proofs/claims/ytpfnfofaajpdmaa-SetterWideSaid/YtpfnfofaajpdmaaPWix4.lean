/- Written by a program of this session: functions of the given program as plain Lean functions, the walks that show it, and the row of each law, for every input that its statement speaks of. -/
import Derived.Test.YtpfnfofaajpdmaaPWix0
namespace Go.Proofs.Ytpfnfofaajpdmaa.PWi
open Go.RowKit Go.Proofs.YtpfnfofaajpdmaaW.PrintWords Go.Proofs.YtpfnfofaajpdmaaW.PrintLast Go.Proofs.YtpfnfofaajpdmaaW.PrintMore
attribute [local go_sem] max2_int min2_int max_two min_two max_three min_three max_four min_four   -- for this text's walks alone
set_option linter.unusedVariables false
set_option linter.unusedSimpArgs false

/-! ### scaled_Fits: function 41 -/
def scaled_Fits.f (a0 : Int) : Option (Bool) := if a0 ≥ (-1073741823) then (some (decide (a0 ≤ 1073741823))) else (some false)
set_option maxHeartbeats 8000000 in
set_option maxRecDepth 100000 in
theorem scaled_Fits.calls (a0 : Int) (r : Bool) (w : World) (h : scaled_Fits.f a0 = some r) :
  Calls Try.prog 41 #[.int .i64 a0] w fun e w' => e = .returned (.bool r) ∧ Drawn0 w w' := by
 have H : (if a0 ≥ (-1073741823) then (some (decide (a0 ≤ 1073741823))) else (some false)) = some r := h
 clear h
 by_cases c2 : a0 ≥ (-1073741823)
 ·rw [if_pos c2] at H
  have c2b0 : decide ((-1073741823) ≤ a0) = true := decide_eq_true c2
  clear c2
  obtain rfl := Option.some.inj H
  go_enter Try.func41, Try.ntmps41
  go_wp2
  go_ret
  exact ⟨by first | rfl | (simp; done) | (simp [*]; done), by repeat (first | exact Drawn0.refl _ | apply Drawn0.step)⟩
 ·rw [if_neg c2] at H
  have c2b0 : decide ((-1073741823) ≤ a0) = false := decide_eq_false c2
  clear c2
  obtain rfl := Option.some.inj H
  go_enter Try.func41, Try.ntmps41
  go_wp2
  go_ret
  exact ⟨by first | rfl | (simp; done) | (simp [*]; done), by repeat (first | exact Drawn0.refl _ | apply Drawn0.step)⟩

/-! ### glue_amount: function 42 -/
def glue_amount.f (a0 : Int) : Option (Bool) := if a0 ≥ 0 then ((scaled_Fits.f a0).bind fun t101 => (some t101)) else (some false)
set_option maxHeartbeats 8000000 in
set_option maxRecDepth 100000 in
theorem glue_amount.calls (a0 : Int) (r : Bool) (w : World) (h : glue_amount.f a0 = some r) :
  Calls Try.prog 42 #[.int .i64 a0] w fun e w' => e = .returned (.bool r) ∧ Drawn0 w w' := by
 have H : (if a0 ≥ 0 then ((scaled_Fits.f a0).bind fun t101 => (some t101)) else (some false)) = some r := h
 clear h
 by_cases c2 : a0 ≥ 0
 ·rw [if_pos c2] at H
  have c2b0 : decide (0 ≤ a0) = true := decide_eq_true c2
  clear c2
  replace H := Option.bind_eq_some_iff.mp H
  obtain ⟨t101, A30, H⟩ := H
  replace H : (some t101) = some r := H
  have A3 := a_ A30
  clear A30
  obtain rfl := Option.some.inj H
  go_enter Try.func42, Try.ntmps42
  go_wp2_with (first | (go_at_call 41; (with_reducible refine (scaled_Fits.calls a0 t101 _ A3.out).mono ?_); rintro e w' ⟨rfl, ⟨nd, rfl⟩⟩))
  go_ret
  exact ⟨by first | rfl | (simp; done) | (simp [*]; done), by repeat (first | exact Drawn0.refl _ | apply Drawn0.step)⟩
 ·rw [if_neg c2] at H
  have c2b0 : decide (0 ≤ a0) = false := decide_eq_false c2
  clear c2
  obtain rfl := Option.some.inj H
  go_enter Try.func42, Try.ntmps42
  go_wp2
  go_ret
  exact ⟨by first | rfl | (simp; done) | (simp [*]; done), by repeat (first | exact Drawn0.refl _ | apply Drawn0.step)⟩

/-! ### glue_May: function 27 -/
def glue_May.l0 : Nat → List (S38) → Int → Int → Int → Int → Int → Option (Bool)
 | 0, _, _, _, _, _, _ => none
 | k + 1, x9, x10, x11, x103000, x103001, x103002 => if x11 < x10 then (if 0 ≤ x11 then (if x11 < (x9.length : Int) then ((scaled_Fits.f ((rd_T38 x9 x11).f0)).bind fun t108 => (if t108 = true then ((glue_amount.f ((rd_T38 x9 x11).f1)).bind fun t109 => (if t109 = true then ((glue_amount.f ((rd_T38 x9 x11).f2)).bind fun t110 => (if t110 = true then (if ((rd_T38 x9 x11).f3) < 0 then (some false) else (if ((rd_T38 x9 x11).f3) > 3 then (some false) else (glue_May.l0 k x9 x10 (wrap64 (x11 + 1)) (wrap64 (x103000 + (mx ((rd_T38 x9 x11).f0) (wrap64 (-((rd_T38 x9 x11).f0)))))) (wrap64 (x103001 + ((rd_T38 x9 x11).f1))) (wrap64 (x103002 + ((rd_T38 x9 x11).f2)))))) else (some false))) else (some false))) else (some false))) else (none)) else (none)) else ((glue_amount.f x103000).bind fun t103 => (if t103 = true then ((glue_amount.f x103001).bind fun t104 => (if t104 = true then ((glue_amount.f x103002).bind fun t105 => (some t105)) else (some false))) else (some false)))
def glue_May.f (k : Nat) (l0 : List (S38)) : Option (Bool) := if (l0.length : Int) > 2000 then (some false) else (glue_May.l0 k l0 (l0.length : Int) 0 0 0 0)
theorem glue_May.mono_l : ∀ k, (∀ y0 y1 y2 y3 y4 y5, LeO (glue_May.l0 k y0 y1 y2 y3 y4 y5) (glue_May.l0 (k + 1) y0 y1 y2 y3 y4 y5))
 | 0 => fun _ _ _ _ _ _ r h => by simp [glue_May.l0] at h
 | k + 1 => by
  have ih0 := glue_May.mono_l k
  ·intro y0 y1 y2 y3 y4 y5
   unfold glue_May.l0
   repeat' first | (with_reducible first | exact ih0 _ _ _ _ _ _ | exact LeO.refl _ | exact LeO.none _ | refine LeO.ite ?_ ?_ | refine LeO.bind ?_ (fun _ => ?_)) | exact LeO.none _ | refine LeO.ite ?_ ?_ | refine LeO.bind ?_ (fun _ => ?_)
theorem glue_May.mono : ∀ a0 k, LeO (glue_May.f k a0) (glue_May.f (k + 1) a0) := by
 intro a0 k
 have ih0 := glue_May.mono_l k
 unfold glue_May.f
 repeat' first
   | (with_reducible exact ih0 _ _ _ _ _ _)
   | (with_reducible exact LeO.refl _)
   | (with_reducible exact LeO.none _)
   | (with_reducible refine LeO.ite ?_ ?_)
   | (with_reducible refine LeO.bind ?_ (fun _ => ?_))
   | exact ih0 _ _ _ _ _ _
   | exact LeO.none _
   | refine LeO.ite ?_ ?_
   | refine LeO.bind ?_ (fun _ => ?_)
set_option maxHeartbeats 8000000 in
set_option maxRecDepth 100000 in
theorem glue_May.calls (k : Nat) (A0 : Option Addr) (c0 : Nat) (l0 : List (S38)) (r : Bool) (w : World) (hr0 : Kd.C k38 w A0 l0.length l0) (hc0 : l0.length ≤ c0) (h : glue_May.f k l0 = some r) :
  Calls Try.prog 27 #[.slice A0 l0.length c0] w fun e w' => e = .returned (.bool r) ∧ Below w.heap.size w w' := by
 have hu82 := Try.underlying82
 have hu38 := Try.underlying38
 have HR0 := a_ hr0
 have HC0 := a_ hc0
 clear hr0 hc0
 have HB := a_ (Below.refl w.heap.size w)
 have H : (if (l0.length : Int) > 2000 then (some false) else (glue_May.l0 k l0 (l0.length : Int) 0 0 0 0)) = some r := h
 clear h
 by_cases c2 : (l0.length : Int) > 2000
 ·rw [if_pos c2] at H
  have c2b0 : decide (2000 < (l0.length : Int)) = true := decide_eq_true c2
  have c2b1 : decide (2000 < l0.length) = true := decide_eq_true (by omega)
  clear c2
  obtain rfl := Option.some.inj H
  go_enter Try.func27, Try.ntmps27
  go_wp2
  go_ret
  exact ⟨by first | rfl | (simp [errW_none, errW_some] <;> rfl) | (simp [*, errW_none, errW_some] <;> rfl), bv_ HB.out⟩
 ·rw [if_neg c2] at H
  have c2b0 : decide (2000 < (l0.length : Int)) = false := decide_eq_false c2
  have c2b1 : decide (2000 < l0.length) = false := decide_eq_false (by omega)
  clear c2
  have H' := a_ H
  clear H
  go_enter Try.func27, Try.ntmps27
  go_wp2_with (first | ((with_reducible refine gate_dst (N := 3) rfl ?_); refine box_event ?hg (N := 3) ?hd (cs := #[.int .i64 0, .int .i64 0, .int .i64 0]) (t := 82) ?hr ?_; (case hd => rfl); (case hg => rfl); (case hr => first | (go_simp; done) | (go_simp; rfl)); intro gb102 hg w3 hbox hb; have n0_ := a_ (bs_ HB.out hb); have n1_ := a_ (hbox); have n2_ := a_ ((by rw [hg]; exact (below_size (bv_ HB.out)) : w.heap.size ≤ gb102)); have n3_ := a_ ((by rw [hg]; exact (below_size (bv_ HB.out)) : w.heap.size ≤ gb102)); clear HB; have HB := n0_; have BK102 := n1_; have GW102 := n2_; have GE102 := n3_; clear n0_ n1_ n2_ n3_; clear hb hbox hg))
  go_loopg [11] k (fun kq v11 w' => ∃ (x11_1 : Int) (x103000_1 : Int) (x103001_1 : Int) (x103002_1 : Int), v11 = .int .i64 x11_1 ∧ Aside0 (glue_May.l0 kq l0 (l0.length : Int) x11_1 x103000_1 x103001_1 x103002_1 = some r) ∧ Aside0 (kq ≤ k) ∧ Aside0 (w'.heap[gb102]? = some (.cells #[.int .i64 x103000_1, .int .i64 x103001_1, .int .i64 x103002_1] 82 (0, 0))) ∧ Aside0 (Below w.heap.size w w'))
  case atStart => exact ⟨(0), (0), (0), (0), (by first | rfl | (simp; done) | (simp [*]; done)), H', ⟨Nat.le_refl _⟩, ⟨kv_ BK102.out⟩, ⟨bS1_ HB.out GE102.out⟩⟩
  case round =>
   clear H'
   try clear c2
   try clear c2b0
   try clear c2b1
   try clear p2
   obtain ⟨x11_1, x103000_1, x103001_1, x103002_1, rfl, HA, HK1, BK102, HB⟩ := hrel
   cases gk with
   | zero => exact absurd HA.out (by simp [glue_May.l0])
   | succ k1 =>
    have H := HA.out
    clear HA
    simp only [glue_May.l0] at H
    by_cases c4 : x11_1 < (l0.length : Int)
    ·rw [if_pos c4] at H
     have c4b0 : decide (x11_1 < (l0.length : Int)) = true := decide_eq_true c4
     clear c4
     by_cases c5 : 0 ≤ x11_1
     ·rw [if_pos c5] at H
      have c5b0 : decide (0 ≤ x11_1) = true := decide_eq_true c5
      clear c5
      by_cases c6 : x11_1 < (l0.length : Int)
      ·rw [if_pos c6] at H
       have c6b0 : decide (x11_1 < (l0.length : Int)) = true := decide_eq_true c6
       clear c6
       replace H := Option.bind_eq_some_iff.mp H
       obtain ⟨t108, A70, H⟩ := H
       replace H : (if t108 = true then ((glue_amount.f ((rd_T38 l0 x11_1).f1)).bind fun t109 => (if t109 = true then ((glue_amount.f ((rd_T38 l0 x11_1).f2)).bind fun t110 => (if t110 = true then (if ((rd_T38 l0 x11_1).f3) < 0 then (some false) else (if ((rd_T38 l0 x11_1).f3) > 3 then (some false) else (glue_May.l0 k1 l0 (l0.length : Int) (wrap64 (x11_1 + 1)) (wrap64 (x103000_1 + (mx ((rd_T38 l0 x11_1).f0) (wrap64 (-((rd_T38 l0 x11_1).f0)))))) (wrap64 (x103001_1 + ((rd_T38 l0 x11_1).f1))) (wrap64 (x103002_1 + ((rd_T38 l0 x11_1).f2)))))) else (some false))) else (some false))) else (some false)) = some r := H
       have A7 := a_ A70
       clear A70
       by_cases c8 : t108 = true
       ·subst c8
        have H1 : ((glue_amount.f ((rd_T38 l0 x11_1).f1)).bind fun t109 => (if t109 = true then ((glue_amount.f ((rd_T38 l0 x11_1).f2)).bind fun t110 => (if t110 = true then (if ((rd_T38 l0 x11_1).f3) < 0 then (some false) else (if ((rd_T38 l0 x11_1).f3) > 3 then (some false) else (glue_May.l0 k1 l0 (l0.length : Int) (wrap64 (x11_1 + 1)) (wrap64 (x103000_1 + (mx ((rd_T38 l0 x11_1).f0) (wrap64 (-((rd_T38 l0 x11_1).f0)))))) (wrap64 (x103001_1 + ((rd_T38 l0 x11_1).f1))) (wrap64 (x103002_1 + ((rd_T38 l0 x11_1).f2)))))) else (some false))) else (some false))) = some r := by rw [if_pos rfl] at H; exact H
        clear H
        have H := H1
        clear H1
        replace H := Option.bind_eq_some_iff.mp H
        obtain ⟨t109, A90, H⟩ := H
        replace H : (if t109 = true then ((glue_amount.f ((rd_T38 l0 x11_1).f2)).bind fun t110 => (if t110 = true then (if ((rd_T38 l0 x11_1).f3) < 0 then (some false) else (if ((rd_T38 l0 x11_1).f3) > 3 then (some false) else (glue_May.l0 k1 l0 (l0.length : Int) (wrap64 (x11_1 + 1)) (wrap64 (x103000_1 + (mx ((rd_T38 l0 x11_1).f0) (wrap64 (-((rd_T38 l0 x11_1).f0)))))) (wrap64 (x103001_1 + ((rd_T38 l0 x11_1).f1))) (wrap64 (x103002_1 + ((rd_T38 l0 x11_1).f2)))))) else (some false))) else (some false)) = some r := H
        have A9 := a_ A90
        clear A90
        by_cases c10 : t109 = true
        ·subst c10
         have H1 : ((glue_amount.f ((rd_T38 l0 x11_1).f2)).bind fun t110 => (if t110 = true then (if ((rd_T38 l0 x11_1).f3) < 0 then (some false) else (if ((rd_T38 l0 x11_1).f3) > 3 then (some false) else (glue_May.l0 k1 l0 (l0.length : Int) (wrap64 (x11_1 + 1)) (wrap64 (x103000_1 + (mx ((rd_T38 l0 x11_1).f0) (wrap64 (-((rd_T38 l0 x11_1).f0)))))) (wrap64 (x103001_1 + ((rd_T38 l0 x11_1).f1))) (wrap64 (x103002_1 + ((rd_T38 l0 x11_1).f2)))))) else (some false))) = some r := by rw [if_pos rfl] at H; exact H
         clear H
         have H := H1
         clear H1
         replace H := Option.bind_eq_some_iff.mp H
         obtain ⟨t110, A110, H⟩ := H
         replace H : (if t110 = true then (if ((rd_T38 l0 x11_1).f3) < 0 then (some false) else (if ((rd_T38 l0 x11_1).f3) > 3 then (some false) else (glue_May.l0 k1 l0 (l0.length : Int) (wrap64 (x11_1 + 1)) (wrap64 (x103000_1 + (mx ((rd_T38 l0 x11_1).f0) (wrap64 (-((rd_T38 l0 x11_1).f0)))))) (wrap64 (x103001_1 + ((rd_T38 l0 x11_1).f1))) (wrap64 (x103002_1 + ((rd_T38 l0 x11_1).f2)))))) else (some false)) = some r := H
         have A11 := a_ A110
         clear A110
         by_cases c12 : t110 = true
         ·subst c12
          have H1 : (if ((rd_T38 l0 x11_1).f3) < 0 then (some false) else (if ((rd_T38 l0 x11_1).f3) > 3 then (some false) else (glue_May.l0 k1 l0 (l0.length : Int) (wrap64 (x11_1 + 1)) (wrap64 (x103000_1 + (mx ((rd_T38 l0 x11_1).f0) (wrap64 (-((rd_T38 l0 x11_1).f0)))))) (wrap64 (x103001_1 + ((rd_T38 l0 x11_1).f1))) (wrap64 (x103002_1 + ((rd_T38 l0 x11_1).f2)))))) = some r := by rw [if_pos rfl] at H; exact H
          clear H
          have H := H1
          clear H1
          by_cases c13 : ((rd_T38 l0 x11_1).f3) < 0
          ·rw [if_pos c13] at H
           have c13b0 : decide (((rd_T38 l0 x11_1).f3) < 0) = true := decide_eq_true c13
           clear c13
           obtain rfl := Option.some.inj H
           have p106 : 0 ≤ (x11_1 : Int) := od_
           have q106 : x11_1 < (l0.length : Int) := od_
           obtain ⟨ad106, e106, hx106_0, hx106_1, hx106_2, hx106_3⟩ := at_T38 (Kd.C_below HR0.out HB.out) x11_1 p106 q106
           cases e106
           replace p106 := eq_true p106
           replace q106 := eq_true q106
           go_wp2_with (first | ((with_reducible refine gate_dst (N := 5) rfl ?_); refine box_event ?hg (N := 5) ?hd (cs := #[.int .i64 0, .int .i64 0, .int .i64 0, .int .i64 0]) (t := 38) ?hr ?_; (case hd => rfl); (case hg => rfl); (case hr => first | (go_simp; done) | (go_simp; rfl)); intro gb107 hg w14 hbox hb; have n0_ := a_ (kb_ BK102.out hb); have n1_ := a_ (below_step (bS1_ HB.out GE102.out) hb); have n2_ := a_ (hbox); have n3_ := a_ ((by rw [hg]; exact (below_size (bS1_ HB.out GE102.out)) : w.heap.size ≤ gb107)); have n4_ := a_ ((by rw [hg]; exact (below_size (bS1_ HB.out GE102.out)) : w.heap.size ≤ gb107)); have n5_ := a_ ((by rw [hg]; exact Nat.ne_of_lt (blk_lt (kv_ BK102.out)) : gb102 ≠ gb107)); have n6_ := a_ ((by rw [hg]; exact Nat.ne_of_gt (blk_lt (kv_ BK102.out)) : gb107 ≠ gb102)); clear BK102; clear HB; have BK102 := n0_; have HB := n1_; have BK107 := n2_; have GW107 := n3_; have GE107 := n4_; have NB102_107 := n5_; have NB107_102 := n6_; clear n0_ n1_ n2_ n3_ n4_ n5_ n6_; clear hb hbox hg; have hnb15 := NB107_102.out; have hnc15 := NB102_107.out; obtain ⟨⟨Z16_0, Y16_0⟩, ⟨Z16_1, Y16_1⟩, ⟨Z16_2, Y16_2⟩, Z16_3, Y16_3⟩ := cs4_ BK107.out) | ((with_reducible refine gate_callee (f := 41) rfl ?_); refine gl_ (some 17) Try.func41 (by kernel_rfl) #[.int .i64 ((rd_T38 l0 x11_1).f0)] ?_; (with_reducible refine (scaled_Fits.calls ((rd_T38 l0 x11_1).f0) true _ A7.out).mono ?_); rintro e w' ⟨rfl, ⟨nd, rfl⟩⟩; refine ⟨_, rfl, ?_⟩) | (go_at_call 42; (with_reducible refine (glue_amount.calls ((rd_T38 l0 x11_1).f1) true _ A9.out).mono ?_); rintro e w' ⟨rfl, ⟨nd, rfl⟩⟩) | (go_at_call 42; (with_reducible refine (glue_amount.calls ((rd_T38 l0 x11_1).f2) true _ A11.out).mono ?_); rintro e w' ⟨rfl, ⟨nd, rfl⟩⟩))
           go_ret
           exact ⟨by first | rfl | (simp [errW_none, errW_some] <;> rfl) | (simp [*, errW_none, errW_some] <;> rfl), bS2_ HB.out GE102.out GE107.out⟩
          ·rw [if_neg c13] at H
           have c13b0 : decide (((rd_T38 l0 x11_1).f3) < 0) = false := decide_eq_false c13
           clear c13
           by_cases c17 : ((rd_T38 l0 x11_1).f3) > 3
           ·rw [if_pos c17] at H
            have c17b0 : decide (3 < ((rd_T38 l0 x11_1).f3)) = true := decide_eq_true c17
            clear c17
            obtain rfl := Option.some.inj H
            have p106 : 0 ≤ (x11_1 : Int) := od_
            have q106 : x11_1 < (l0.length : Int) := od_
            obtain ⟨ad106, e106, hx106_0, hx106_1, hx106_2, hx106_3⟩ := at_T38 (Kd.C_below HR0.out HB.out) x11_1 p106 q106
            cases e106
            replace p106 := eq_true p106
            replace q106 := eq_true q106
            go_wp2_with (first | ((with_reducible refine gate_dst (N := 5) rfl ?_); refine box_event ?hg (N := 5) ?hd (cs := #[.int .i64 0, .int .i64 0, .int .i64 0, .int .i64 0]) (t := 38) ?hr ?_; (case hd => rfl); (case hg => rfl); (case hr => first | (go_simp; done) | (go_simp; rfl)); intro gb107 hg w18 hbox hb; have n0_ := a_ (kb_ BK102.out hb); have n1_ := a_ (below_step (bS1_ HB.out GE102.out) hb); have n2_ := a_ (hbox); have n3_ := a_ ((by rw [hg]; exact (below_size (bS1_ HB.out GE102.out)) : w.heap.size ≤ gb107)); have n4_ := a_ ((by rw [hg]; exact (below_size (bS1_ HB.out GE102.out)) : w.heap.size ≤ gb107)); have n5_ := a_ ((by rw [hg]; exact Nat.ne_of_lt (blk_lt (kv_ BK102.out)) : gb102 ≠ gb107)); have n6_ := a_ ((by rw [hg]; exact Nat.ne_of_gt (blk_lt (kv_ BK102.out)) : gb107 ≠ gb102)); clear BK102; clear HB; have BK102 := n0_; have HB := n1_; have BK107 := n2_; have GW107 := n3_; have GE107 := n4_; have NB102_107 := n5_; have NB107_102 := n6_; clear n0_ n1_ n2_ n3_ n4_ n5_ n6_; clear hb hbox hg; have hnb19 := NB107_102.out; have hnc19 := NB102_107.out; obtain ⟨⟨Z20_0, Y20_0⟩, ⟨Z20_1, Y20_1⟩, ⟨Z20_2, Y20_2⟩, Z20_3, Y20_3⟩ := cs4_ BK107.out) | ((with_reducible refine gate_callee (f := 41) rfl ?_); refine gl_ (some 17) Try.func41 (by kernel_rfl) #[.int .i64 ((rd_T38 l0 x11_1).f0)] ?_; (with_reducible refine (scaled_Fits.calls ((rd_T38 l0 x11_1).f0) true _ A7.out).mono ?_); rintro e w' ⟨rfl, ⟨nd, rfl⟩⟩; refine ⟨_, rfl, ?_⟩) | (go_at_call 42; (with_reducible refine (glue_amount.calls ((rd_T38 l0 x11_1).f1) true _ A9.out).mono ?_); rintro e w' ⟨rfl, ⟨nd, rfl⟩⟩) | (go_at_call 42; (with_reducible refine (glue_amount.calls ((rd_T38 l0 x11_1).f2) true _ A11.out).mono ?_); rintro e w' ⟨rfl, ⟨nd, rfl⟩⟩))
            go_ret
            exact ⟨by first | rfl | (simp [errW_none, errW_some] <;> rfl) | (simp [*, errW_none, errW_some] <;> rfl), bS2_ HB.out GE102.out GE107.out⟩
           ·rw [if_neg c17] at H
            have c17b0 : decide (3 < ((rd_T38 l0 x11_1).f3)) = false := decide_eq_false c17
            clear c17
            obtain ⟨ji21, hji21⟩ : ∃ j_ : Int, (mx ((rd_T38 l0 x11_1).f0) (wrap64 (-((rd_T38 l0 x11_1).f0)))) = j_ := ⟨_, rfl⟩
            replace H : (glue_May.l0 k1 l0 (l0.length : Int) (wrap64 (x11_1 + 1)) (wrap64 (x103000_1 + (ji21))) (wrap64 (x103001_1 + ((rd_T38 l0 x11_1).f1))) (wrap64 (x103002_1 + ((rd_T38 l0 x11_1).f2)))) = some r := by first | (rw [hji21] at H; exact H) | (simp only [hji21] at H ⊢; exact H)
            (try rw [hji21] at A7)
            (try rw [hji21] at A9)
            (try rw [hji21] at A11)
            have hji21_ : (if ((rd_T38 l0 x11_1).f0) < (wrap64 (-((rd_T38 l0 x11_1).f0))) then (wrap64 (-((rd_T38 l0 x11_1).f0))) else ((rd_T38 l0 x11_1).f0)) = ji21 := hji21
            have H' := a_ H
            clear H
            have p106 : 0 ≤ (x11_1 : Int) := od_
            have q106 : x11_1 < (l0.length : Int) := od_
            obtain ⟨ad106, e106, hx106_0, hx106_1, hx106_2, hx106_3⟩ := at_T38 (Kd.C_below HR0.out HB.out) x11_1 p106 q106
            cases e106
            replace p106 := eq_true p106
            replace q106 := eq_true q106
            go_wp2_with (first | ((with_reducible refine gate_dst (N := 5) rfl ?_); refine box_event ?hg (N := 5) ?hd (cs := #[.int .i64 0, .int .i64 0, .int .i64 0, .int .i64 0]) (t := 38) ?hr ?_; (case hd => rfl); (case hg => rfl); (case hr => first | (go_simp; done) | (go_simp; rfl)); intro gb107 hg w22 hbox hb; have n0_ := a_ (kb_ BK102.out hb); have n1_ := a_ (below_step (bS1_ HB.out GE102.out) hb); have n2_ := a_ (hbox); have n3_ := a_ ((by rw [hg]; exact (below_size (bS1_ HB.out GE102.out)) : w.heap.size ≤ gb107)); have n4_ := a_ ((by rw [hg]; exact (below_size (bS1_ HB.out GE102.out)) : w.heap.size ≤ gb107)); have n5_ := a_ ((by rw [hg]; exact Nat.ne_of_lt (blk_lt (kv_ BK102.out)) : gb102 ≠ gb107)); have n6_ := a_ ((by rw [hg]; exact Nat.ne_of_gt (blk_lt (kv_ BK102.out)) : gb107 ≠ gb102)); clear BK102; clear HB; have BK102 := n0_; have HB := n1_; have BK107 := n2_; have GW107 := n3_; have GE107 := n4_; have NB102_107 := n5_; have NB107_102 := n6_; clear n0_ n1_ n2_ n3_ n4_ n5_ n6_; clear hb hbox hg; have hnb23 := NB107_102.out; have hnc23 := NB102_107.out; obtain ⟨⟨Z24_0, Y24_0⟩, ⟨Z24_1, Y24_1⟩, ⟨Z24_2, Y24_2⟩, Z24_3, Y24_3⟩ := cs4_ BK107.out) | ((with_reducible refine gate_callee (f := 41) rfl ?_); refine gl_ (some 17) Try.func41 (by kernel_rfl) #[.int .i64 ((rd_T38 l0 x11_1).f0)] ?_; (with_reducible refine (scaled_Fits.calls ((rd_T38 l0 x11_1).f0) true _ A7.out).mono ?_); rintro e w' ⟨rfl, ⟨nd, rfl⟩⟩; refine ⟨_, rfl, ?_⟩) | (go_at_call 42; (with_reducible refine (glue_amount.calls ((rd_T38 l0 x11_1).f1) true _ A9.out).mono ?_); rintro e w' ⟨rfl, ⟨nd, rfl⟩⟩) | (go_at_call 42; (with_reducible refine (glue_amount.calls ((rd_T38 l0 x11_1).f2) true _ A11.out).mono ?_); rintro e w' ⟨rfl, ⟨nd, rfl⟩⟩; obtain ⟨⟨Z25_0, Y25_0⟩, ⟨Z25_1, Y25_1⟩, Z25_2, Y25_2⟩ := cs3_ BK102.out))
            go_roundg k1
            case measure => have := HK1.out; omega
            case rel => exact ⟨(wrap64 (x11_1 + 1)), (wrap64 (x103000_1 + (ji21))), (wrap64 (x103001_1 + ((rd_T38 l0 x11_1).f1))), (wrap64 (x103002_1 + ((rd_T38 l0 x11_1).f2))), (by first | rfl | (simp; done) | (simp [*]; done)), H', ⟨by have := HK1.out; omega⟩, ⟨kp1_ BK102.out NB102_107.out⟩, ⟨bS2_ HB.out GE102.out GE107.out⟩⟩
         ·replace c12 := Bool.eq_false_iff.mpr c12
          subst c12
          have H1 : (some false) = some r := by rw [if_neg (show ¬ (false = true) by decide)] at H; exact H
          clear H
          have H := H1
          clear H1
          obtain rfl := Option.some.inj H
          have p106 : 0 ≤ (x11_1 : Int) := od_
          have q106 : x11_1 < (l0.length : Int) := od_
          obtain ⟨ad106, e106, hx106_0, hx106_1, hx106_2, hx106_3⟩ := at_T38 (Kd.C_below HR0.out HB.out) x11_1 p106 q106
          cases e106
          replace p106 := eq_true p106
          replace q106 := eq_true q106
          go_wp2_with (first | ((with_reducible refine gate_dst (N := 5) rfl ?_); refine box_event ?hg (N := 5) ?hd (cs := #[.int .i64 0, .int .i64 0, .int .i64 0, .int .i64 0]) (t := 38) ?hr ?_; (case hd => rfl); (case hg => rfl); (case hr => first | (go_simp; done) | (go_simp; rfl)); intro gb107 hg w26 hbox hb; have n0_ := a_ (kb_ BK102.out hb); have n1_ := a_ (below_step (bS1_ HB.out GE102.out) hb); have n2_ := a_ (hbox); have n3_ := a_ ((by rw [hg]; exact (below_size (bS1_ HB.out GE102.out)) : w.heap.size ≤ gb107)); have n4_ := a_ ((by rw [hg]; exact (below_size (bS1_ HB.out GE102.out)) : w.heap.size ≤ gb107)); have n5_ := a_ ((by rw [hg]; exact Nat.ne_of_lt (blk_lt (kv_ BK102.out)) : gb102 ≠ gb107)); have n6_ := a_ ((by rw [hg]; exact Nat.ne_of_gt (blk_lt (kv_ BK102.out)) : gb107 ≠ gb102)); clear BK102; clear HB; have BK102 := n0_; have HB := n1_; have BK107 := n2_; have GW107 := n3_; have GE107 := n4_; have NB102_107 := n5_; have NB107_102 := n6_; clear n0_ n1_ n2_ n3_ n4_ n5_ n6_; clear hb hbox hg; have hnb27 := NB107_102.out; have hnc27 := NB102_107.out; obtain ⟨⟨Z28_0, Y28_0⟩, ⟨Z28_1, Y28_1⟩, ⟨Z28_2, Y28_2⟩, Z28_3, Y28_3⟩ := cs4_ BK107.out) | ((with_reducible refine gate_callee (f := 41) rfl ?_); refine gl_ (some 17) Try.func41 (by kernel_rfl) #[.int .i64 ((rd_T38 l0 x11_1).f0)] ?_; (with_reducible refine (scaled_Fits.calls ((rd_T38 l0 x11_1).f0) true _ A7.out).mono ?_); rintro e w' ⟨rfl, ⟨nd, rfl⟩⟩; refine ⟨_, rfl, ?_⟩) | (go_at_call 42; (with_reducible refine (glue_amount.calls ((rd_T38 l0 x11_1).f1) true _ A9.out).mono ?_); rintro e w' ⟨rfl, ⟨nd, rfl⟩⟩) | (go_at_call 42; (with_reducible refine (glue_amount.calls ((rd_T38 l0 x11_1).f2) false _ A11.out).mono ?_); rintro e w' ⟨rfl, ⟨nd, rfl⟩⟩))
          go_ret
          exact ⟨by first | rfl | (simp [errW_none, errW_some] <;> rfl) | (simp [*, errW_none, errW_some] <;> rfl), bS2_ HB.out GE102.out GE107.out⟩
        ·replace c10 := Bool.eq_false_iff.mpr c10
         subst c10
         have H1 : (some false) = some r := by rw [if_neg (show ¬ (false = true) by decide)] at H; exact H
         clear H
         have H := H1
         clear H1
         obtain rfl := Option.some.inj H
         have p106 : 0 ≤ (x11_1 : Int) := od_
         have q106 : x11_1 < (l0.length : Int) := od_
         obtain ⟨ad106, e106, hx106_0, hx106_1, hx106_2, hx106_3⟩ := at_T38 (Kd.C_below HR0.out HB.out) x11_1 p106 q106
         cases e106
         replace p106 := eq_true p106
         replace q106 := eq_true q106
         go_wp2_with (first | ((with_reducible refine gate_dst (N := 5) rfl ?_); refine box_event ?hg (N := 5) ?hd (cs := #[.int .i64 0, .int .i64 0, .int .i64 0, .int .i64 0]) (t := 38) ?hr ?_; (case hd => rfl); (case hg => rfl); (case hr => first | (go_simp; done) | (go_simp; rfl)); intro gb107 hg w29 hbox hb; have n0_ := a_ (kb_ BK102.out hb); have n1_ := a_ (below_step (bS1_ HB.out GE102.out) hb); have n2_ := a_ (hbox); have n3_ := a_ ((by rw [hg]; exact (below_size (bS1_ HB.out GE102.out)) : w.heap.size ≤ gb107)); have n4_ := a_ ((by rw [hg]; exact (below_size (bS1_ HB.out GE102.out)) : w.heap.size ≤ gb107)); have n5_ := a_ ((by rw [hg]; exact Nat.ne_of_lt (blk_lt (kv_ BK102.out)) : gb102 ≠ gb107)); have n6_ := a_ ((by rw [hg]; exact Nat.ne_of_gt (blk_lt (kv_ BK102.out)) : gb107 ≠ gb102)); clear BK102; clear HB; have BK102 := n0_; have HB := n1_; have BK107 := n2_; have GW107 := n3_; have GE107 := n4_; have NB102_107 := n5_; have NB107_102 := n6_; clear n0_ n1_ n2_ n3_ n4_ n5_ n6_; clear hb hbox hg; have hnb30 := NB107_102.out; have hnc30 := NB102_107.out; obtain ⟨⟨Z31_0, Y31_0⟩, ⟨Z31_1, Y31_1⟩, ⟨Z31_2, Y31_2⟩, Z31_3, Y31_3⟩ := cs4_ BK107.out) | ((with_reducible refine gate_callee (f := 41) rfl ?_); refine gl_ (some 17) Try.func41 (by kernel_rfl) #[.int .i64 ((rd_T38 l0 x11_1).f0)] ?_; (with_reducible refine (scaled_Fits.calls ((rd_T38 l0 x11_1).f0) true _ A7.out).mono ?_); rintro e w' ⟨rfl, ⟨nd, rfl⟩⟩; refine ⟨_, rfl, ?_⟩) | (go_at_call 42; (with_reducible refine (glue_amount.calls ((rd_T38 l0 x11_1).f1) false _ A9.out).mono ?_); rintro e w' ⟨rfl, ⟨nd, rfl⟩⟩))
         go_ret
         exact ⟨by first | rfl | (simp [errW_none, errW_some] <;> rfl) | (simp [*, errW_none, errW_some] <;> rfl), bS2_ HB.out GE102.out GE107.out⟩
       ·replace c8 := Bool.eq_false_iff.mpr c8
        subst c8
        have H1 : (some false) = some r := by rw [if_neg (show ¬ (false = true) by decide)] at H; exact H
        clear H
        have H := H1
        clear H1
        obtain rfl := Option.some.inj H
        have p106 : 0 ≤ (x11_1 : Int) := od_
        have q106 : x11_1 < (l0.length : Int) := od_
        obtain ⟨ad106, e106, hx106_0, hx106_1, hx106_2, hx106_3⟩ := at_T38 (Kd.C_below HR0.out HB.out) x11_1 p106 q106
        cases e106
        replace p106 := eq_true p106
        replace q106 := eq_true q106
        go_wp2_with (first | ((with_reducible refine gate_dst (N := 5) rfl ?_); refine box_event ?hg (N := 5) ?hd (cs := #[.int .i64 0, .int .i64 0, .int .i64 0, .int .i64 0]) (t := 38) ?hr ?_; (case hd => rfl); (case hg => rfl); (case hr => first | (go_simp; done) | (go_simp; rfl)); intro gb107 hg w32 hbox hb; have n0_ := a_ (kb_ BK102.out hb); have n1_ := a_ (below_step (bS1_ HB.out GE102.out) hb); have n2_ := a_ (hbox); have n3_ := a_ ((by rw [hg]; exact (below_size (bS1_ HB.out GE102.out)) : w.heap.size ≤ gb107)); have n4_ := a_ ((by rw [hg]; exact (below_size (bS1_ HB.out GE102.out)) : w.heap.size ≤ gb107)); have n5_ := a_ ((by rw [hg]; exact Nat.ne_of_lt (blk_lt (kv_ BK102.out)) : gb102 ≠ gb107)); have n6_ := a_ ((by rw [hg]; exact Nat.ne_of_gt (blk_lt (kv_ BK102.out)) : gb107 ≠ gb102)); clear BK102; clear HB; have BK102 := n0_; have HB := n1_; have BK107 := n2_; have GW107 := n3_; have GE107 := n4_; have NB102_107 := n5_; have NB107_102 := n6_; clear n0_ n1_ n2_ n3_ n4_ n5_ n6_; clear hb hbox hg; have hnb33 := NB107_102.out; have hnc33 := NB102_107.out; obtain ⟨⟨Z34_0, Y34_0⟩, ⟨Z34_1, Y34_1⟩, ⟨Z34_2, Y34_2⟩, Z34_3, Y34_3⟩ := cs4_ BK107.out) | ((with_reducible refine gate_callee (f := 41) rfl ?_); refine gl_ (some 17) Try.func41 (by kernel_rfl) #[.int .i64 ((rd_T38 l0 x11_1).f0)] ?_; (with_reducible refine (scaled_Fits.calls ((rd_T38 l0 x11_1).f0) false _ A7.out).mono ?_); rintro e w' ⟨rfl, ⟨nd, rfl⟩⟩; refine ⟨_, rfl, ?_⟩))
        go_ret
        exact ⟨by first | rfl | (simp [errW_none, errW_some] <;> rfl) | (simp [*, errW_none, errW_some] <;> rfl), bS2_ HB.out GE102.out GE107.out⟩
      ·rw [if_neg c6] at H
       exact absurd H (by simp)
     ·rw [if_neg c5] at H
      exact absurd H (by simp)
    ·rw [if_neg c4] at H
     have c4b0 : decide (x11_1 < (l0.length : Int)) = false := decide_eq_false c4
     clear c4
     replace H := Option.bind_eq_some_iff.mp H
     obtain ⟨t103, A350, H⟩ := H
     replace H : (if t103 = true then ((glue_amount.f x103001_1).bind fun t104 => (if t104 = true then ((glue_amount.f x103002_1).bind fun t105 => (some t105)) else (some false))) else (some false)) = some r := H
     have A35 := a_ A350
     clear A350
     by_cases c36 : t103 = true
     ·subst c36
      have H1 : ((glue_amount.f x103001_1).bind fun t104 => (if t104 = true then ((glue_amount.f x103002_1).bind fun t105 => (some t105)) else (some false))) = some r := by rw [if_pos rfl] at H; exact H
      clear H
      have H := H1
      clear H1
      replace H := Option.bind_eq_some_iff.mp H
      obtain ⟨t104, A370, H⟩ := H
      replace H : (if t104 = true then ((glue_amount.f x103002_1).bind fun t105 => (some t105)) else (some false)) = some r := H
      have A37 := a_ A370
      clear A370
      by_cases c38 : t104 = true
      ·subst c38
       have H1 : ((glue_amount.f x103002_1).bind fun t105 => (some t105)) = some r := by rw [if_pos rfl] at H; exact H
       clear H
       have H := H1
       clear H1
       replace H := Option.bind_eq_some_iff.mp H
       obtain ⟨t105, A390, H⟩ := H
       replace H : (some t105) = some r := H
       have A39 := a_ A390
       clear A390
       obtain rfl := Option.some.inj H
       obtain ⟨⟨Z40_0, Y40_0⟩, ⟨Z40_1, Y40_1⟩, Z40_2, Y40_2⟩ := cs3_ BK102.out
       go_wp2_with (first | ((with_reducible refine gate_callee (f := 42) rfl ?_); refine gl_ (some 66) Try.func42 (by kernel_rfl) #[.int .i64 x103000_1] ?_; (with_reducible refine (glue_amount.calls x103000_1 true _ A35.out).mono ?_); rintro e w' ⟨rfl, ⟨nd, rfl⟩⟩; refine ⟨_, rfl, ?_⟩) | (go_at_call 42; (with_reducible refine (glue_amount.calls x103001_1 true _ A37.out).mono ?_); rintro e w' ⟨rfl, ⟨nd, rfl⟩⟩) | (go_at_call 42; (with_reducible refine (glue_amount.calls x103002_1 t105 _ A39.out).mono ?_); rintro e w' ⟨rfl, ⟨nd, rfl⟩⟩))
       go_ret
       exact ⟨by first | rfl | (simp [errW_none, errW_some] <;> rfl) | (simp [*, errW_none, errW_some] <;> rfl), bS1_ HB.out GE102.out⟩
      ·replace c38 := Bool.eq_false_iff.mpr c38
       subst c38
       have H1 : (some false) = some r := by rw [if_neg (show ¬ (false = true) by decide)] at H; exact H
       clear H
       have H := H1
       clear H1
       obtain rfl := Option.some.inj H
       obtain ⟨⟨Z41_0, Y41_0⟩, ⟨Z41_1, Y41_1⟩, Z41_2, Y41_2⟩ := cs3_ BK102.out
       go_wp2_with (first | ((with_reducible refine gate_callee (f := 42) rfl ?_); refine gl_ (some 66) Try.func42 (by kernel_rfl) #[.int .i64 x103000_1] ?_; (with_reducible refine (glue_amount.calls x103000_1 true _ A35.out).mono ?_); rintro e w' ⟨rfl, ⟨nd, rfl⟩⟩; refine ⟨_, rfl, ?_⟩) | (go_at_call 42; (with_reducible refine (glue_amount.calls x103001_1 false _ A37.out).mono ?_); rintro e w' ⟨rfl, ⟨nd, rfl⟩⟩))
       go_ret
       exact ⟨by first | rfl | (simp [errW_none, errW_some] <;> rfl) | (simp [*, errW_none, errW_some] <;> rfl), bS1_ HB.out GE102.out⟩
     ·replace c36 := Bool.eq_false_iff.mpr c36
      subst c36
      have H1 : (some false) = some r := by rw [if_neg (show ¬ (false = true) by decide)] at H; exact H
      clear H
      have H := H1
      clear H1
      obtain rfl := Option.some.inj H
      obtain ⟨⟨Z42_0, Y42_0⟩, ⟨Z42_1, Y42_1⟩, Z42_2, Y42_2⟩ := cs3_ BK102.out
      go_wp2_with (first | ((with_reducible refine gate_callee (f := 42) rfl ?_); refine gl_ (some 66) Try.func42 (by kernel_rfl) #[.int .i64 x103000_1] ?_; (with_reducible refine (glue_amount.calls x103000_1 false _ A35.out).mono ?_); rintro e w' ⟨rfl, ⟨nd, rfl⟩⟩; refine ⟨_, rfl, ?_⟩))
      go_ret
      exact ⟨by first | rfl | (simp [errW_none, errW_some] <;> rfl) | (simp [*, errW_none, errW_some] <;> rfl), bS1_ HB.out GE102.out⟩

end Go.Proofs.Ytpfnfofaajpdmaa.PWi

/- Written by a program of this session: functions of the given program as plain Lean functions, the walks that show it, and the row of each law, for every input that its statement speaks of. -/
import Derived.Test.YtnkdopihaohimaaPBrx0
import Derived.Test.YtnkdopihaohimaaPBrx8
import Derived.Test.YtnkdopihaohimaaPBrx9
import Derived.Test.YtnkdopihaohimaaPBrx12
import Derived.Test.YtnkdopihaohimaaPBrx17
namespace Go.Proofs.Ytnkdopihaohimaa.PBr
open Go.RowKit Go.Proofs.YtnkdopihaohimaaW.PrintWords Go.Proofs.YtnkdopihaohimaaW.PrintLast Go.Proofs.YtnkdopihaohimaaW.PrintMore
attribute [local go_sem] max2_int min2_int max_two min_two max_three min_three max_four min_four   -- for this text's walks alone
set_option linter.unusedVariables false
set_option linter.unusedSimpArgs false

/-! ### variorumlaw11_BreakerLeast: function 4 -/
def variorumlaw11_BreakerLeast.j0 : Nat → List (S47) → Int → Bool → Int → Int → Option (Bool)
 | 0, _, _, _, _, _ => none
 | k + 1, x0, x1, x25, x345000, x345001 => if x25 = true then ((variorumlaw11_fixed.f k).bind fun t347 => (some t347)) else ((breaker_Best.f k x0 x1 x345001).bind fun bt348 => ((variorumref11_Choice.f k x0 x345000).bind fun t353 => ((variorumref10_Total.f k x0 t353 x1 x345001).bind fun bt356 => (if bt348.2.2 = true then ((variorumref10_Total.f k x0 bt348.1 x1 x345001).bind fun bt358 => (if bt358.2 = true then (if bt358.1 = bt348.2.1 then (if bt356.2 = true then (some (decide (bt348.2.1 ≤ bt356.1))) else (some true)) else (none)) else (none))) else (if bt356.2 = true then (none) else (some ((bt348.1.length : Int) == 0)))))))
def variorumlaw11_BreakerLeast.f (k : Nat) (l0 : List (S47)) (a1 : Int) (a2_0 : Int) (a2_1 : Int) : Option (Bool) := (variorumlaw11_fixed.f k).bind fun t345 => (if t345 = true then (if (l0.length : Int) > 200 then (variorumlaw11_BreakerLeast.j0 k l0 a1 true a2_0 a2_1) else ((variorumref09_May.f k l0).bind fun t346 => (variorumlaw11_BreakerLeast.j0 k l0 a1 (!t346) a2_0 a2_1))) else (variorumlaw11_BreakerLeast.j0 k l0 a1 true a2_0 a2_1))
theorem variorumlaw11_BreakerLeast.mono_l : ∀ k, (∀ y0 y1 y2 y3 y4, LeO (variorumlaw11_BreakerLeast.j0 k y0 y1 y2 y3 y4) (variorumlaw11_BreakerLeast.j0 (k + 1) y0 y1 y2 y3 y4))
 | 0 => fun _ _ _ _ _ r h => by simp [variorumlaw11_BreakerLeast.j0] at h
 | k + 1 => by
  have ih0 := variorumlaw11_BreakerLeast.mono_l k
  ·intro y0 y1 y2 y3 y4
   unfold variorumlaw11_BreakerLeast.j0
   repeat' first | (with_reducible first | exact ih0 _ _ _ _ _ | exact breaker_Best.mono _ _ _ _ | exact variorumlaw11_fixed.mono _ | exact variorumref09_May.mono _ _ | exact variorumref10_Total.mono _ _ _ _ _ | exact variorumref11_Choice.mono _ _ _ | exact LeO.refl _ | exact LeO.none _ | refine LeO.ite ?_ ?_ | refine LeO.bind ?_ (fun _ => ?_)) | exact LeO.none _ | refine LeO.ite ?_ ?_ | refine LeO.bind ?_ (fun _ => ?_)
theorem variorumlaw11_BreakerLeast.mono : ∀ a0 a1 a2 a3 k, LeO (variorumlaw11_BreakerLeast.f k a0 a1 a2 a3) (variorumlaw11_BreakerLeast.f (k + 1) a0 a1 a2 a3) := by
 intro a0 a1 a2 a3 k
 have ih0 := variorumlaw11_BreakerLeast.mono_l k
 unfold variorumlaw11_BreakerLeast.f
 repeat' first
   | (with_reducible exact ih0 _ _ _ _ _)
   | (with_reducible exact breaker_Best.mono _ _ _ _)
   | (with_reducible exact variorumlaw11_fixed.mono _)
   | (with_reducible exact variorumref09_May.mono _ _)
   | (with_reducible exact variorumref10_Total.mono _ _ _ _ _)
   | (with_reducible exact variorumref11_Choice.mono _ _ _)
   | (with_reducible exact LeO.refl _)
   | (with_reducible exact LeO.none _)
   | (with_reducible refine LeO.ite ?_ ?_)
   | (with_reducible refine LeO.bind ?_ (fun _ => ?_))
   | exact ih0 _ _ _ _ _
   | exact breaker_Best.mono _ _ _ _
   | exact variorumlaw11_fixed.mono _
   | exact variorumref09_May.mono _ _
   | exact variorumref10_Total.mono _ _ _ _ _
   | exact variorumref11_Choice.mono _ _ _
   | exact LeO.none _
   | refine LeO.ite ?_ ?_
   | refine LeO.bind ?_ (fun _ => ?_)
def variorumlaw11_BreakerLeast.T4 : Bool × List (List Nat × List Nat) := (true, [([], []), ([], []), ([], []), ([2], [2]), ([1, 3], [1, 3]), ([], []), ([], []), ([6], [6]), ([0, 4, 5, 7, 4], [0, 4, 5, 7]), ([8], [8]), ([9], [9]), ([9], [9]), ([10, 8, 0, 1, 2, 3, 4, 5, 6, 7, 8, 9, 10], [10]), ([11, 12, 0, 1, 2, 3, 4, 5, 6, 7, 8, 9, 10, 11, 12], [11])])
def variorumlaw11_BreakerLeast.B4 : List Nat := [0, 0, 0, 4, 14, 0, 0, 64, 255, 511, 1023, 1023, 2047, 8191]
theorem variorumlaw11_BreakerLeast.tab4 : rtab .any (opsOf Try.f4 4) = variorumlaw11_BreakerLeast.T4 := by kernel_rfl
theorem variorumlaw11_BreakerLeast.bits4 : waitsOk variorumlaw11_BreakerLeast.T4.2 variorumlaw11_BreakerLeast.B4 = true := by kernel_rfl
set_option maxHeartbeats 8000000 in
set_option maxRecDepth 100000 in
theorem variorumlaw11_BreakerLeast.calls (k : Nat) (A0 : Option Addr) (c0 : Nat) (l0 : List (S47)) (a1 : Int) (a2_0 : Int) (a2_1 : Int) (r : Bool) (w : World) (hr0 : Kd.C k47 w A0 l0.length l0) (hc0 : l0.length ≤ c0) (h : variorumlaw11_BreakerLeast.f k l0 a1 a2_0 a2_1 = some r) :
  Calls Try.prog 4 #[.slice A0 l0.length c0, .int .i64 a1, .agg #[.int .i64 a2_0, .int .i64 a2_1]] w fun e w' => e = .returned (.bool r) ∧ Below w.heap.size w w' := by
 have hu35 := Try.underlying35
 have HR0 := a_ hr0
 have HC0 := a_ hc0
 clear hr0 hc0
 have HB := a_ (Below.refl w.heap.size w)
 have H : ((variorumlaw11_fixed.f k).bind fun t345 => (if t345 = true then (if (l0.length : Int) > 200 then (variorumlaw11_BreakerLeast.j0 k l0 a1 true a2_0 a2_1) else ((variorumref09_May.f k l0).bind fun t346 => (variorumlaw11_BreakerLeast.j0 k l0 a1 (!t346) a2_0 a2_1))) else (variorumlaw11_BreakerLeast.j0 k l0 a1 true a2_0 a2_1))) = some r := h
 clear h
 have HC4 := a_ H
 clear H
 go_enter Try.func4, Try.ntmps4
 go_upto_region 1 with (first | ((with_reducible refine gate_dst (N := 5) rfl ?_); (try (refine gate_guard (by rfl) ?_; dsimp only)); refine box_event ?hg (N := 5) ?hd (cs := #[.int .i64 a2_0, .int .i64 a2_1]) (t := 35) ?hr ?_; (case hd => rfl); (case hg => rfl); (case hr => first | (go_simp; done) | (go_simp; rfl)); intro gb344 hg w5 hbox hb; have n0_ := a_ (bs_ HB.out hb); have n1_ := a_ (hbox); have n2_ := a_ ((by rw [hg]; exact (below_size (bv_ HB.out)) : w.heap.size ≤ gb344)); have n3_ := a_ ((by rw [hg]; exact (below_size (bv_ HB.out)) : w.heap.size ≤ gb344)); clear HB; have HB := n0_; have BK344 := n1_; have GW344 := n2_; have GE344 := n3_; clear n0_ n1_ n2_ n3_; clear hb hbox hg))
 (try simp only [Act.put, List.setIfInBounds_toArray, List.set_cons_zero, List.set_cons_succ])
 go_cut [25] (fun v25 wc => ∃ (kq : Nat) (x25_3 : Bool), v25 = .bool x25_3 ∧ Aside0 (variorumlaw11_BreakerLeast.j0 kq l0 a1 x25_3 a2_0 a2_1 = some r) ∧ Aside0 (kq ≤ k) ∧ Aside0 (wc.heap[gb344]? = some (.cells #[.int .i64 a2_0, .int .i64 a2_1] 35 (0, 0))) ∧ Aside0 (Below w.heap.size w wc))
 case first =>
  have H := HC4.out
  clear HC4
  replace H := Option.bind_eq_some_iff.mp H
  obtain ⟨t345, A60, H⟩ := H
  replace H : (if t345 = true then (if (l0.length : Int) > 200 then (variorumlaw11_BreakerLeast.j0 k l0 a1 true a2_0 a2_1) else ((variorumref09_May.f k l0).bind fun t346 => (variorumlaw11_BreakerLeast.j0 k l0 a1 (!t346) a2_0 a2_1))) else (variorumlaw11_BreakerLeast.j0 k l0 a1 true a2_0 a2_1)) = some r := H
  have A6 := a_ A60
  clear A60
  by_cases c7 : t345 = true
  ·subst c7
   have H1 : (if (l0.length : Int) > 200 then (variorumlaw11_BreakerLeast.j0 k l0 a1 true a2_0 a2_1) else ((variorumref09_May.f k l0).bind fun t346 => (variorumlaw11_BreakerLeast.j0 k l0 a1 (!t346) a2_0 a2_1))) = some r := by rw [if_pos rfl] at H; exact H
   clear H
   have H := H1
   clear H1
   by_cases c8 : (l0.length : Int) > 200
   ·rw [if_pos c8] at H
    have c8b0 : decide (200 < (l0.length : Int)) = true := decide_eq_true c8
    have c8b1 : decide (200 < l0.length) = true := decide_eq_true (by omega)
    clear c8
    (first | rw [c8b0] | (simp only [i64_w, i32_w]; rw [c8b0]) | skip)
    have H' := a_ H
    clear H
    go_wp2_with (first | ((with_reducible refine gate_callee (f := 8) rfl ?_); refine gl_ (some 14) Try.func8 (by kernel_rfl) #[] ?_; (with_reducible refine (variorumlaw11_fixed.calls k  true _ A6.out).mono ?_); rintro e w9 ⟨rfl, hb⟩; refine ⟨_, rfl, ?_⟩; have n0_ := a_ (kb_ BK344.out hb); have n1_ := a_ (below_step (bS1_ HB.out GE344.out) hb); clear BK344; clear HB; have BK344 := n0_; have HB := n1_; clear n0_ n1_; (try clear hb); (try clear hb2); (try clear hk); (try clear hi)))
    go_meet
    case rel => exact ⟨_, (true), (by first | rfl | (simp; done) | (simp [*]; done)), H', ⟨by first | omega | exact Nat.le_refl _⟩, ⟨kv_ BK344.out⟩, ⟨bS1_ HB.out GE344.out⟩⟩
   ·rw [if_neg c8] at H
    have c8b0 : decide (200 < (l0.length : Int)) = false := decide_eq_false c8
    have c8b1 : decide (200 < l0.length) = false := decide_eq_false (by omega)
    clear c8
    (first | rw [c8b0] | (simp only [i64_w, i32_w]; rw [c8b0]) | skip)
    replace H := Option.bind_eq_some_iff.mp H
    obtain ⟨t346, A100, H⟩ := H
    replace H : (variorumlaw11_BreakerLeast.j0 k l0 a1 (!t346) a2_0 a2_1) = some r := H
    have A10 := a_ A100
    clear A100
    have H' := a_ H
    clear H
    go_wp2_with (first | ((with_reducible refine gate_callee (f := 8) rfl ?_); refine gl_ (some 14) Try.func8 (by kernel_rfl) #[] ?_; (with_reducible refine (variorumlaw11_fixed.calls k  true _ A6.out).mono ?_); rintro e w11 ⟨rfl, hb⟩; refine ⟨_, rfl, ?_⟩; have n0_ := a_ (kb_ BK344.out hb); have n1_ := a_ (below_step (bS1_ HB.out GE344.out) hb); clear BK344; clear HB; have BK344 := n0_; have HB := n1_; clear n0_ n1_; (try clear hb); (try clear hb2); (try clear hk); (try clear hi)) | (go_at_call 14; (with_reducible refine (variorumref09_May.calls k _ _ l0 t346 _ ?side1 ?side2 A10.out).mono ?_); (case side1 => exact cw_ HR0.out HB.out); (case side2 => exact HC0.out); rintro e w12 ⟨rfl, hb⟩; have n0_ := a_ (kb_ BK344.out hb); have n1_ := a_ (below_step (bS1_ HB.out GE344.out) hb); clear BK344; clear HB; have BK344 := n0_; have HB := n1_; clear n0_ n1_; (try clear hb); (try clear hb2); (try clear hk); (try clear hi)))
    go_meet
    case rel => exact ⟨_, (!t346), (by first | rfl | (simp; done) | (simp [*]; done)), H', ⟨by first | omega | exact Nat.le_refl _⟩, ⟨kv_ BK344.out⟩, ⟨bS1_ HB.out GE344.out⟩⟩
  ·replace c7 := Bool.eq_false_iff.mpr c7
   subst c7
   have H1 : (variorumlaw11_BreakerLeast.j0 k l0 a1 true a2_0 a2_1) = some r := by rw [if_neg (show ¬ (false = true) by decide)] at H; exact H
   clear H
   have H := H1
   clear H1
   have H' := a_ H
   clear H
   go_wp2_with (first | ((with_reducible refine gate_callee (f := 8) rfl ?_); refine gl_ (some 14) Try.func8 (by kernel_rfl) #[] ?_; (with_reducible refine (variorumlaw11_fixed.calls k  false _ A6.out).mono ?_); rintro e w13 ⟨rfl, hb⟩; refine ⟨_, rfl, ?_⟩; have n0_ := a_ (kb_ BK344.out hb); have n1_ := a_ (below_step (bS1_ HB.out GE344.out) hb); clear BK344; clear HB; have BK344 := n0_; have HB := n1_; clear n0_ n1_; (try clear hb); (try clear hb2); (try clear hk); (try clear hi)))
   go_meet
   case rel => exact ⟨_, (true), (by first | rfl | (simp; done) | (simp [*]; done)), H', ⟨by first | omega | exact Nat.le_refl _⟩, ⟨kv_ BK344.out⟩, ⟨bS1_ HB.out GE344.out⟩⟩
 case rest =>
  clear HC4
  try clear p2
  try clear c4
  try clear c7
  try clear c8
  try clear c8b0
  try clear c8b1
  obtain ⟨kq, x25_3, rfl, HA, HJ3, BK344, HB⟩ := hcut
  cases kq with
  | zero => exact absurd HA.out (by simp [variorumlaw11_BreakerLeast.j0])
  | succ kj3 =>
   have H := HA.out
   clear HA
   simp only [variorumlaw11_BreakerLeast.j0] at H
   by_cases c14 : x25_3 = true
   ·subst c14
    have H1 : ((variorumlaw11_fixed.f kj3).bind fun t347 => (some t347)) = some r := by rw [if_pos rfl] at H; exact H
    clear H
    have H := H1
    clear H1
    replace H := Option.bind_eq_some_iff.mp H
    obtain ⟨t347, A150, H⟩ := H
    replace H : (some t347) = some r := H
    have A15 := a_ A150
    clear A150
    obtain rfl := Option.some.inj H
    go_wp2_with (first | ((with_reducible refine gate_callee (f := 8) rfl ?_); refine gl_ (some 26) Try.func8 (by kernel_rfl) #[] ?_; (with_reducible refine (variorumlaw11_fixed.calls kj3  t347 _ A15.out).mono ?_); rintro e w16 ⟨rfl, hb⟩; refine ⟨_, rfl, ?_⟩; have n0_ := a_ (kb_ BK344.out hb); have n1_ := a_ (below_step (bS1_ HB.out GE344.out) hb); clear BK344; clear HB; have BK344 := n0_; have HB := n1_; clear n0_ n1_; (try clear hb); (try clear hb2); (try clear hk); (try clear hi)))
    go_ret
    exact ⟨by first | rfl | (simp [errW_none, errW_some] <;> rfl) | (simp [*, errW_none, errW_some] <;> rfl), bS1_ HB.out GE344.out⟩
   ·replace c14 := Bool.eq_false_iff.mpr c14
    subst c14
    have H1 : ((breaker_Best.f kj3 l0 a1 a2_1).bind fun bt348 => ((variorumref11_Choice.f kj3 l0 a2_0).bind fun t353 => ((variorumref10_Total.f kj3 l0 t353 a1 a2_1).bind fun bt356 => (if bt348.2.2 = true then ((variorumref10_Total.f kj3 l0 bt348.1 a1 a2_1).bind fun bt358 => (if bt358.2 = true then (if bt358.1 = bt348.2.1 then (if bt356.2 = true then (some (decide (bt348.2.1 ≤ bt356.1))) else (some true)) else (none)) else (none))) else (if bt356.2 = true then (none) else (some ((bt348.1.length : Int) == 0))))))) = some r := by rw [if_neg (show ¬ (false = true) by decide)] at H; exact H
    clear H
    have H := H1
    clear H1
    replace H := Option.bind_eq_some_iff.mp H
    obtain ⟨⟨t348, t349, t350⟩, A170, H⟩ := H
    replace H : ((variorumref11_Choice.f kj3 l0 a2_0).bind fun t353 => ((variorumref10_Total.f kj3 l0 t353 a1 a2_1).bind fun bt356 => (if t350 = true then ((variorumref10_Total.f kj3 l0 t348 a1 a2_1).bind fun bt358 => (if bt358.2 = true then (if bt358.1 = t349 then (if bt356.2 = true then (some (decide (t349 ≤ bt356.1))) else (some true)) else (none)) else (none))) else (if bt356.2 = true then (none) else (some ((t348.length : Int) == 0)))))) = some r := H
    have A17 := a_ A170
    clear A170
    replace H := Option.bind_eq_some_iff.mp H
    obtain ⟨t353, A180, H⟩ := H
    replace H : ((variorumref10_Total.f kj3 l0 t353 a1 a2_1).bind fun bt356 => (if t350 = true then ((variorumref10_Total.f kj3 l0 t348 a1 a2_1).bind fun bt358 => (if bt358.2 = true then (if bt358.1 = t349 then (if bt356.2 = true then (some (decide (t349 ≤ bt356.1))) else (some true)) else (none)) else (none))) else (if bt356.2 = true then (none) else (some ((t348.length : Int) == 0))))) = some r := H
    have A18 := a_ A180
    clear A180
    replace H := Option.bind_eq_some_iff.mp H
    obtain ⟨⟨t356, t357⟩, A190, H⟩ := H
    replace H : (if t350 = true then ((variorumref10_Total.f kj3 l0 t348 a1 a2_1).bind fun bt358 => (if bt358.2 = true then (if bt358.1 = t349 then (if t357 = true then (some (decide (t349 ≤ t356))) else (some true)) else (none)) else (none))) else (if t357 = true then (none) else (some ((t348.length : Int) == 0)))) = some r := H
    have A19 := a_ A190
    clear A190
    by_cases c20 : t350 = true
    ·subst c20
     have H1 : ((variorumref10_Total.f kj3 l0 t348 a1 a2_1).bind fun bt358 => (if bt358.2 = true then (if bt358.1 = t349 then (if t357 = true then (some (decide (t349 ≤ t356))) else (some true)) else (none)) else (none))) = some r := by rw [if_pos rfl] at H; exact H
     clear H
     have H := H1
     clear H1
     replace H := Option.bind_eq_some_iff.mp H
     obtain ⟨⟨t358, t359⟩, A210, H⟩ := H
     replace H : (if t359 = true then (if t358 = t349 then (if t357 = true then (some (decide (t349 ≤ t356))) else (some true)) else (none)) else (none)) = some r := H
     have A21 := a_ A210
     clear A210
     by_cases c22 : t359 = true
     ·subst c22
      have H1 : (if t358 = t349 then (if t357 = true then (some (decide (t349 ≤ t356))) else (some true)) else (none)) = some r := by rw [if_pos rfl] at H; exact H
      clear H
      have H := H1
      clear H1
      by_cases c23 : t358 = t349
      ·rw [if_pos c23] at H
       have c23b0 : (t358 == t349) = true := beq_iff_eq.mpr c23
       have c23b1 : (t358 != t349) = false := bne_eq_false_iff_eq.mpr c23
       clear c23
       by_cases c24 : t357 = true
       ·subst c24
        have H1 : (some (decide (t349 ≤ t356))) = some r := by rw [if_pos rfl] at H; exact H
        clear H
        have H := H1
        clear H1
        obtain rfl := Option.some.inj H
        obtain ⟨⟨Z25_0, Y25_0⟩, Z25_1, Y25_1⟩ := cs2_ BK344.out
        try go_wp2_with (first | ((with_reducible refine gate_callee (f := 9) rfl ?_); refine gl_ (some 32) Try.func9 (by kernel_rfl) #[.slice A0 l0.length c0, .int .i64 a1, .int .i64 a2_1] ?_; (with_reducible refine (breaker_Best.calls kj3 _ _ l0 a1 a2_1 t348 t349 true _ ?side1 ?side2 A17.out).mono ?_); (case side1 => exact cw_ HR0.out HB.out); (case side2 => exact HC0.out); rintro e w26 ⟨v351, rfl, ho0, hb⟩; refine ⟨_, rfl, ?_⟩; have n0_ := a_ (Kd.R_lower ho0 (below_size (bS1_ HB.out GE344.out))); have n1_ := a_ (kb_ BK344.out hb); have n2_ := a_ (below_step (bS1_ HB.out GE344.out) hb); clear BK344; clear HB; have HO352 := n0_; have BK344 := n1_; have HB := n2_; clear n0_ n1_ n2_; (try clear hb); (try clear hb2); (try clear hk); (try clear hi); (try clear ho0)))
        have n0_ := a_ (Kd.R_drew HO352.out)
        have n1_ := a_ (blk_drew BK344.out)
        have n2_ := a_ (below_drew1 HB.out)
        clear HO352
        clear BK344
        clear HB
        have HO352 := n0_
        have BK344 := n1_
        have HB := n2_
        clear n0_ n1_ n2_
        refine start_ (n := 14) (S := fun w' => w'.cell? ⟨gb344, 0, none⟩ = some (.int .i64 a2_0) ∧ w'.cell? ⟨gb344, 1, none⟩ = some (.int .i64 a2_1)) (ds := []) #[false, false, false, false, false, false, false, false, false, false, false, false, false, false] (by kernel_rfl) rfl rfl ⟨(blk_cell BK344.out 0).trans rfl, (blk_cell BK344.out 1).trans rfl⟩ (fun hHeld => ?_); refine with_tabW variorumlaw11_BreakerLeast.tab4 variorumlaw11_BreakerLeast.bits4 (fun HT_ HW_ => ?_)
        generalize w26.drew = w27 at HO352 BK344 HB hHeld ⊢
        refine pure_ (i := 0) (N := some 37) #[true, false, false, false, false, false, false, false, false, false, false, false, false, false] rfl rfl (any_of HT_.out (by kernel_rfl)) (fun _ _ _ h => h) (Or.inl ⟨by rfl, fun w' => by go_simp; with_reducible rfl⟩) (by simp only [Act.put, List.setIfInBounds_toArray, List.set_cons_zero, List.set_cons_succ, i64_w, i32_w]; rfl) ?_
        refine pure_ (i := 1) (N := some 38) #[true, true, false, false, false, false, false, false, false, false, false, false, false, false] rfl rfl (any_of HT_.out (by kernel_rfl)) (fun _ _ _ h => h) (Or.inl ⟨by rfl, fun w' => by go_simp; with_reducible rfl⟩) (by simp only [Act.put, List.setIfInBounds_toArray, List.set_cons_zero, List.set_cons_succ, i64_w, i32_w]; rfl) ?_
        refine pure_ (i := 2) (N := some 39) #[true, true, true, false, false, false, false, false, false, false, false, false, false, false] rfl rfl (any_of HT_.out (by kernel_rfl)) (fun _ _ _ h => h) (Or.inl ⟨by rfl, fun w' => by go_simp; with_reducible rfl⟩) (by simp only [Act.put, List.setIfInBounds_toArray, List.set_cons_zero, List.set_cons_succ, i64_w, i32_w]; rfl) ?_
        refine pure_ (i := 5) (N := some 42) #[true, true, true, false, false, true, false, false, false, false, false, false, false, false] rfl rfl (any_of HT_.out (by kernel_rfl)) (fun _ _ _ h => h) (Or.inl ⟨by rfl, fun w' => by go_simp; with_reducible rfl⟩) (by simp only [Act.put, List.setIfInBounds_toArray, List.set_cons_zero, List.set_cons_succ, i64_w, i32_w]; rfl) ?_
        refine pure_ (i := 6) (N := some 43) #[true, true, true, false, false, true, true, false, false, false, false, false, false, false] rfl rfl (any_of HT_.out (by kernel_rfl)) (fun _ _ _ h => h) (Or.inl ⟨by rfl, fun w' => by go_simp; with_reducible rfl⟩) (by simp only [Act.put, List.setIfInBounds_toArray, List.set_cons_zero, List.set_cons_succ, i64_w, i32_w]; rfl) ?_
        refine take_ (i := 3) (N := some 40) (v := ?_) (a' := ?_) #[true, true, true, true, false, true, true, false, false, false, false, false, false, false] rfl rfl (take_ofW HT_.out HW_.out (by kernel_rfl)) (fun _ _ _ h => h) (Or.inl ⟨by rfl, ?_⟩) hHeld ?_ ?_
        rotate_left
        ·rintro w' ⟨s0, s1⟩
         go_simp
         with_reducible rfl
        rotate_left
        ·simp only [Act.put, List.setIfInBounds_toArray, List.set_cons_zero, List.set_cons_succ, i64_w, i32_w]
         rfl
        refine take_ (i := 7) (N := some 44) (v := ?_) (a' := ?_) #[true, true, true, true, false, true, true, true, false, false, false, false, false, false] rfl rfl (take_ofW HT_.out HW_.out (by kernel_rfl)) (fun _ _ _ h => h) (Or.inl ⟨by rfl, ?_⟩) hHeld ?_ ?_
        rotate_left
        ·rintro w' ⟨s0, s1⟩
         go_simp
         with_reducible rfl
        rotate_left
        ·simp only [Act.put, List.setIfInBounds_toArray, List.set_cons_zero, List.set_cons_succ, i64_w, i32_w]
         rfl
        refine one_ (i := 4) (N := some 41) #[true, true, true, true, true, true, true, true, false, false, false, false, false, false] rfl rfl (one_of HT_.out (by kernel_rfl)) (by decide) (fun K hK => ?_)
        refine goes_ Try.func16 (by kernel_rfl) rfl #[.slice A0 l0.length c0, .int .i64 a2_0] (by rfl) rfl rfl (by (try simp only [List.map_toArray, List.map_cons, List.map_nil]); first | done | rfl | (simp only [List.length_drop, List.length_take]; rfl) | (simp only [*]; first | done | rfl)) ?_
        with_reducible refine (variorumref11_Choice.calls kj3 _ _ l0 a2_0 t353 _ ?side1 ?side2 A18.out).mono ?_
        (case side1 => exact cw_ HR0.out HB.out)
        (case side2 => exact HC0.out)
        rintro e w28 ⟨v354, rfl, ho0, hb⟩
        refine ⟨_, rfl, ?_⟩
        have n0_ := a_ (Kd.R_elder' (rv_ HO352.out) (Kd.R_base ho0) hb)
        have n1_ := a_ (Kd.R_lower (Kd.R_new' ho0 (Kd.R_lt (rv_ HO352.out))) (below_size (bS1_ HB.out GE344.out)))
        have n2_ := a_ (kb_ BK344.out hb)
        have n3_ := a_ (below_step (bS1_ HB.out GE344.out) hb)
        clear HO352
        clear BK344
        clear HB
        have HO352 := n0_
        have HO355 := n1_
        have BK344 := n2_
        have HB := n3_
        clear n0_ n1_ n2_ n3_
        (try clear hb)
        (try clear hb2)
        (try clear hk)
        (try clear hi)
        (try clear ho0)
        obtain ⟨Ao29, co29, eo29⟩ := Kd.R_slice HO355.out
        (first | subst eo29 | (injection eo29 with f1_ f2_ f3_; have f4_ := f1_.symm; have f5_ := f3_.symm; clear f1_ f2_ f3_; subst f4_; subst f5_))
        refine hK.out _ _ ⟨(blk_cell BK344.out 0).trans rfl, (blk_cell BK344.out 1).trans rfl⟩ (fun hHeld => ?_)
        clear hK K
        refine norm_ (a' := ?_) ?_ ?_
        rotate_left
        ·show Act.put _ (some 41) _ = _
         simp only [Act.put, List.setIfInBounds_toArray, List.set_cons_zero, List.set_cons_succ, i64_w, i32_w]
         rfl
        refine one_ (i := 8) (N := some 45) #[true, true, true, true, true, true, true, true, true, false, false, false, false, false] rfl rfl (one_of HT_.out (by kernel_rfl)) (by decide) (fun K hK => ?_)
        refine goes_ Try.func15 (by kernel_rfl) rfl #[.slice A0 l0.length c0, .slice Ao29 t353.length co29, .int .i64 a1, .int .i64 a2_1] (by rfl) rfl rfl (by (try simp only [List.map_toArray, List.map_cons, List.map_nil]); first | done | rfl | (simp only [List.length_drop, List.length_take]; rfl) | (simp only [*]; first | done | rfl)) ?_
        with_reducible refine (variorumref10_Total.calls kj3 _ _ l0 _ _ t353 a1 a2_1 t356 true _ ?side1 ?side2 ?side3 ?side4 A19.out).mono ?_
        (case side1 => exact cw_ HR0.out HB.out)
        (case side2 => exact HC0.out)
        (case side3 => exact cr_ (Kd.R_reads' HO355.out).2.2)
        (case side4 => exact (Kd.R_reads' HO355.out).2.1)
        rintro e w30 ⟨rfl, hb⟩
        refine ⟨_, rfl, ?_⟩
        have n0_ := a_ (Kd.R_below (rv_ HO352.out) hb)
        have n1_ := a_ (Kd.R_below (rv_ HO355.out) hb)
        have n2_ := a_ (kb_ BK344.out hb)
        have n3_ := a_ (below_step (bS1_ HB.out GE344.out) hb)
        clear HO352
        clear HO355
        clear BK344
        clear HB
        have HO352 := n0_
        have HO355 := n1_
        have BK344 := n2_
        have HB := n3_
        clear n0_ n1_ n2_ n3_
        (try clear hb)
        (try clear hb2)
        (try clear hk)
        (try clear hi)
        refine hK.out _ _ ⟨(blk_cell BK344.out 0).trans rfl, (blk_cell BK344.out 1).trans rfl⟩ (fun hHeld => ?_)
        clear hK K
        refine norm_ (a' := ?_) ?_ ?_
        rotate_left
        ·show Act.put _ (some 45) _ = _
         simp only [Act.put, List.setIfInBounds_toArray, List.set_cons_zero, List.set_cons_succ, i64_w, i32_w]
         rfl
        refine pure_ (i := 9) (N := some 36) #[true, true, true, true, true, true, true, true, true, true, false, false, false, false] rfl rfl (any_of HT_.out (by kernel_rfl)) (fun _ _ _ h => h) (Or.inl ⟨by rfl, fun w' => by go_simp; with_reducible rfl⟩) (by simp only [Act.put, List.setIfInBounds_toArray, List.set_cons_zero, List.set_cons_succ, i64_w, i32_w]; rfl) ?_
        refine pure_ (i := 10) (N := some 46) #[true, true, true, true, true, true, true, true, true, true, true, false, false, false] rfl rfl (any_of HT_.out (by kernel_rfl)) (fun _ _ _ h => h) (Or.inl ⟨by rfl, fun w' => by go_simp; with_reducible rfl⟩) (by simp only [Act.put, List.setIfInBounds_toArray, List.set_cons_zero, List.set_cons_succ, i64_w, i32_w]; rfl) ?_
        refine pure_ (i := 11) (N := some 47) #[true, true, true, true, true, true, true, true, true, true, true, true, false, false] rfl rfl (any_of HT_.out (by kernel_rfl)) (fun _ _ _ h => h) (Or.inl ⟨by rfl, fun w' => by go_simp; with_reducible rfl⟩) (by simp only [Act.put, List.setIfInBounds_toArray, List.set_cons_zero, List.set_cons_succ, i64_w, i32_w]; rfl) ?_
        refine pure_ (i := 12) (N := some 10) #[true, true, true, true, true, true, true, true, true, true, true, true, true, false] rfl rfl (any_of HT_.out (by kernel_rfl)) (fun _ _ _ h => h) (Or.inl ⟨by rfl, fun w' => by go_simp; with_reducible rfl⟩) (by simp only [Act.put, List.setIfInBounds_toArray, List.set_cons_zero, List.set_cons_succ, i64_w, i32_w]; rfl) ?_
        refine pure_ (i := 13) (N := some 11) #[true, true, true, true, true, true, true, true, true, true, true, true, true, true] rfl rfl (any_of HT_.out (by kernel_rfl)) (fun _ _ _ h => h) (Or.inl ⟨by rfl, fun w' => by go_simp; with_reducible rfl⟩) (by simp only [Act.put, List.setIfInBounds_toArray, List.set_cons_zero, List.set_cons_succ, i64_w, i32_w]; rfl) ?_
        refine done_ (done_of HT_.out (by kernel_rfl)) ?_
        obtain ⟨⟨Z31_0, Y31_0⟩, Z31_1, Y31_1⟩ := cs2_ BK344.out
        obtain ⟨Ao32, co32, eo32⟩ := Kd.R_slice HO352.out
        subst eo32
        try go_wp2_with (first | ((with_reducible refine gate_callee (f := 15) rfl ?_); refine gl_ (some 63) Try.func15 (by kernel_rfl) #[.slice A0 l0.length c0, .slice Ao32 t348.length co32, .int .i64 a1, .int .i64 a2_1] ?_; (with_reducible refine (variorumref10_Total.calls kj3 _ _ l0 _ _ t348 a1 a2_1 t358 true _ ?side1 ?side2 ?side3 ?side4 A21.out).mono ?_); (case side1 => exact cw_ HR0.out HB.out); (case side2 => exact HC0.out); (case side3 => exact cr_ (Kd.R_reads' HO352.out).2.2); (case side4 => exact (Kd.R_reads' HO352.out).2.1); rintro e w33 ⟨rfl, hb⟩; refine ⟨_, rfl, ?_⟩; have n0_ := a_ (Kd.R_below (rv_ HO352.out) hb); have n1_ := a_ (Kd.R_below (rv_ HO355.out) hb); have n2_ := a_ (kb_ BK344.out hb); have n3_ := a_ (below_step (bS1_ HB.out GE344.out) hb); clear HO352; clear HO355; clear BK344; clear HB; have HO352 := n0_; have HO355 := n1_; have BK344 := n2_; have HB := n3_; clear n0_ n1_ n2_ n3_; (try clear hb); (try clear hb2); (try clear hk); (try clear hi)))
        go_ret
        exact ⟨by first | rfl | (simp [errW_none, errW_some] <;> rfl) | (simp [*, errW_none, errW_some] <;> rfl), bS1_ HB.out GE344.out⟩
       ·replace c24 := Bool.eq_false_iff.mpr c24
        subst c24
        have H1 : (some true) = some r := by rw [if_neg (show ¬ (false = true) by decide)] at H; exact H
        clear H
        have H := H1
        clear H1
        obtain rfl := Option.some.inj H
        obtain ⟨⟨Z34_0, Y34_0⟩, Z34_1, Y34_1⟩ := cs2_ BK344.out
        try go_wp2_with (first | ((with_reducible refine gate_callee (f := 9) rfl ?_); refine gl_ (some 32) Try.func9 (by kernel_rfl) #[.slice A0 l0.length c0, .int .i64 a1, .int .i64 a2_1] ?_; (with_reducible refine (breaker_Best.calls kj3 _ _ l0 a1 a2_1 t348 t349 true _ ?side1 ?side2 A17.out).mono ?_); (case side1 => exact cw_ HR0.out HB.out); (case side2 => exact HC0.out); rintro e w35 ⟨v351, rfl, ho0, hb⟩; refine ⟨_, rfl, ?_⟩; have n0_ := a_ (Kd.R_lower ho0 (below_size (bS1_ HB.out GE344.out))); have n1_ := a_ (kb_ BK344.out hb); have n2_ := a_ (below_step (bS1_ HB.out GE344.out) hb); clear BK344; clear HB; have HO352 := n0_; have BK344 := n1_; have HB := n2_; clear n0_ n1_ n2_; (try clear hb); (try clear hb2); (try clear hk); (try clear hi); (try clear ho0)))
        have n0_ := a_ (Kd.R_drew HO352.out)
        have n1_ := a_ (blk_drew BK344.out)
        have n2_ := a_ (below_drew1 HB.out)
        clear HO352
        clear BK344
        clear HB
        have HO352 := n0_
        have BK344 := n1_
        have HB := n2_
        clear n0_ n1_ n2_
        refine start_ (n := 14) (S := fun w' => w'.cell? ⟨gb344, 0, none⟩ = some (.int .i64 a2_0) ∧ w'.cell? ⟨gb344, 1, none⟩ = some (.int .i64 a2_1)) (ds := []) #[false, false, false, false, false, false, false, false, false, false, false, false, false, false] (by kernel_rfl) rfl rfl ⟨(blk_cell BK344.out 0).trans rfl, (blk_cell BK344.out 1).trans rfl⟩ (fun hHeld => ?_); refine with_tabW variorumlaw11_BreakerLeast.tab4 variorumlaw11_BreakerLeast.bits4 (fun HT_ HW_ => ?_)
        generalize w35.drew = w36 at HO352 BK344 HB hHeld ⊢
        refine pure_ (i := 0) (N := some 37) #[true, false, false, false, false, false, false, false, false, false, false, false, false, false] rfl rfl (any_of HT_.out (by kernel_rfl)) (fun _ _ _ h => h) (Or.inl ⟨by rfl, fun w' => by go_simp; with_reducible rfl⟩) (by simp only [Act.put, List.setIfInBounds_toArray, List.set_cons_zero, List.set_cons_succ, i64_w, i32_w]; rfl) ?_
        refine pure_ (i := 1) (N := some 38) #[true, true, false, false, false, false, false, false, false, false, false, false, false, false] rfl rfl (any_of HT_.out (by kernel_rfl)) (fun _ _ _ h => h) (Or.inl ⟨by rfl, fun w' => by go_simp; with_reducible rfl⟩) (by simp only [Act.put, List.setIfInBounds_toArray, List.set_cons_zero, List.set_cons_succ, i64_w, i32_w]; rfl) ?_
        refine pure_ (i := 2) (N := some 39) #[true, true, true, false, false, false, false, false, false, false, false, false, false, false] rfl rfl (any_of HT_.out (by kernel_rfl)) (fun _ _ _ h => h) (Or.inl ⟨by rfl, fun w' => by go_simp; with_reducible rfl⟩) (by simp only [Act.put, List.setIfInBounds_toArray, List.set_cons_zero, List.set_cons_succ, i64_w, i32_w]; rfl) ?_
        refine pure_ (i := 5) (N := some 42) #[true, true, true, false, false, true, false, false, false, false, false, false, false, false] rfl rfl (any_of HT_.out (by kernel_rfl)) (fun _ _ _ h => h) (Or.inl ⟨by rfl, fun w' => by go_simp; with_reducible rfl⟩) (by simp only [Act.put, List.setIfInBounds_toArray, List.set_cons_zero, List.set_cons_succ, i64_w, i32_w]; rfl) ?_
        refine pure_ (i := 6) (N := some 43) #[true, true, true, false, false, true, true, false, false, false, false, false, false, false] rfl rfl (any_of HT_.out (by kernel_rfl)) (fun _ _ _ h => h) (Or.inl ⟨by rfl, fun w' => by go_simp; with_reducible rfl⟩) (by simp only [Act.put, List.setIfInBounds_toArray, List.set_cons_zero, List.set_cons_succ, i64_w, i32_w]; rfl) ?_
        refine take_ (i := 3) (N := some 40) (v := ?_) (a' := ?_) #[true, true, true, true, false, true, true, false, false, false, false, false, false, false] rfl rfl (take_ofW HT_.out HW_.out (by kernel_rfl)) (fun _ _ _ h => h) (Or.inl ⟨by rfl, ?_⟩) hHeld ?_ ?_
        rotate_left
        ·rintro w' ⟨s0, s1⟩
         go_simp
         with_reducible rfl
        rotate_left
        ·simp only [Act.put, List.setIfInBounds_toArray, List.set_cons_zero, List.set_cons_succ, i64_w, i32_w]
         rfl
        refine take_ (i := 7) (N := some 44) (v := ?_) (a' := ?_) #[true, true, true, true, false, true, true, true, false, false, false, false, false, false] rfl rfl (take_ofW HT_.out HW_.out (by kernel_rfl)) (fun _ _ _ h => h) (Or.inl ⟨by rfl, ?_⟩) hHeld ?_ ?_
        rotate_left
        ·rintro w' ⟨s0, s1⟩
         go_simp
         with_reducible rfl
        rotate_left
        ·simp only [Act.put, List.setIfInBounds_toArray, List.set_cons_zero, List.set_cons_succ, i64_w, i32_w]
         rfl
        refine one_ (i := 4) (N := some 41) #[true, true, true, true, true, true, true, true, false, false, false, false, false, false] rfl rfl (one_of HT_.out (by kernel_rfl)) (by decide) (fun K hK => ?_)
        refine goes_ Try.func16 (by kernel_rfl) rfl #[.slice A0 l0.length c0, .int .i64 a2_0] (by rfl) rfl rfl (by (try simp only [List.map_toArray, List.map_cons, List.map_nil]); first | done | rfl | (simp only [List.length_drop, List.length_take]; rfl) | (simp only [*]; first | done | rfl)) ?_
        with_reducible refine (variorumref11_Choice.calls kj3 _ _ l0 a2_0 t353 _ ?side1 ?side2 A18.out).mono ?_
        (case side1 => exact cw_ HR0.out HB.out)
        (case side2 => exact HC0.out)
        rintro e w37 ⟨v354, rfl, ho0, hb⟩
        refine ⟨_, rfl, ?_⟩
        have n0_ := a_ (Kd.R_elder' (rv_ HO352.out) (Kd.R_base ho0) hb)
        have n1_ := a_ (Kd.R_lower (Kd.R_new' ho0 (Kd.R_lt (rv_ HO352.out))) (below_size (bS1_ HB.out GE344.out)))
        have n2_ := a_ (kb_ BK344.out hb)
        have n3_ := a_ (below_step (bS1_ HB.out GE344.out) hb)
        clear HO352
        clear BK344
        clear HB
        have HO352 := n0_
        have HO355 := n1_
        have BK344 := n2_
        have HB := n3_
        clear n0_ n1_ n2_ n3_
        (try clear hb)
        (try clear hb2)
        (try clear hk)
        (try clear hi)
        (try clear ho0)
        obtain ⟨Ao38, co38, eo38⟩ := Kd.R_slice HO355.out
        (first | subst eo38 | (injection eo38 with f1_ f2_ f3_; have f4_ := f1_.symm; have f5_ := f3_.symm; clear f1_ f2_ f3_; subst f4_; subst f5_))
        refine hK.out _ _ ⟨(blk_cell BK344.out 0).trans rfl, (blk_cell BK344.out 1).trans rfl⟩ (fun hHeld => ?_)
        clear hK K
        refine norm_ (a' := ?_) ?_ ?_
        rotate_left
        ·show Act.put _ (some 41) _ = _
         simp only [Act.put, List.setIfInBounds_toArray, List.set_cons_zero, List.set_cons_succ, i64_w, i32_w]
         rfl
        refine one_ (i := 8) (N := some 45) #[true, true, true, true, true, true, true, true, true, false, false, false, false, false] rfl rfl (one_of HT_.out (by kernel_rfl)) (by decide) (fun K hK => ?_)
        refine goes_ Try.func15 (by kernel_rfl) rfl #[.slice A0 l0.length c0, .slice Ao38 t353.length co38, .int .i64 a1, .int .i64 a2_1] (by rfl) rfl rfl (by (try simp only [List.map_toArray, List.map_cons, List.map_nil]); first | done | rfl | (simp only [List.length_drop, List.length_take]; rfl) | (simp only [*]; first | done | rfl)) ?_
        with_reducible refine (variorumref10_Total.calls kj3 _ _ l0 _ _ t353 a1 a2_1 t356 false _ ?side1 ?side2 ?side3 ?side4 A19.out).mono ?_
        (case side1 => exact cw_ HR0.out HB.out)
        (case side2 => exact HC0.out)
        (case side3 => exact cr_ (Kd.R_reads' HO355.out).2.2)
        (case side4 => exact (Kd.R_reads' HO355.out).2.1)
        rintro e w39 ⟨rfl, hb⟩
        refine ⟨_, rfl, ?_⟩
        have n0_ := a_ (Kd.R_below (rv_ HO352.out) hb)
        have n1_ := a_ (Kd.R_below (rv_ HO355.out) hb)
        have n2_ := a_ (kb_ BK344.out hb)
        have n3_ := a_ (below_step (bS1_ HB.out GE344.out) hb)
        clear HO352
        clear HO355
        clear BK344
        clear HB
        have HO352 := n0_
        have HO355 := n1_
        have BK344 := n2_
        have HB := n3_
        clear n0_ n1_ n2_ n3_
        (try clear hb)
        (try clear hb2)
        (try clear hk)
        (try clear hi)
        refine hK.out _ _ ⟨(blk_cell BK344.out 0).trans rfl, (blk_cell BK344.out 1).trans rfl⟩ (fun hHeld => ?_)
        clear hK K
        refine norm_ (a' := ?_) ?_ ?_
        rotate_left
        ·show Act.put _ (some 45) _ = _
         simp only [Act.put, List.setIfInBounds_toArray, List.set_cons_zero, List.set_cons_succ, i64_w, i32_w]
         rfl
        refine pure_ (i := 9) (N := some 36) #[true, true, true, true, true, true, true, true, true, true, false, false, false, false] rfl rfl (any_of HT_.out (by kernel_rfl)) (fun _ _ _ h => h) (Or.inl ⟨by rfl, fun w' => by go_simp; with_reducible rfl⟩) (by simp only [Act.put, List.setIfInBounds_toArray, List.set_cons_zero, List.set_cons_succ, i64_w, i32_w]; rfl) ?_
        refine pure_ (i := 10) (N := some 46) #[true, true, true, true, true, true, true, true, true, true, true, false, false, false] rfl rfl (any_of HT_.out (by kernel_rfl)) (fun _ _ _ h => h) (Or.inl ⟨by rfl, fun w' => by go_simp; with_reducible rfl⟩) (by simp only [Act.put, List.setIfInBounds_toArray, List.set_cons_zero, List.set_cons_succ, i64_w, i32_w]; rfl) ?_
        refine pure_ (i := 11) (N := some 47) #[true, true, true, true, true, true, true, true, true, true, true, true, false, false] rfl rfl (any_of HT_.out (by kernel_rfl)) (fun _ _ _ h => h) (Or.inl ⟨by rfl, fun w' => by go_simp; with_reducible rfl⟩) (by simp only [Act.put, List.setIfInBounds_toArray, List.set_cons_zero, List.set_cons_succ, i64_w, i32_w]; rfl) ?_
        refine pure_ (i := 12) (N := some 10) #[true, true, true, true, true, true, true, true, true, true, true, true, true, false] rfl rfl (any_of HT_.out (by kernel_rfl)) (fun _ _ _ h => h) (Or.inl ⟨by rfl, fun w' => by go_simp; with_reducible rfl⟩) (by simp only [Act.put, List.setIfInBounds_toArray, List.set_cons_zero, List.set_cons_succ, i64_w, i32_w]; rfl) ?_
        refine pure_ (i := 13) (N := some 11) #[true, true, true, true, true, true, true, true, true, true, true, true, true, true] rfl rfl (any_of HT_.out (by kernel_rfl)) (fun _ _ _ h => h) (Or.inl ⟨by rfl, fun w' => by go_simp; with_reducible rfl⟩) (by simp only [Act.put, List.setIfInBounds_toArray, List.set_cons_zero, List.set_cons_succ, i64_w, i32_w]; rfl) ?_
        refine done_ (done_of HT_.out (by kernel_rfl)) ?_
        obtain ⟨⟨Z40_0, Y40_0⟩, Z40_1, Y40_1⟩ := cs2_ BK344.out
        obtain ⟨Ao41, co41, eo41⟩ := Kd.R_slice HO352.out
        subst eo41
        try go_wp2_with (first | ((with_reducible refine gate_callee (f := 15) rfl ?_); refine gl_ (some 63) Try.func15 (by kernel_rfl) #[.slice A0 l0.length c0, .slice Ao41 t348.length co41, .int .i64 a1, .int .i64 a2_1] ?_; (with_reducible refine (variorumref10_Total.calls kj3 _ _ l0 _ _ t348 a1 a2_1 t358 true _ ?side1 ?side2 ?side3 ?side4 A21.out).mono ?_); (case side1 => exact cw_ HR0.out HB.out); (case side2 => exact HC0.out); (case side3 => exact cr_ (Kd.R_reads' HO352.out).2.2); (case side4 => exact (Kd.R_reads' HO352.out).2.1); rintro e w42 ⟨rfl, hb⟩; refine ⟨_, rfl, ?_⟩; have n0_ := a_ (Kd.R_below (rv_ HO352.out) hb); have n1_ := a_ (Kd.R_below (rv_ HO355.out) hb); have n2_ := a_ (kb_ BK344.out hb); have n3_ := a_ (below_step (bS1_ HB.out GE344.out) hb); clear HO352; clear HO355; clear BK344; clear HB; have HO352 := n0_; have HO355 := n1_; have BK344 := n2_; have HB := n3_; clear n0_ n1_ n2_ n3_; (try clear hb); (try clear hb2); (try clear hk); (try clear hi)))
        go_ret
        exact ⟨by first | rfl | (simp [errW_none, errW_some] <;> rfl) | (simp [*, errW_none, errW_some] <;> rfl), bS1_ HB.out GE344.out⟩
      ·rw [if_neg c23] at H
       exact absurd H (by simp)
     ·replace c22 := Bool.eq_false_iff.mpr c22
      subst c22
      have H1 : (none) = some r := by rw [if_neg (show ¬ (false = true) by decide)] at H; exact H
      clear H
      have H := H1
      clear H1
      exact absurd H (by simp)
    ·replace c20 := Bool.eq_false_iff.mpr c20
     subst c20
     have H1 : (if t357 = true then (none) else (some ((t348.length : Int) == 0))) = some r := by rw [if_neg (show ¬ (false = true) by decide)] at H; exact H
     clear H
     have H := H1
     clear H1
     by_cases c43 : t357 = true
     ·subst c43
      have H1 : (none) = some r := by rw [if_pos rfl] at H; exact H
      clear H
      have H := H1
      clear H1
      exact absurd H (by simp)
     ·replace c43 := Bool.eq_false_iff.mpr c43
      subst c43
      have H1 : (some ((t348.length : Int) == 0)) = some r := by rw [if_neg (show ¬ (false = true) by decide)] at H; exact H
      clear H
      have H := H1
      clear H1
      obtain rfl := Option.some.inj H
      obtain ⟨⟨Z44_0, Y44_0⟩, Z44_1, Y44_1⟩ := cs2_ BK344.out
      try go_wp2_with (first | ((with_reducible refine gate_callee (f := 9) rfl ?_); refine gl_ (some 32) Try.func9 (by kernel_rfl) #[.slice A0 l0.length c0, .int .i64 a1, .int .i64 a2_1] ?_; (with_reducible refine (breaker_Best.calls kj3 _ _ l0 a1 a2_1 t348 t349 false _ ?side1 ?side2 A17.out).mono ?_); (case side1 => exact cw_ HR0.out HB.out); (case side2 => exact HC0.out); rintro e w45 ⟨v351, rfl, ho0, hb⟩; refine ⟨_, rfl, ?_⟩; have n0_ := a_ (Kd.R_lower ho0 (below_size (bS1_ HB.out GE344.out))); have n1_ := a_ (kb_ BK344.out hb); have n2_ := a_ (below_step (bS1_ HB.out GE344.out) hb); clear BK344; clear HB; have HO352 := n0_; have BK344 := n1_; have HB := n2_; clear n0_ n1_ n2_; (try clear hb); (try clear hb2); (try clear hk); (try clear hi); (try clear ho0)))
      have n0_ := a_ (Kd.R_drew HO352.out)
      have n1_ := a_ (blk_drew BK344.out)
      have n2_ := a_ (below_drew1 HB.out)
      clear HO352
      clear BK344
      clear HB
      have HO352 := n0_
      have BK344 := n1_
      have HB := n2_
      clear n0_ n1_ n2_
      refine start_ (n := 14) (S := fun w' => w'.cell? ⟨gb344, 0, none⟩ = some (.int .i64 a2_0) ∧ w'.cell? ⟨gb344, 1, none⟩ = some (.int .i64 a2_1)) (ds := []) #[false, false, false, false, false, false, false, false, false, false, false, false, false, false] (by kernel_rfl) rfl rfl ⟨(blk_cell BK344.out 0).trans rfl, (blk_cell BK344.out 1).trans rfl⟩ (fun hHeld => ?_); refine with_tabW variorumlaw11_BreakerLeast.tab4 variorumlaw11_BreakerLeast.bits4 (fun HT_ HW_ => ?_)
      generalize w45.drew = w46 at HO352 BK344 HB hHeld ⊢
      refine pure_ (i := 0) (N := some 37) #[true, false, false, false, false, false, false, false, false, false, false, false, false, false] rfl rfl (any_of HT_.out (by kernel_rfl)) (fun _ _ _ h => h) (Or.inl ⟨by rfl, fun w' => by go_simp; with_reducible rfl⟩) (by simp only [Act.put, List.setIfInBounds_toArray, List.set_cons_zero, List.set_cons_succ, i64_w, i32_w]; rfl) ?_
      refine pure_ (i := 1) (N := some 38) #[true, true, false, false, false, false, false, false, false, false, false, false, false, false] rfl rfl (any_of HT_.out (by kernel_rfl)) (fun _ _ _ h => h) (Or.inl ⟨by rfl, fun w' => by go_simp; with_reducible rfl⟩) (by simp only [Act.put, List.setIfInBounds_toArray, List.set_cons_zero, List.set_cons_succ, i64_w, i32_w]; rfl) ?_
      refine pure_ (i := 2) (N := some 39) #[true, true, true, false, false, false, false, false, false, false, false, false, false, false] rfl rfl (any_of HT_.out (by kernel_rfl)) (fun _ _ _ h => h) (Or.inl ⟨by rfl, fun w' => by go_simp; with_reducible rfl⟩) (by simp only [Act.put, List.setIfInBounds_toArray, List.set_cons_zero, List.set_cons_succ, i64_w, i32_w]; rfl) ?_
      refine pure_ (i := 5) (N := some 42) #[true, true, true, false, false, true, false, false, false, false, false, false, false, false] rfl rfl (any_of HT_.out (by kernel_rfl)) (fun _ _ _ h => h) (Or.inl ⟨by rfl, fun w' => by go_simp; with_reducible rfl⟩) (by simp only [Act.put, List.setIfInBounds_toArray, List.set_cons_zero, List.set_cons_succ, i64_w, i32_w]; rfl) ?_
      refine pure_ (i := 6) (N := some 43) #[true, true, true, false, false, true, true, false, false, false, false, false, false, false] rfl rfl (any_of HT_.out (by kernel_rfl)) (fun _ _ _ h => h) (Or.inl ⟨by rfl, fun w' => by go_simp; with_reducible rfl⟩) (by simp only [Act.put, List.setIfInBounds_toArray, List.set_cons_zero, List.set_cons_succ, i64_w, i32_w]; rfl) ?_
      refine take_ (i := 3) (N := some 40) (v := ?_) (a' := ?_) #[true, true, true, true, false, true, true, false, false, false, false, false, false, false] rfl rfl (take_ofW HT_.out HW_.out (by kernel_rfl)) (fun _ _ _ h => h) (Or.inl ⟨by rfl, ?_⟩) hHeld ?_ ?_
      rotate_left
      ·rintro w' ⟨s0, s1⟩
       go_simp
       with_reducible rfl
      rotate_left
      ·simp only [Act.put, List.setIfInBounds_toArray, List.set_cons_zero, List.set_cons_succ, i64_w, i32_w]
       rfl
      refine take_ (i := 7) (N := some 44) (v := ?_) (a' := ?_) #[true, true, true, true, false, true, true, true, false, false, false, false, false, false] rfl rfl (take_ofW HT_.out HW_.out (by kernel_rfl)) (fun _ _ _ h => h) (Or.inl ⟨by rfl, ?_⟩) hHeld ?_ ?_
      rotate_left
      ·rintro w' ⟨s0, s1⟩
       go_simp
       with_reducible rfl
      rotate_left
      ·simp only [Act.put, List.setIfInBounds_toArray, List.set_cons_zero, List.set_cons_succ, i64_w, i32_w]
       rfl
      refine one_ (i := 4) (N := some 41) #[true, true, true, true, true, true, true, true, false, false, false, false, false, false] rfl rfl (one_of HT_.out (by kernel_rfl)) (by decide) (fun K hK => ?_)
      refine goes_ Try.func16 (by kernel_rfl) rfl #[.slice A0 l0.length c0, .int .i64 a2_0] (by rfl) rfl rfl (by (try simp only [List.map_toArray, List.map_cons, List.map_nil]); first | done | rfl | (simp only [List.length_drop, List.length_take]; rfl) | (simp only [*]; first | done | rfl)) ?_
      with_reducible refine (variorumref11_Choice.calls kj3 _ _ l0 a2_0 t353 _ ?side1 ?side2 A18.out).mono ?_
      (case side1 => exact cw_ HR0.out HB.out)
      (case side2 => exact HC0.out)
      rintro e w47 ⟨v354, rfl, ho0, hb⟩
      refine ⟨_, rfl, ?_⟩
      have n0_ := a_ (Kd.R_elder' (rv_ HO352.out) (Kd.R_base ho0) hb)
      have n1_ := a_ (Kd.R_lower (Kd.R_new' ho0 (Kd.R_lt (rv_ HO352.out))) (below_size (bS1_ HB.out GE344.out)))
      have n2_ := a_ (kb_ BK344.out hb)
      have n3_ := a_ (below_step (bS1_ HB.out GE344.out) hb)
      clear HO352
      clear BK344
      clear HB
      have HO352 := n0_
      have HO355 := n1_
      have BK344 := n2_
      have HB := n3_
      clear n0_ n1_ n2_ n3_
      (try clear hb)
      (try clear hb2)
      (try clear hk)
      (try clear hi)
      (try clear ho0)
      obtain ⟨Ao48, co48, eo48⟩ := Kd.R_slice HO355.out
      (first | subst eo48 | (injection eo48 with f1_ f2_ f3_; have f4_ := f1_.symm; have f5_ := f3_.symm; clear f1_ f2_ f3_; subst f4_; subst f5_))
      refine hK.out _ _ ⟨(blk_cell BK344.out 0).trans rfl, (blk_cell BK344.out 1).trans rfl⟩ (fun hHeld => ?_)
      clear hK K
      refine norm_ (a' := ?_) ?_ ?_
      rotate_left
      ·show Act.put _ (some 41) _ = _
       simp only [Act.put, List.setIfInBounds_toArray, List.set_cons_zero, List.set_cons_succ, i64_w, i32_w]
       rfl
      refine one_ (i := 8) (N := some 45) #[true, true, true, true, true, true, true, true, true, false, false, false, false, false] rfl rfl (one_of HT_.out (by kernel_rfl)) (by decide) (fun K hK => ?_)
      refine goes_ Try.func15 (by kernel_rfl) rfl #[.slice A0 l0.length c0, .slice Ao48 t353.length co48, .int .i64 a1, .int .i64 a2_1] (by rfl) rfl rfl (by (try simp only [List.map_toArray, List.map_cons, List.map_nil]); first | done | rfl | (simp only [List.length_drop, List.length_take]; rfl) | (simp only [*]; first | done | rfl)) ?_
      with_reducible refine (variorumref10_Total.calls kj3 _ _ l0 _ _ t353 a1 a2_1 t356 false _ ?side1 ?side2 ?side3 ?side4 A19.out).mono ?_
      (case side1 => exact cw_ HR0.out HB.out)
      (case side2 => exact HC0.out)
      (case side3 => exact cr_ (Kd.R_reads' HO355.out).2.2)
      (case side4 => exact (Kd.R_reads' HO355.out).2.1)
      rintro e w49 ⟨rfl, hb⟩
      refine ⟨_, rfl, ?_⟩
      have n0_ := a_ (Kd.R_below (rv_ HO352.out) hb)
      have n1_ := a_ (Kd.R_below (rv_ HO355.out) hb)
      have n2_ := a_ (kb_ BK344.out hb)
      have n3_ := a_ (below_step (bS1_ HB.out GE344.out) hb)
      clear HO352
      clear HO355
      clear BK344
      clear HB
      have HO352 := n0_
      have HO355 := n1_
      have BK344 := n2_
      have HB := n3_
      clear n0_ n1_ n2_ n3_
      (try clear hb)
      (try clear hb2)
      (try clear hk)
      (try clear hi)
      refine hK.out _ _ ⟨(blk_cell BK344.out 0).trans rfl, (blk_cell BK344.out 1).trans rfl⟩ (fun hHeld => ?_)
      clear hK K
      refine norm_ (a' := ?_) ?_ ?_
      rotate_left
      ·show Act.put _ (some 45) _ = _
       simp only [Act.put, List.setIfInBounds_toArray, List.set_cons_zero, List.set_cons_succ, i64_w, i32_w]
       rfl
      refine pure_ (i := 9) (N := some 36) #[true, true, true, true, true, true, true, true, true, true, false, false, false, false] rfl rfl (any_of HT_.out (by kernel_rfl)) (fun _ _ _ h => h) (Or.inl ⟨by rfl, fun w' => by go_simp; with_reducible rfl⟩) (by simp only [Act.put, List.setIfInBounds_toArray, List.set_cons_zero, List.set_cons_succ, i64_w, i32_w]; rfl) ?_
      refine pure_ (i := 10) (N := some 46) #[true, true, true, true, true, true, true, true, true, true, true, false, false, false] rfl rfl (any_of HT_.out (by kernel_rfl)) (fun _ _ _ h => h) (Or.inl ⟨by rfl, fun w' => by go_simp; with_reducible rfl⟩) (by simp only [Act.put, List.setIfInBounds_toArray, List.set_cons_zero, List.set_cons_succ, i64_w, i32_w]; rfl) ?_
      refine pure_ (i := 11) (N := some 47) #[true, true, true, true, true, true, true, true, true, true, true, true, false, false] rfl rfl (any_of HT_.out (by kernel_rfl)) (fun _ _ _ h => h) (Or.inl ⟨by rfl, fun w' => by go_simp; with_reducible rfl⟩) (by simp only [Act.put, List.setIfInBounds_toArray, List.set_cons_zero, List.set_cons_succ, i64_w, i32_w]; rfl) ?_
      refine pure_ (i := 12) (N := some 10) #[true, true, true, true, true, true, true, true, true, true, true, true, true, false] rfl rfl (any_of HT_.out (by kernel_rfl)) (fun _ _ _ h => h) (Or.inl ⟨by rfl, fun w' => by go_simp; with_reducible rfl⟩) (by simp only [Act.put, List.setIfInBounds_toArray, List.set_cons_zero, List.set_cons_succ, i64_w, i32_w]; rfl) ?_
      refine pure_ (i := 13) (N := some 11) #[true, true, true, true, true, true, true, true, true, true, true, true, true, true] rfl rfl (any_of HT_.out (by kernel_rfl)) (fun _ _ _ h => h) (Or.inl ⟨by rfl, fun w' => by go_simp; with_reducible rfl⟩) (by simp only [Act.put, List.setIfInBounds_toArray, List.set_cons_zero, List.set_cons_succ, i64_w, i32_w]; rfl) ?_
      refine done_ (done_of HT_.out (by kernel_rfl)) ?_
      obtain ⟨Ao50, co50, eo50⟩ := Kd.R_slice HO352.out
      subst eo50
      try go_wp2
      go_ret
      exact ⟨by first | rfl | (simp [errW_none, errW_some] <;> rfl) | (simp [*, errW_none, errW_some] <;> rfl), bS1_ HB.out GE344.out⟩

/-- The one statement about numbers and lists that is left of the law. -/
def variorumlaw11_BreakerLeast.Pure : Prop := ∀ (x0 : List (S47)) (x1 : Int) (x2 : S35), (x0.length * 72 ≤ 140737488351232 ∧ ∀ y0 ∈ x0, ((Lit.int .i64 y0.f0).wf = true ∧ (((Lit.int .i64 y0.f1.f0).wf = true ∧ ((Lit.int .i64 y0.f1.f1).wf = true ∧ ((Lit.int .i64 y0.f1.f2).wf = true ∧ ((Lit.int .i64 y0.f1.f3).wf = true)))) ∧ ((Lit.int .i64 y0.f2).wf = true ∧ (True ∧ ((Lit.int .i64 y0.f4).wf = true ∧ ((Lit.int .i64 y0.f5).wf = true))))))) → (Lit.int .i64 x1).wf = true → ((Lit.int .i64 x2.f0).wf = true ∧ ((Lit.int .i64 x2.f1).wf = true)) → ∃ k, variorumlaw11_BreakerLeast.f k x0 x1 x2.f0 x2.f1 = some true

end Go.Proofs.Ytnkdopihaohimaa.PBr

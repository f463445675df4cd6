/- Written by a program of this session: functions of the given program as plain Lean functions, the walks that show it, and the row of each law, for every input that its statement speaks of. -/
import Derived.Test.YtagpdpcodcmgkaaPTox0
import Derived.Test.YtagpdpcodcmgkaaPTox1
import Derived.Test.YtagpdpcodcmgkaaPTox6
namespace Go.Proofs.Ytagpdpcodcmgkaa.PTo
open Go.RowKit Go.Proofs.YtagpdpcodcmgkaaW.PrintWords Go.Proofs.YtagpdpcodcmgkaaW.PrintLast
set_option linter.unusedVariables false
set_option linter.unusedSimpArgs false

/-! ### demerit_Total: function 7 -/
mutual
def demerit_Total.j0 : Nat → List (S47) → List Int → Int → Int → Bool → Option (Int × Bool)
 | 0, _, _, _, _, _ => none
 | k + 1, x0, x1, x2, x3, x32 => if x32 = true then (some (0, false)) else (demerit_Total.l0 k x0 x2 x3 0 (-1) 2 x1 (x1.length : Int) 0)
def demerit_Total.l0 : Nat → List (S47) → Int → Int → Int → Int → Int → List Int → Int → Int → Option (Int × Bool)
 | 0, _, _, _, _, _, _, _, _, _ => none
 | k + 1, x0, x2, x3, x10, x11, x12, x33, x34, x35 => if x35 < x34 then (if 0 ≤ x35 then (if x35 < (x33.length : Int) then ((demerit_Cost.f k x0 x11 (rd x33 x35) x2 x3).bind fun bt193 => (if bt193.2.2 = true then ((demerit_Apart.f bt193.2.1 x12).bind fun t196 => (demerit_Total.l0 k x0 x2 x3 (wrap64 (x10 + (wrap64 (bt193.1 + t196)))) (rd x33 x35) bt193.2.1 x33 x34 (wrap64 (x35 + 1)))) else (some (0, false)))) else (none)) else (none)) else (some (x10, true))
end
def demerit_Total.f (k : Nat) (l0 : List (S47)) (l1 : List Int) (a2 : Int) (a3 : Int) : Option (Int × Bool) := if (l1.length : Int) = 0 then (demerit_Total.j0 k l0 l1 a2 a3 true) else (if 0 ≤ (wrap64 ((l1.length : Int) - 1)) then (if (wrap64 ((l1.length : Int) - 1)) < (l1.length : Int) then (demerit_Total.j0 k l0 l1 a2 a3 ((rd l1 (wrap64 ((l1.length : Int) - 1))) != (wrap64 ((l0.length : Int) - 1)))) else (none)) else (none))
theorem demerit_Total.mono_l : ∀ k, (∀ y0 y1 y2 y3 y4, LeO (demerit_Total.j0 k y0 y1 y2 y3 y4) (demerit_Total.j0 (k + 1) y0 y1 y2 y3 y4)) ∧ (∀ y0 y1 y2 y3 y4 y5 y6 y7 y8, LeO (demerit_Total.l0 k y0 y1 y2 y3 y4 y5 y6 y7 y8) (demerit_Total.l0 (k + 1) y0 y1 y2 y3 y4 y5 y6 y7 y8))
 | 0 => ⟨fun _ _ _ _ _ r h => by simp [demerit_Total.j0] at h, fun _ _ _ _ _ _ _ _ _ r h => by simp [demerit_Total.l0] at h⟩
 | k + 1 => by
  obtain ⟨ih0, ih1⟩ := demerit_Total.mono_l k
  refine ⟨?_, ?_⟩
  ·intro y0 y1 y2 y3 y4
   unfold demerit_Total.j0
   repeat' first
   | (with_reducible exact ih0 _ _ _ _ _)
   | (with_reducible exact ih1 _ _ _ _ _ _ _ _ _)
   | (with_reducible exact demerit_Cost.mono _ _ _ _ _ _)
   | (with_reducible exact LeO.refl _)
   | (with_reducible exact LeO.none _)
   | (with_reducible refine LeO.ite ?_ ?_)
   | (with_reducible refine LeO.bind ?_ (fun _ => ?_))
   | exact ih0 _ _ _ _ _
   | exact ih1 _ _ _ _ _ _ _ _ _
   | exact demerit_Cost.mono _ _ _ _ _ _
   | exact LeO.none _
   | refine LeO.ite ?_ ?_
   | refine LeO.bind ?_ (fun _ => ?_)
  ·intro y0 y1 y2 y3 y4 y5 y6 y7 y8
   unfold demerit_Total.l0
   repeat' first
   | (with_reducible exact ih0 _ _ _ _ _)
   | (with_reducible exact ih1 _ _ _ _ _ _ _ _ _)
   | (with_reducible exact demerit_Cost.mono _ _ _ _ _ _)
   | (with_reducible exact LeO.refl _)
   | (with_reducible exact LeO.none _)
   | (with_reducible refine LeO.ite ?_ ?_)
   | (with_reducible refine LeO.bind ?_ (fun _ => ?_))
   | exact ih0 _ _ _ _ _
   | exact ih1 _ _ _ _ _ _ _ _ _
   | exact demerit_Cost.mono _ _ _ _ _ _
   | exact LeO.none _
   | refine LeO.ite ?_ ?_
   | refine LeO.bind ?_ (fun _ => ?_)
theorem demerit_Total.mono : ∀ a0 a1 a2 a3 k, LeO (demerit_Total.f k a0 a1 a2 a3) (demerit_Total.f (k + 1) a0 a1 a2 a3) := by
 intro a0 a1 a2 a3 k
 obtain ⟨ih0, ih1⟩ := demerit_Total.mono_l k
 unfold demerit_Total.f
 repeat' first
   | (with_reducible exact ih0 _ _ _ _ _)
   | (with_reducible exact ih1 _ _ _ _ _ _ _ _ _)
   | (with_reducible exact demerit_Cost.mono _ _ _ _ _ _)
   | (with_reducible exact LeO.refl _)
   | (with_reducible exact LeO.none _)
   | (with_reducible refine LeO.ite ?_ ?_)
   | (with_reducible refine LeO.bind ?_ (fun _ => ?_))
   | exact ih0 _ _ _ _ _
   | exact ih1 _ _ _ _ _ _ _ _ _
   | exact demerit_Cost.mono _ _ _ _ _ _
   | exact LeO.none _
   | refine LeO.ite ?_ ?_
   | refine LeO.bind ?_ (fun _ => ?_)
set_option maxHeartbeats 8000000 in
set_option maxRecDepth 100000 in
theorem demerit_Total.calls (k : Nat) (A0 : Option Addr) (c0 : Nat) (l0 : List (S47)) (A1 : Option Addr) (c1 : Nat) (l1 : List Int) (a2 : Int) (a3 : Int) (r1 : Int) (r2 : Bool) (w : World) (hr0 : Kd.C k47 w A0 l0.length l0) (hc0 : l0.length ≤ c0) (hr1 : Kd.C (Kd.int .i64) w A1 l1.length l1) (hc1 : l1.length ≤ c1) (h : demerit_Total.f k l0 l1 a2 a3 = some (r1, r2)) :
  Calls Try.prog 7 #[.slice A0 l0.length c0, .slice A1 l1.length c1, .int .i64 a2, .int .i64 a3] w fun e w' => e = .returned (.tuple #[.int .i64 r1, .bool r2]) ∧ Below w.heap.size w w' := by
 have HR0 := Aside0.mk hr0
 have HC0 := Aside0.mk hc0
 clear hr0 hc0
 have HR1 := Aside0.mk hr1
 have HC1 := Aside0.mk hc1
 clear hr1 hc1
 have HB := Aside0.mk (Below.refl w.heap.size w)
 have H : (if (l1.length : Int) = 0 then (demerit_Total.j0 k l0 l1 a2 a3 true) else (if 0 ≤ (wrap64 ((l1.length : Int) - 1)) then (if (wrap64 ((l1.length : Int) - 1)) < (l1.length : Int) then (demerit_Total.j0 k l0 l1 a2 a3 ((rd l1 (wrap64 ((l1.length : Int) - 1))) != (wrap64 ((l0.length : Int) - 1)))) else (none)) else (none))) = some (r1, r2) := h
 clear h
 have HC5 := Aside0.mk H
 clear H
 go_enter Try.func7, Try.ntmps7
 go_upto_region 1 with (fail)
 go_cut [32] (fun v32 wc => ∃ (kq : Nat) (x32_4 : Bool), v32 = .bool x32_4 ∧ Aside0 (demerit_Total.j0 kq l0 l1 a2 a3 x32_4 = some (r1, r2)) ∧ Aside0 (kq ≤ k) ∧ Aside0 (Below w.heap.size w wc))
 case first =>
  have H := HC5.out
  clear HC5
  by_cases c6 : (l1.length : Int) = 0
  ·rw [if_pos c6] at H
   have c6b0 : ((l1.length : Int) == 0) = true := beq_iff_eq.mpr c6
   have c6b1 : ((l1.length : Int) != 0) = false := bne_eq_false_iff_eq.mpr c6
   clear c6
   (first | rw [c6b0] | (simp only [i64_w, i32_w]; rw [c6b0]) | skip)
   have H' := Aside0.mk H
   clear H
   go_wp2
   go_meet
   case rel => exact ⟨_, (true), (by first | rfl | (simp; done) | (simp [*]; done)), H', ⟨by first | omega | exact Nat.le_refl _⟩, ⟨by repeat (first | (with_reducible first | exact HB.out | apply below_alloc | apply pw_below_drewN | apply below_drew1) | exact HB.out)⟩⟩
  ·rw [if_neg c6] at H
   have c6b0 : ((l1.length : Int) == 0) = false := beq_eq_false_iff_ne.mpr c6
   have c6b1 : ((l1.length : Int) != 0) = true := bne_iff_ne.mpr c6
   have c6b2 : ¬ (l1 = []) := fun h_ => c6 (by rw [h_]; rfl)
   (first | rw [c6b0] | (simp only [i64_w, i32_w]; rw [c6b0]) | skip)
   obtain ⟨ji7, hji7⟩ : ∃ j_ : Int, (wrap64 ((l1.length : Int) - 1)) = j_ := ⟨_, rfl⟩
   replace H : (if 0 ≤ (ji7) then (if (ji7) < (l1.length : Int) then (demerit_Total.j0 k l0 l1 a2 a3 ((rd l1 (ji7)) != (wrap64 ((l0.length : Int) - 1)))) else (none)) else (none)) = some (r1, r2) := by first | (rw [hji7] at H; exact H) | (simp only [hji7] at H ⊢; exact H)
   have hji7w : (IntKind.i64.wrap ((l1.length : Int) - 1)) = ji7 := (i64_w _).trans hji7
   by_cases c8 : 0 ≤ (ji7)
   ·rw [if_pos c8] at H
    have c8b0 : decide (0 ≤ (ji7)) = true := decide_eq_true c8
    clear c8
    by_cases c9 : (ji7) < (l1.length : Int)
    ·rw [if_pos c9] at H
     have c9b0 : decide ((ji7) < (l1.length : Int)) = true := decide_eq_true c9
     clear c9
     have H' := Aside0.mk H
     clear H
     have p191 : 0 ≤ ((ji7) : Int) := of_decide_eq_true (by first | (with_reducible assumption) | assumption)
     have q191 : (ji7) < (l1.length : Int) := of_decide_eq_true (by first | (with_reducible assumption) | assumption)
     obtain ⟨ad191, e191, hx191_0⟩ := Kd.at_int HR1.out (ji7) p191 q191
     cases e191
     replace hx191_0 := (HB.out.cell (World.block_lt_of_cell? w _ hx191_0)).trans hx191_0
     replace p191 := eq_true p191
     replace q191 := eq_true q191
     go_wp2
     go_meet
     case rel => exact ⟨_, (((rd l1 (ji7)) != (wrap64 ((l0.length : Int) - 1)))), (by first | rfl | (simp; done) | (simp only [← hji7] <;> (first | rfl | simp)) | (simp [*]; done)), H', ⟨by first | omega | exact Nat.le_refl _⟩, ⟨by repeat (first | (with_reducible first | exact HB.out | apply below_alloc | apply pw_below_drewN | apply below_drew1) | exact HB.out)⟩⟩
    ·rw [if_neg c9] at H
     exact absurd H (by simp)
   ·rw [if_neg c8] at H
    exact absurd H (by simp)
 case rest =>
  clear HC5
  try clear c1
  try clear p1
  try clear q1
  try clear hx1
  try clear p2
  try clear c6
  try clear c6b0
  try clear c6b1
  try clear c6b2
  try clear p6
  try clear c7
  try clear c8
  try clear c8b0
  try clear c9
  try clear c9b0
  try clear hx191_0
  try clear p191
  try clear q191
  obtain ⟨kq, x32_4, rfl, HA, HJ4, HB⟩ := hcut
  cases kq with
  | zero => exact absurd HA.out (by simp [demerit_Total.j0])
  | succ kj4 =>
   have H := HA.out
   clear HA
   simp only [demerit_Total.j0] at H
   by_cases c10 : x32_4 = true
   ·subst c10
    have H1 : (some (0, false)) = some (r1, r2) := by rw [if_pos rfl] at H; exact H
    clear H
    have H := H1
    clear H1
    simp only [Option.some.injEq, Prod.mk.injEq] at H
    obtain ⟨rfl, rfl⟩ := H
    go_wp2
    go_ret2
    exact ⟨by first | rfl | (simp [errW_none, errW_some] <;> rfl) | (simp [*, errW_none, errW_some] <;> rfl), by repeat (first | (with_reducible first | exact HB.out | apply below_alloc | apply pw_below_drewN | apply below_drew1) | exact HB.out)⟩
   ·replace c10 := Bool.eq_false_iff.mpr c10
    subst c10
    have H1 : (demerit_Total.l0 kj4 l0 a2 a3 0 (-1) 2 l1 (l1.length : Int) 0) = some (r1, r2) := by rw [if_neg (show ¬ (false = true) by decide)] at H; exact H
    clear H
    have H := H1
    clear H1
    have H' := Aside0.mk H
    clear H
    go_wp2
    go_loopg [10, 11, 12, 35] kj4 (fun kq v10 v11 v12 v35 w' => ∃ (x10_2 : Int) (x11_2 : Int) (x12_2 : Int) (x35_2 : Int), v10 = .int .i64 x10_2 ∧ v11 = .int .i64 x11_2 ∧ v12 = .int .i64 x12_2 ∧ v35 = .int .i64 x35_2 ∧ Aside0 (demerit_Total.l0 kq l0 a2 a3 x10_2 x11_2 x12_2 l1 (l1.length : Int) x35_2 = some (r1, r2)) ∧ Aside0 (kq ≤ kj4) ∧ Aside0 (Below w.heap.size w w'))
    case atStart => exact ⟨(0), ((-1)), (2), (0), (by first | rfl | (simp; done) | (simp [*]; done)), (by first | rfl | (simp; done) | (simp [*]; done)), (by first | rfl | (simp; done) | (simp [*]; done)), (by first | rfl | (simp; done) | (simp [*]; done)), H', ⟨Nat.le_refl _⟩, ⟨by repeat (first | (with_reducible first | exact HB.out | apply below_alloc | apply pw_below_drewN | apply below_drew1) | exact HB.out)⟩⟩
    case round =>
     clear H'
     try clear c1
     try clear p1
     try clear q1
     try clear hx1
     try clear p2
     try clear c6
     try clear c6b0
     try clear c6b1
     try clear c6b2
     try clear p6
     try clear c7
     try clear c8
     try clear c8b0
     try clear c9
     try clear c9b0
     try clear c10
     try clear hx191_0
     try clear p1
     try clear p191
     try clear p2
     try clear p6
     try clear q1
     try clear q191
     obtain ⟨x10_2, x11_2, x12_2, x35_2, rfl, rfl, rfl, rfl, HA, HK2, HB⟩ := hrel
     cases gk with
     | zero => exact absurd HA.out (by simp [demerit_Total.l0])
     | succ k2 =>
      have H := HA.out
      clear HA
      simp only [demerit_Total.l0] at H
      by_cases c11 : x35_2 < (l1.length : Int)
      ·rw [if_pos c11] at H
       have c11b0 : decide (x35_2 < (l1.length : Int)) = true := decide_eq_true c11
       clear c11
       by_cases c12 : 0 ≤ x35_2
       ·rw [if_pos c12] at H
        have c12b0 : decide (0 ≤ x35_2) = true := decide_eq_true c12
        clear c12
        by_cases c13 : x35_2 < (l1.length : Int)
        ·rw [if_pos c13] at H
         have c13b0 : decide (x35_2 < (l1.length : Int)) = true := decide_eq_true c13
         clear c13
         replace H := Option.bind_eq_some_iff.mp H
         obtain ⟨⟨t193, t194, t195⟩, A140, H⟩ := H
         replace H : (if t195 = true then ((demerit_Apart.f t194 x12_2).bind fun t196 => (demerit_Total.l0 k2 l0 a2 a3 (wrap64 (x10_2 + (wrap64 (t193 + t196)))) (rd l1 x35_2) t194 l1 (l1.length : Int) (wrap64 (x35_2 + 1)))) else (some (0, false))) = some (r1, r2) := H
         have A14 := Aside0.mk A140
         clear A140
         by_cases c15 : t195 = true
         ·subst c15
          have H1 : ((demerit_Apart.f t194 x12_2).bind fun t196 => (demerit_Total.l0 k2 l0 a2 a3 (wrap64 (x10_2 + (wrap64 (t193 + t196)))) (rd l1 x35_2) t194 l1 (l1.length : Int) (wrap64 (x35_2 + 1)))) = some (r1, r2) := by rw [if_pos rfl] at H; exact H
          clear H
          have H := H1
          clear H1
          replace H := Option.bind_eq_some_iff.mp H
          obtain ⟨t196, A160, H⟩ := H
          replace H : (demerit_Total.l0 k2 l0 a2 a3 (wrap64 (x10_2 + (wrap64 (t193 + t196)))) (rd l1 x35_2) t194 l1 (l1.length : Int) (wrap64 (x35_2 + 1))) = some (r1, r2) := H
          have A16 := Aside0.mk A160
          clear A160
          have H' := Aside0.mk H
          clear H
          have p192 : 0 ≤ (x35_2 : Int) := of_decide_eq_true (by first | (with_reducible assumption) | assumption)
          have q192 : x35_2 < (l1.length : Int) := of_decide_eq_true (by first | (with_reducible assumption) | assumption)
          obtain ⟨ad192, e192, hx192_0⟩ := Kd.at_int HR1.out x35_2 p192 q192
          cases e192
          replace hx192_0 := (HB.out.cell (World.block_lt_of_cell? w _ hx192_0)).trans hx192_0
          replace p192 := eq_true p192
          replace q192 := eq_true q192
          go_wp2_with (first | ((with_reducible refine gate_callee (f := 9) rfl ?_); refine goesL_ (some 45) rfl rfl Try.func9 (by kernel_rfl) rfl #[.slice A0 l0.length c0, .int .i64 x11_2, .int .i64 (rd l1 x35_2), .int .i64 a2, .int .i64 a3] rfl (by (try simp only [List.map_toArray, List.map_cons, List.map_nil]); first | done | rfl | (simp only [List.length_drop, List.length_take]; rfl) | (simp only [*]; first | done | rfl)) ?_; (with_reducible refine (demerit_Cost.calls k2 _ _ l0 x11_2 (rd l1 x35_2) a2 a3 t193 t194 true _ ?side1 ?side2 A14.out).mono ?_); (case side1 => repeat (first | exact (Kd.C_below HR0.out HB.out) | (with_reducible refine Kd.C_alloc ?_ _) | (with_reducible refine Kd.C_drewN ?_ _) | (with_reducible refine Kd.C_drew ?_))); (case side2 => exact HC0.out); rintro e w17 ⟨rfl, hb⟩; refine ⟨_, rfl, ?_⟩; have n0_ := Aside0.mk (below_step (by repeat (first | (with_reducible first | exact HB.out | apply below_alloc | apply pw_below_drewN | apply below_drew1) | exact HB.out)) hb); clear HB; have HB := n0_; clear n0_; (try clear hb); (try clear hb2); (try clear hk); (try clear hi)) | ((with_reducible refine gate_callee (f := 14) rfl ?_); refine goesL_ (some 55) rfl rfl Try.func14 (by kernel_rfl) rfl #[.int .i64 t194, .int .i64 x12_2] rfl (by (try simp only [List.map_toArray, List.map_cons, List.map_nil]); first | done | rfl | (simp only [List.length_drop, List.length_take]; rfl) | (simp only [*]; first | done | rfl)) ?_; (with_reducible refine (demerit_Apart.calls t194 x12_2 t196 _ A16.out).mono ?_); rintro e w' ⟨rfl, ⟨nd, rfl⟩⟩; refine ⟨_, rfl, ?_⟩))
          go_roundg k2
          case measure => have := HJ4.out; have := HK2.out; omega
          case rel => exact ⟨(wrap64 (x10_2 + (wrap64 (t193 + t196)))), (rd l1 x35_2), (t194), (wrap64 (x35_2 + 1)), (by first | rfl | (simp; done) | (simp [*]; done)), (by first | rfl | (simp; done) | (simp [*]; done)), (by first | rfl | (simp; done) | (simp [*]; done)), (by first | rfl | (simp; done) | (simp [*]; done)), H', ⟨by have := HJ4.out; have := HK2.out; omega⟩, ⟨by repeat (first | (with_reducible first | exact HB.out | apply below_alloc | apply pw_below_drewN | apply below_drew1) | exact HB.out)⟩⟩
         ·replace c15 := Bool.eq_false_iff.mpr c15
          subst c15
          have H1 : (some (0, false)) = some (r1, r2) := by rw [if_neg (show ¬ (false = true) by decide)] at H; exact H
          clear H
          have H := H1
          clear H1
          simp only [Option.some.injEq, Prod.mk.injEq] at H
          obtain ⟨rfl, rfl⟩ := H
          have p192 : 0 ≤ (x35_2 : Int) := of_decide_eq_true (by first | (with_reducible assumption) | assumption)
          have q192 : x35_2 < (l1.length : Int) := of_decide_eq_true (by first | (with_reducible assumption) | assumption)
          obtain ⟨ad192, e192, hx192_0⟩ := Kd.at_int HR1.out x35_2 p192 q192
          cases e192
          replace hx192_0 := (HB.out.cell (World.block_lt_of_cell? w _ hx192_0)).trans hx192_0
          replace p192 := eq_true p192
          replace q192 := eq_true q192
          go_wp2_with (first | ((with_reducible refine gate_callee (f := 9) rfl ?_); refine goesL_ (some 45) rfl rfl Try.func9 (by kernel_rfl) rfl #[.slice A0 l0.length c0, .int .i64 x11_2, .int .i64 (rd l1 x35_2), .int .i64 a2, .int .i64 a3] rfl (by (try simp only [List.map_toArray, List.map_cons, List.map_nil]); first | done | rfl | (simp only [List.length_drop, List.length_take]; rfl) | (simp only [*]; first | done | rfl)) ?_; (with_reducible refine (demerit_Cost.calls k2 _ _ l0 x11_2 (rd l1 x35_2) a2 a3 t193 t194 false _ ?side1 ?side2 A14.out).mono ?_); (case side1 => repeat (first | exact (Kd.C_below HR0.out HB.out) | (with_reducible refine Kd.C_alloc ?_ _) | (with_reducible refine Kd.C_drewN ?_ _) | (with_reducible refine Kd.C_drew ?_))); (case side2 => exact HC0.out); rintro e w18 ⟨rfl, hb⟩; refine ⟨_, rfl, ?_⟩; have n0_ := Aside0.mk (below_step (by repeat (first | (with_reducible first | exact HB.out | apply below_alloc | apply pw_below_drewN | apply below_drew1) | exact HB.out)) hb); clear HB; have HB := n0_; clear n0_; (try clear hb); (try clear hb2); (try clear hk); (try clear hi)))
          go_ret2
          exact ⟨by first | rfl | (simp [errW_none, errW_some] <;> rfl) | (simp [*, errW_none, errW_some] <;> rfl), by repeat (first | (with_reducible first | exact HB.out | apply below_alloc | apply pw_below_drewN | apply below_drew1) | exact HB.out)⟩
        ·rw [if_neg c13] at H
         exact absurd H (by simp)
       ·rw [if_neg c12] at H
        exact absurd H (by simp)
      ·rw [if_neg c11] at H
       have c11b0 : decide (x35_2 < (l1.length : Int)) = false := decide_eq_false c11
       clear c11
       simp only [Option.some.injEq, Prod.mk.injEq] at H
       obtain ⟨rfl, rfl⟩ := H
       go_wp2
       go_ret2
       exact ⟨by first | rfl | (simp [errW_none, errW_some] <;> rfl) | (simp [*, errW_none, errW_some] <;> rfl), by repeat (first | (with_reducible first | exact HB.out | apply below_alloc | apply pw_below_drewN | apply below_drew1) | exact HB.out)⟩

/-! ### variorumref09_End: function 20 -/
def variorumref09_End.f  : Option ((List (S47))) := some (([(⟨2, (⟨0, 0, 0, 0⟩ : S45), 10000, false, 0, 0⟩ : S47), (⟨1, (⟨0, 65536, 0, 1⟩ : S45), 0, false, 0, 0⟩ : S47), (⟨2, (⟨0, 0, 0, 0⟩ : S45), (-10000), false, 0, 0⟩ : S47)] : List (S47)))
set_option maxHeartbeats 8000000 in
set_option maxRecDepth 100000 in
theorem variorumref09_End.calls  (r : List (S47)) (w : World) (h : variorumref09_End.f  = some r) :
  Calls Try.prog 20 #[] w fun e w' => ∃ v0_ : Value, e = .returned (v0_) ∧ Kd.R k47 47 w' w.heap.size (fun _ => True) v0_ r ∧ Below w.heap.size w w' := by
 have hu47 := Try.underlying47
 have hu45 := Try.underlying45
 have HB := Aside0.mk (Below.refl w.heap.size w)
 have H : (some (([(⟨2, (⟨0, 0, 0, 0⟩ : S45), 10000, false, 0, 0⟩ : S47), (⟨1, (⟨0, 65536, 0, 1⟩ : S45), 0, false, 0, 0⟩ : S47), (⟨2, (⟨0, 0, 0, 0⟩ : S45), (-10000), false, 0, 0⟩ : S47)] : List (S47)))) = some r := h
 clear h
 obtain ⟨y197, hy197⟩ : ∃ y_ : List (S47), y_ = (([(⟨2, (⟨0, 0, 0, 0⟩ : S45), 10000, false, 0, 0⟩ : S47), (⟨1, (⟨0, 65536, 0, 1⟩ : S45), 0, false, 0, 0⟩ : S47), (⟨2, (⟨0, 0, 0, 0⟩ : S45), (-10000), false, 0, 0⟩ : S47)] : List (S47))) := ⟨_, rfl⟩
 replace H : (some y197) = some r := by first | (rw [hy197]; with_reducible exact H) | (have H2_ := (Option.bind_some _ _).symm.trans H; rw [hy197]; with_reducible exact H2_) | (have H2_ := (Option.bind_some _ _).symm.trans H; with_reducible exact H2_) | with_reducible exact H | (rw [hy197]; exact H) | exact H
 have Ny197 := Aside0.mk hy197
 clear hy197
 obtain rfl := Option.some.inj H
 go_enter Try.func20, Try.ntmps20
 go_wp2_with (first | ((with_reducible refine gate_dst (N := 5) rfl ?_); refine Kd.R_lit k47 _ 47 ?hg (N := 5) ?hd (xs := ([(⟨2, (⟨0, 0, 0, 0⟩ : S45), 10000, false, 0, 0⟩ : S47), (⟨1, (⟨0, 65536, 0, 1⟩ : S45), 0, false, 0, 0⟩ : S47), (⟨2, (⟨0, 0, 0, 0⟩ : S45), (-10000), false, 0, 0⟩ : S47)] : List (S47))) (inner := [.int .i64 2, .int .i64 0, .int .i64 0, .int .i64 0, .int .i64 0, .int .i64 10000, .bool false, .int .i64 0, .int .i64 0, .int .i64 1, .int .i64 0, .int .i64 65536, .int .i64 0, .int .i64 1, .int .i64 0, .bool false, .int .i64 0, .int .i64 0, .int .i64 2, .int .i64 0, .int .i64 0, .int .i64 0, .int .i64 0, .int .i64 (-10000), .bool false, .int .i64 0, .int .i64 0]) (ok := fun _ => True) (okp := fun _ => True) ?hr ?hp (fun _ hk => hk) trivial (Below.refl _ _) (Nat.le_refl _) (by simp) ?_; (case hd => rfl); (case hg => rfl); (case hr => first | (go_simp; done) | (go_simp; rfl)); (case hp => exact (Reps.c9 (show Kd.M k47 _ _ _ (⟨2, (⟨0, 0, 0, 0⟩ : S45), 10000, false, 0, 0⟩ : S47) [.int .i64 2, .int .i64 0, .int .i64 0, .int .i64 0, .int .i64 0, .int .i64 10000, .bool false, .int .i64 0, .int .i64 0] from (k47_mkM _ _ _ (⟨2, (⟨0, 0, 0, 0⟩ : S45), 10000, false, 0, 0⟩ : S47) )) (Reps.c9 (show Kd.M k47 _ _ _ (⟨1, (⟨0, 65536, 0, 1⟩ : S45), 0, false, 0, 0⟩ : S47) [.int .i64 1, .int .i64 0, .int .i64 65536, .int .i64 0, .int .i64 1, .int .i64 0, .bool false, .int .i64 0, .int .i64 0] from (k47_mkM _ _ _ (⟨1, (⟨0, 65536, 0, 1⟩ : S45), 0, false, 0, 0⟩ : S47) )) (Reps.c9 (show Kd.M k47 _ _ _ (⟨2, (⟨0, 0, 0, 0⟩ : S45), (-10000), false, 0, 0⟩ : S47) [.int .i64 2, .int .i64 0, .int .i64 0, .int .i64 0, .int .i64 0, .int .i64 (-10000), .bool false, .int .i64 0, .int .i64 0] from (k47_mkM _ _ _ (⟨2, (⟨0, 0, 0, 0⟩ : S45), (-10000), false, 0, 0⟩ : S47) )) (Reps.none _ _))))); intro v198 w1 ho2 hb hg_ hnew_; clear hg_ hnew_; (first | rw [← Ny197.out] at ho2 | (simp only [Int.reduceToNat] at ho2; rw [← Ny197.out] at ho2)); have n0_ := Aside0.mk (Kd.R_lower ho2 (below_size (by repeat (first | (with_reducible first | exact HB.out | apply below_alloc | apply pw_below_drewN | apply below_drew1) | exact HB.out)))); have n1_ := Aside0.mk (below_step (by repeat (first | (with_reducible first | exact HB.out | apply below_alloc | apply pw_below_drewN | apply below_drew1) | exact HB.out)) hb); clear HB; have HO199 := n0_; have HB := n1_; clear n0_ n1_; clear hb ho2))
 go_ret
 exact ⟨_, by first | rfl | (simp [errW_none, errW_some] <;> rfl) | (simp [*, errW_none, errW_some] <;> rfl), by (with_reducible repeat (first | apply Kd.R_alloc | apply Kd.R_drewN | apply Kd.R_drew)); exact HO199.out, by repeat (first | (with_reducible first | exact HB.out | apply below_alloc | apply pw_below_drewN | apply below_drew1) | exact HB.out)⟩

/-! ### variorumlaw10_one: function 10 -/
def variorumlaw10_one.f  : Option ((List (S47))) := (some (([(⟨0, (⟨10, 0, 0, 0⟩ : S45), 0, false, 0, 0⟩ : S47)] : List (S47)) : List (S47))).bind fun y200 => ((variorumref09_End.f).bind fun t203 => (if y200.length + t203.length < 1954687338268 then (some (y200 ++ t203)) else (none)))
set_option maxHeartbeats 8000000 in
set_option maxRecDepth 100000 in
theorem variorumlaw10_one.calls  (r : List (S47)) (w : World) (h : variorumlaw10_one.f  = some r) :
  Calls Try.prog 10 #[] w fun e w' => ∃ v0_ : Value, e = .returned (v0_) ∧ Kd.R k47 47 w' w.heap.size (fun _ => True) v0_ r ∧ Below w.heap.size w w' := by
 have hu45 := Try.underlying45
 have hu47 := Try.underlying47
 have HB := Aside0.mk (Below.refl w.heap.size w)
 have H : ((some (([(⟨0, (⟨10, 0, 0, 0⟩ : S45), 0, false, 0, 0⟩ : S47)] : List (S47)) : List (S47))).bind fun y200 => ((variorumref09_End.f).bind fun t203 => (if y200.length + t203.length < 1954687338268 then (some (y200 ++ t203)) else (none)))) = some r := h
 clear h
 obtain ⟨y200, hy200⟩ : ∃ y_ : List (S47), y_ = (([(⟨0, (⟨10, 0, 0, 0⟩ : S45), 0, false, 0, 0⟩ : S47)] : List (S47))) := ⟨_, rfl⟩
 replace H : ((variorumref09_End.f).bind fun t203 => (if y200.length + t203.length < 1954687338268 then (some (y200 ++ t203)) else (none))) = some r := by first | (rw [hy200]; with_reducible exact H) | (have H2_ := (Option.bind_some _ _).symm.trans H; rw [hy200]; with_reducible exact H2_) | (have H2_ := (Option.bind_some _ _).symm.trans H; with_reducible exact H2_) | with_reducible exact H | (rw [hy200]; exact H) | exact H
 have Ny200 := Aside0.mk hy200
 clear hy200
 replace H := Option.bind_eq_some_iff.mp H
 obtain ⟨t203, A10, H⟩ := H
 replace H : (if y200.length + t203.length < 1954687338268 then (some (y200 ++ t203)) else (none)) = some r := H
 have A1 := Aside0.mk A10
 clear A10
 by_cases c2 : y200.length + t203.length < 1954687338268
 ·rw [if_pos c2] at H
  have LMc2 := Aside0.mk c2
  clear c2
  obtain ⟨y206, hy206⟩ : ∃ y_ : List (S47), y_ = (y200 ++ t203) := ⟨_, rfl⟩
  replace H : (some y206) = some r := by first | (rw [hy206]; with_reducible exact H) | (have H2_ := (Option.bind_some _ _).symm.trans H; rw [hy206]; with_reducible exact H2_) | (have H2_ := (Option.bind_some _ _).symm.trans H; with_reducible exact H2_) | with_reducible exact H | (rw [hy206]; exact H) | exact H
  have Ny206 := Aside0.mk hy206
  clear hy206
  obtain rfl := Option.some.inj H
  go_enter Try.func10, Try.ntmps10
  go_wp2_with (first | ((with_reducible refine gate_dst (N := 4) rfl ?_); refine Kd.R_lit k47 _ 47 ?hg (N := 4) ?hd (xs := ([(⟨0, (⟨10, 0, 0, 0⟩ : S45), 0, false, 0, 0⟩ : S47)] : List (S47))) (inner := [.int .i64 0, .int .i64 10, .int .i64 0, .int .i64 0, .int .i64 0, .int .i64 0, .bool false, .int .i64 0, .int .i64 0]) (ok := fun _ => True) (okp := fun _ => True) ?hr ?hp (fun _ hk => hk) trivial (Below.refl _ _) (Nat.le_refl _) (by simp) ?_; (case hd => rfl); (case hg => rfl); (case hr => first | (go_simp; done) | (go_simp; rfl)); (case hp => exact (Reps.c9 (show Kd.M k47 _ _ _ (⟨0, (⟨10, 0, 0, 0⟩ : S45), 0, false, 0, 0⟩ : S47) [.int .i64 0, .int .i64 10, .int .i64 0, .int .i64 0, .int .i64 0, .int .i64 0, .bool false, .int .i64 0, .int .i64 0] from (k47_mkM _ _ _ (⟨0, (⟨10, 0, 0, 0⟩ : S45), 0, false, 0, 0⟩ : S47) )) (Reps.none _ _))); intro v201 w3 ho4 hb hg_ hnew_; clear hg_ hnew_; (first | rw [← Ny200.out] at ho4 | (simp only [Int.reduceToNat] at ho4; rw [← Ny200.out] at ho4)); have n0_ := Aside0.mk (Kd.R_lower ho4 (below_size (by repeat (first | (with_reducible first | exact HB.out | apply below_alloc | apply pw_below_drewN | apply below_drew1) | exact HB.out)))); have n1_ := Aside0.mk (below_step (by repeat (first | (with_reducible first | exact HB.out | apply below_alloc | apply pw_below_drewN | apply below_drew1) | exact HB.out)) hb); clear HB; have HO202 := n0_; have HB := n1_; clear n0_ n1_; clear hb ho4) | ((with_reducible refine gate_callee (f := 20) rfl ?_); refine goesL_ (some 6) rfl rfl Try.func20 (by kernel_rfl) rfl #[] rfl (by (try simp only [List.map_toArray, List.map_cons, List.map_nil]); first | done | rfl | (simp only [List.length_drop, List.length_take]; rfl) | (simp only [*]; first | done | rfl)) ?_; (with_reducible refine (variorumref09_End.calls  t203 _ A1.out).mono ?_); rintro e w5 ⟨v204, rfl, ho0, hb⟩; refine ⟨_, rfl, ?_⟩; have n0_ := Aside0.mk (Kd.R_elder' (by (with_reducible repeat (first | apply Kd.R_alloc | apply Kd.R_drewN | apply Kd.R_drew)); exact HO202.out) (Kd.R_base ho0) hb); have n1_ := Aside0.mk (Kd.R_lower (Kd.R_new' ho0 (Kd.R_lt (by (with_reducible repeat (first | apply Kd.R_alloc | apply Kd.R_drewN | apply Kd.R_drew)); exact HO202.out))) (below_size (by repeat (first | (with_reducible first | exact HB.out | apply below_alloc | apply pw_below_drewN | apply below_drew1) | exact HB.out)))); have n2_ := Aside0.mk (below_step (by repeat (first | (with_reducible first | exact HB.out | apply below_alloc | apply pw_below_drewN | apply below_drew1) | exact HB.out)) hb); clear HO202; clear HB; have HO202 := n0_; have HO205 := n1_; have HB := n2_; clear n0_ n1_ n2_; (try clear hb); (try clear hb2); (try clear hk); (try clear hi); (try clear ho0); obtain ⟨Ao7, co7, eo7⟩ := Kd.R_slice HO205.out; subst eo7) | ((with_reducible refine gate_builtin (b := .append) (xs := #[.tmp 5, .tmp 6]) rfl ?_); at_builtin; refine Kd.R_append_rows k47 (w0 := w) w.heap.size rfl (.tmp 5) (.tmp 6) 22 47 (.agg #[(.int .i64 0), (.int .i64 0), (.int .i64 0), (.int .i64 0), (.int .i64 0), (.int .i64 0), (.bool false), (.int .i64 0), (.int .i64 0)]) 72 rfl Try.underlying22 info47 rfl (by decide) (by omega) v201 y200 t203 _ _ _ (fun k_ => some k_ ≠ (.slice Ao7 t203.length co7 : Value).ownBlock) (fun _ => False) rfl rfl ?aO ?aR (fun _ _ h => h) (fun _ h => h.elim) ?aF ?aB ?aS ?aL ?_; (case aR => repeat (first | exact (Kd.R_reads' HO205.out).2.2 | (with_reducible refine Kd.C_alloc ?_ _) | (with_reducible refine Kd.C_drewN ?_ _) | (with_reducible refine Kd.C_drew ?_))); (case aB => exact (by repeat (first | (with_reducible first | exact HB.out | apply below_alloc | apply pw_below_drewN | apply below_drew1) | exact HB.out))); (case aF => exact (fun k_ hk => Kd.fresh' (Kd.R_lt (by (with_reducible repeat (first | apply Kd.R_alloc | apply Kd.R_drewN | apply Kd.R_drew)); exact HO205.out)) k_ hk)); (case aO => exact (by (with_reducible repeat (first | apply Kd.R_alloc | apply Kd.R_drewN | apply Kd.R_drew)); exact Kd.R_mono HO202.out (fun _ hk => hk.2))); (case aS => exact (below_size (by repeat (first | (with_reducible first | exact HB.out | apply below_alloc | apply pw_below_drewN | apply below_drew1) | exact HB.out)))); (case aL => have := LMc2.out; omega); intro v207 w6 ho hb hg hat; rw [← Ny206.out] at ho; have n0_ := Aside0.mk (Kd.R_after (ok := (fun _ => True)) (by (with_reducible repeat (first | apply Kd.R_alloc | apply Kd.R_drewN | apply Kd.R_drew)); exact HO205.out) hg hat); have n1_ := Aside0.mk (hb); have n2_ := Aside0.mk (ho); clear HO205; clear HB; clear HO202; have HO205 := n0_; have HB := n1_; have HO208 := n2_; clear n0_ n1_ n2_; clear ho hb hg hat))
  go_ret
  exact ⟨_, by first | rfl | (simp [errW_none, errW_some] <;> rfl) | (simp [*, errW_none, errW_some] <;> rfl), by (with_reducible repeat (first | apply Kd.R_alloc | apply Kd.R_drewN | apply Kd.R_drew)); exact Kd.R_mono HO208.out (fun _ hk => trivial), by repeat (first | (with_reducible first | exact HB.out | apply below_alloc | apply pw_below_drewN | apply below_drew1) | exact HB.out)⟩
 ·rw [if_neg c2] at H
  exact absurd H (by simp)

/-! ### variorumlaw10_fixed: function 6 -/
def variorumlaw10_fixed.f (k : Nat)  : Option (Bool) := (variorumlaw10_one.f).bind fun t209 => ((demerit_Cost.f k t209 (-1) 3 10 200).bind fun bt212 => ((variorumlaw10_one.f).bind fun t215 => ((demerit_Cost.f k t215 (-1) 3 70000 200).bind fun bt218 => ((variorumlaw10_one.f).bind fun t221 => ((demerit_Cost.f k t221 (-1) 3 9 10000).bind fun bt224 => ((variorumlaw10_one.f).bind fun t227 => ((demerit_Total.f k t227 (([3] : List Int)) 10 0).bind fun bt233 => (if bt212.1 = 100 then (if bt212.2.1 = 2 then (if bt212.2.2 = true then (if bt218.1 = 100 then (if bt218.2.2 = true then (if bt224.2.2 = true then (none) else (if bt233.1 = 100 then (if bt233.2 = true then ((variorumlaw10_one.f).bind fun t235 => ((demerit_Legal.f k t235 3).bind fun t238 => (if t238 = true then ((variorumlaw10_one.f).bind fun t239 => ((demerit_Legal.f k t239 1).bind fun t242 => (if t242 = true then (none) else ((variorumlaw10_one.f).bind fun t243 => ((demerit_Start.f k t243 (-1)).bind fun t246 => (if t246 = 0 then ((variorumlaw10_one.f).bind fun t247 => ((demerit_Glues.f k t247 (-1) 3).bind fun t250 => (some ((t250.length : Int) == 3)))) else (none))))))) else (none)))) else (none)) else (none))) else (none)) else (none)) else (none)) else (none)) else (none)))))))))
theorem variorumlaw10_fixed.mono : ∀ k, LeO (variorumlaw10_fixed.f k ) (variorumlaw10_fixed.f (k + 1) ) := by
 intro  k
 unfold variorumlaw10_fixed.f
 repeat' first
   | (with_reducible exact demerit_Cost.mono _ _ _ _ _ _)
   | (with_reducible exact demerit_Glues.mono _ _ _ _)
   | (with_reducible exact demerit_Legal.mono _ _ _)
   | (with_reducible exact demerit_Start.mono _ _ _)
   | (with_reducible exact demerit_Total.mono _ _ _ _ _)
   | (with_reducible exact LeO.refl _)
   | (with_reducible exact LeO.none _)
   | (with_reducible refine LeO.ite ?_ ?_)
   | (with_reducible refine LeO.bind ?_ (fun _ => ?_))
   | exact demerit_Cost.mono _ _ _ _ _ _
   | exact demerit_Glues.mono _ _ _ _
   | exact demerit_Legal.mono _ _ _
   | exact demerit_Start.mono _ _ _
   | exact demerit_Total.mono _ _ _ _ _
   | exact LeO.none _
   | refine LeO.ite ?_ ?_
   | refine LeO.bind ?_ (fun _ => ?_)
set_option maxHeartbeats 8000000 in
set_option maxRecDepth 100000 in
theorem variorumlaw10_fixed.calls (k : Nat)  (r : Bool) (w : World) (h : variorumlaw10_fixed.f k  = some r) :
  Calls Try.prog 6 #[] w fun e w' => e = .returned (.bool r) ∧ Below w.heap.size w w' := by
 have HB := Aside0.mk (Below.refl w.heap.size w)
 have H : ((variorumlaw10_one.f).bind fun t209 => ((demerit_Cost.f k t209 (-1) 3 10 200).bind fun bt212 => ((variorumlaw10_one.f).bind fun t215 => ((demerit_Cost.f k t215 (-1) 3 70000 200).bind fun bt218 => ((variorumlaw10_one.f).bind fun t221 => ((demerit_Cost.f k t221 (-1) 3 9 10000).bind fun bt224 => ((variorumlaw10_one.f).bind fun t227 => ((demerit_Total.f k t227 (([3] : List Int)) 10 0).bind fun bt233 => (if bt212.1 = 100 then (if bt212.2.1 = 2 then (if bt212.2.2 = true then (if bt218.1 = 100 then (if bt218.2.2 = true then (if bt224.2.2 = true then (none) else (if bt233.1 = 100 then (if bt233.2 = true then ((variorumlaw10_one.f).bind fun t235 => ((demerit_Legal.f k t235 3).bind fun t238 => (if t238 = true then ((variorumlaw10_one.f).bind fun t239 => ((demerit_Legal.f k t239 1).bind fun t242 => (if t242 = true then (none) else ((variorumlaw10_one.f).bind fun t243 => ((demerit_Start.f k t243 (-1)).bind fun t246 => (if t246 = 0 then ((variorumlaw10_one.f).bind fun t247 => ((demerit_Glues.f k t247 (-1) 3).bind fun t250 => (some ((t250.length : Int) == 3)))) else (none))))))) else (none)))) else (none)) else (none))) else (none)) else (none)) else (none)) else (none)) else (none)))))))))) = some r := h
 clear h
 replace H := Option.bind_eq_some_iff.mp H
 obtain ⟨t209, A10, H⟩ := H
 replace H : ((demerit_Cost.f k t209 (-1) 3 10 200).bind fun bt212 => ((variorumlaw10_one.f).bind fun t215 => ((demerit_Cost.f k t215 (-1) 3 70000 200).bind fun bt218 => ((variorumlaw10_one.f).bind fun t221 => ((demerit_Cost.f k t221 (-1) 3 9 10000).bind fun bt224 => ((variorumlaw10_one.f).bind fun t227 => ((demerit_Total.f k t227 (([3] : List Int)) 10 0).bind fun bt233 => (if bt212.1 = 100 then (if bt212.2.1 = 2 then (if bt212.2.2 = true then (if bt218.1 = 100 then (if bt218.2.2 = true then (if bt224.2.2 = true then (none) else (if bt233.1 = 100 then (if bt233.2 = true then ((variorumlaw10_one.f).bind fun t235 => ((demerit_Legal.f k t235 3).bind fun t238 => (if t238 = true then ((variorumlaw10_one.f).bind fun t239 => ((demerit_Legal.f k t239 1).bind fun t242 => (if t242 = true then (none) else ((variorumlaw10_one.f).bind fun t243 => ((demerit_Start.f k t243 (-1)).bind fun t246 => (if t246 = 0 then ((variorumlaw10_one.f).bind fun t247 => ((demerit_Glues.f k t247 (-1) 3).bind fun t250 => (some ((t250.length : Int) == 3)))) else (none))))))) else (none)))) else (none)) else (none))) else (none)) else (none)) else (none)) else (none)) else (none))))))))) = some r := H
 have A1 := Aside0.mk A10
 clear A10
 replace H := Option.bind_eq_some_iff.mp H
 obtain ⟨⟨t212, t213, t214⟩, A20, H⟩ := H
 replace H : ((variorumlaw10_one.f).bind fun t215 => ((demerit_Cost.f k t215 (-1) 3 70000 200).bind fun bt218 => ((variorumlaw10_one.f).bind fun t221 => ((demerit_Cost.f k t221 (-1) 3 9 10000).bind fun bt224 => ((variorumlaw10_one.f).bind fun t227 => ((demerit_Total.f k t227 (([3] : List Int)) 10 0).bind fun bt233 => (if t212 = 100 then (if t213 = 2 then (if t214 = true then (if bt218.1 = 100 then (if bt218.2.2 = true then (if bt224.2.2 = true then (none) else (if bt233.1 = 100 then (if bt233.2 = true then ((variorumlaw10_one.f).bind fun t235 => ((demerit_Legal.f k t235 3).bind fun t238 => (if t238 = true then ((variorumlaw10_one.f).bind fun t239 => ((demerit_Legal.f k t239 1).bind fun t242 => (if t242 = true then (none) else ((variorumlaw10_one.f).bind fun t243 => ((demerit_Start.f k t243 (-1)).bind fun t246 => (if t246 = 0 then ((variorumlaw10_one.f).bind fun t247 => ((demerit_Glues.f k t247 (-1) 3).bind fun t250 => (some ((t250.length : Int) == 3)))) else (none))))))) else (none)))) else (none)) else (none))) else (none)) else (none)) else (none)) else (none)) else (none)))))))) = some r := H
 have A2 := Aside0.mk A20
 clear A20
 replace H := Option.bind_eq_some_iff.mp H
 obtain ⟨t215, A30, H⟩ := H
 replace H : ((demerit_Cost.f k t215 (-1) 3 70000 200).bind fun bt218 => ((variorumlaw10_one.f).bind fun t221 => ((demerit_Cost.f k t221 (-1) 3 9 10000).bind fun bt224 => ((variorumlaw10_one.f).bind fun t227 => ((demerit_Total.f k t227 (([3] : List Int)) 10 0).bind fun bt233 => (if t212 = 100 then (if t213 = 2 then (if t214 = true then (if bt218.1 = 100 then (if bt218.2.2 = true then (if bt224.2.2 = true then (none) else (if bt233.1 = 100 then (if bt233.2 = true then ((variorumlaw10_one.f).bind fun t235 => ((demerit_Legal.f k t235 3).bind fun t238 => (if t238 = true then ((variorumlaw10_one.f).bind fun t239 => ((demerit_Legal.f k t239 1).bind fun t242 => (if t242 = true then (none) else ((variorumlaw10_one.f).bind fun t243 => ((demerit_Start.f k t243 (-1)).bind fun t246 => (if t246 = 0 then ((variorumlaw10_one.f).bind fun t247 => ((demerit_Glues.f k t247 (-1) 3).bind fun t250 => (some ((t250.length : Int) == 3)))) else (none))))))) else (none)))) else (none)) else (none))) else (none)) else (none)) else (none)) else (none)) else (none))))))) = some r := H
 have A3 := Aside0.mk A30
 clear A30
 replace H := Option.bind_eq_some_iff.mp H
 obtain ⟨⟨t218, t219, t220⟩, A40, H⟩ := H
 replace H : ((variorumlaw10_one.f).bind fun t221 => ((demerit_Cost.f k t221 (-1) 3 9 10000).bind fun bt224 => ((variorumlaw10_one.f).bind fun t227 => ((demerit_Total.f k t227 (([3] : List Int)) 10 0).bind fun bt233 => (if t212 = 100 then (if t213 = 2 then (if t214 = true then (if t218 = 100 then (if t220 = true then (if bt224.2.2 = true then (none) else (if bt233.1 = 100 then (if bt233.2 = true then ((variorumlaw10_one.f).bind fun t235 => ((demerit_Legal.f k t235 3).bind fun t238 => (if t238 = true then ((variorumlaw10_one.f).bind fun t239 => ((demerit_Legal.f k t239 1).bind fun t242 => (if t242 = true then (none) else ((variorumlaw10_one.f).bind fun t243 => ((demerit_Start.f k t243 (-1)).bind fun t246 => (if t246 = 0 then ((variorumlaw10_one.f).bind fun t247 => ((demerit_Glues.f k t247 (-1) 3).bind fun t250 => (some ((t250.length : Int) == 3)))) else (none))))))) else (none)))) else (none)) else (none))) else (none)) else (none)) else (none)) else (none)) else (none)))))) = some r := H
 have A4 := Aside0.mk A40
 clear A40
 replace H := Option.bind_eq_some_iff.mp H
 obtain ⟨t221, A50, H⟩ := H
 replace H : ((demerit_Cost.f k t221 (-1) 3 9 10000).bind fun bt224 => ((variorumlaw10_one.f).bind fun t227 => ((demerit_Total.f k t227 (([3] : List Int)) 10 0).bind fun bt233 => (if t212 = 100 then (if t213 = 2 then (if t214 = true then (if t218 = 100 then (if t220 = true then (if bt224.2.2 = true then (none) else (if bt233.1 = 100 then (if bt233.2 = true then ((variorumlaw10_one.f).bind fun t235 => ((demerit_Legal.f k t235 3).bind fun t238 => (if t238 = true then ((variorumlaw10_one.f).bind fun t239 => ((demerit_Legal.f k t239 1).bind fun t242 => (if t242 = true then (none) else ((variorumlaw10_one.f).bind fun t243 => ((demerit_Start.f k t243 (-1)).bind fun t246 => (if t246 = 0 then ((variorumlaw10_one.f).bind fun t247 => ((demerit_Glues.f k t247 (-1) 3).bind fun t250 => (some ((t250.length : Int) == 3)))) else (none))))))) else (none)))) else (none)) else (none))) else (none)) else (none)) else (none)) else (none)) else (none))))) = some r := H
 have A5 := Aside0.mk A50
 clear A50
 replace H := Option.bind_eq_some_iff.mp H
 obtain ⟨⟨t224, t225, t226⟩, A60, H⟩ := H
 replace H : ((variorumlaw10_one.f).bind fun t227 => ((demerit_Total.f k t227 (([3] : List Int)) 10 0).bind fun bt233 => (if t212 = 100 then (if t213 = 2 then (if t214 = true then (if t218 = 100 then (if t220 = true then (if t226 = true then (none) else (if bt233.1 = 100 then (if bt233.2 = true then ((variorumlaw10_one.f).bind fun t235 => ((demerit_Legal.f k t235 3).bind fun t238 => (if t238 = true then ((variorumlaw10_one.f).bind fun t239 => ((demerit_Legal.f k t239 1).bind fun t242 => (if t242 = true then (none) else ((variorumlaw10_one.f).bind fun t243 => ((demerit_Start.f k t243 (-1)).bind fun t246 => (if t246 = 0 then ((variorumlaw10_one.f).bind fun t247 => ((demerit_Glues.f k t247 (-1) 3).bind fun t250 => (some ((t250.length : Int) == 3)))) else (none))))))) else (none)))) else (none)) else (none))) else (none)) else (none)) else (none)) else (none)) else (none)))) = some r := H
 have A6 := Aside0.mk A60
 clear A60
 replace H := Option.bind_eq_some_iff.mp H
 obtain ⟨t227, A70, H⟩ := H
 replace H : ((demerit_Total.f k t227 (([3] : List Int)) 10 0).bind fun bt233 => (if t212 = 100 then (if t213 = 2 then (if t214 = true then (if t218 = 100 then (if t220 = true then (if t226 = true then (none) else (if bt233.1 = 100 then (if bt233.2 = true then ((variorumlaw10_one.f).bind fun t235 => ((demerit_Legal.f k t235 3).bind fun t238 => (if t238 = true then ((variorumlaw10_one.f).bind fun t239 => ((demerit_Legal.f k t239 1).bind fun t242 => (if t242 = true then (none) else ((variorumlaw10_one.f).bind fun t243 => ((demerit_Start.f k t243 (-1)).bind fun t246 => (if t246 = 0 then ((variorumlaw10_one.f).bind fun t247 => ((demerit_Glues.f k t247 (-1) 3).bind fun t250 => (some ((t250.length : Int) == 3)))) else (none))))))) else (none)))) else (none)) else (none))) else (none)) else (none)) else (none)) else (none)) else (none))) = some r := H
 have A7 := Aside0.mk A70
 clear A70
 obtain ⟨y230, hy230⟩ : ∃ y_ : List Int, y_ = (([3] : List Int)) := ⟨_, rfl⟩
 replace H : ((demerit_Total.f k t227 y230 10 0).bind fun bt233 => (if t212 = 100 then (if t213 = 2 then (if t214 = true then (if t218 = 100 then (if t220 = true then (if t226 = true then (none) else (if bt233.1 = 100 then (if bt233.2 = true then ((variorumlaw10_one.f).bind fun t235 => ((demerit_Legal.f k t235 3).bind fun t238 => (if t238 = true then ((variorumlaw10_one.f).bind fun t239 => ((demerit_Legal.f k t239 1).bind fun t242 => (if t242 = true then (none) else ((variorumlaw10_one.f).bind fun t243 => ((demerit_Start.f k t243 (-1)).bind fun t246 => (if t246 = 0 then ((variorumlaw10_one.f).bind fun t247 => ((demerit_Glues.f k t247 (-1) 3).bind fun t250 => (some ((t250.length : Int) == 3)))) else (none))))))) else (none)))) else (none)) else (none))) else (none)) else (none)) else (none)) else (none)) else (none))) = some r := by first | (rw [hy230]; with_reducible exact H) | (have H2_ := (Option.bind_some _ _).symm.trans H; rw [hy230]; with_reducible exact H2_) | (have H2_ := (Option.bind_some _ _).symm.trans H; with_reducible exact H2_) | with_reducible exact H | (rw [hy230]; exact H) | exact H
 have Ny230 := Aside0.mk hy230
 clear hy230
 replace H := Option.bind_eq_some_iff.mp H
 obtain ⟨⟨t233, t234⟩, A80, H⟩ := H
 replace H : (if t212 = 100 then (if t213 = 2 then (if t214 = true then (if t218 = 100 then (if t220 = true then (if t226 = true then (none) else (if t233 = 100 then (if t234 = true then ((variorumlaw10_one.f).bind fun t235 => ((demerit_Legal.f k t235 3).bind fun t238 => (if t238 = true then ((variorumlaw10_one.f).bind fun t239 => ((demerit_Legal.f k t239 1).bind fun t242 => (if t242 = true then (none) else ((variorumlaw10_one.f).bind fun t243 => ((demerit_Start.f k t243 (-1)).bind fun t246 => (if t246 = 0 then ((variorumlaw10_one.f).bind fun t247 => ((demerit_Glues.f k t247 (-1) 3).bind fun t250 => (some ((t250.length : Int) == 3)))) else (none))))))) else (none)))) else (none)) else (none))) else (none)) else (none)) else (none)) else (none)) else (none)) = some r := H
 have A8 := Aside0.mk A80
 clear A80
 by_cases c9 : t212 = 100
 ·rw [if_pos c9] at H
  have c9b0 : (t212 == 100) = true := beq_iff_eq.mpr c9
  have c9b1 : (t212 != 100) = false := bne_eq_false_iff_eq.mpr c9
  clear c9
  by_cases c10 : t213 = 2
  ·rw [if_pos c10] at H
   have c10b0 : (t213 == 2) = true := beq_iff_eq.mpr c10
   have c10b1 : (t213 != 2) = false := bne_eq_false_iff_eq.mpr c10
   clear c10
   by_cases c11 : t214 = true
   ·subst c11
    have H1 : (if t218 = 100 then (if t220 = true then (if t226 = true then (none) else (if t233 = 100 then (if t234 = true then ((variorumlaw10_one.f).bind fun t235 => ((demerit_Legal.f k t235 3).bind fun t238 => (if t238 = true then ((variorumlaw10_one.f).bind fun t239 => ((demerit_Legal.f k t239 1).bind fun t242 => (if t242 = true then (none) else ((variorumlaw10_one.f).bind fun t243 => ((demerit_Start.f k t243 (-1)).bind fun t246 => (if t246 = 0 then ((variorumlaw10_one.f).bind fun t247 => ((demerit_Glues.f k t247 (-1) 3).bind fun t250 => (some ((t250.length : Int) == 3)))) else (none))))))) else (none)))) else (none)) else (none))) else (none)) else (none)) = some r := by rw [if_pos rfl] at H; exact H
    clear H
    have H := H1
    clear H1
    by_cases c12 : t218 = 100
    ·rw [if_pos c12] at H
     have c12b0 : (t218 == 100) = true := beq_iff_eq.mpr c12
     have c12b1 : (t218 != 100) = false := bne_eq_false_iff_eq.mpr c12
     clear c12
     by_cases c13 : t220 = true
     ·subst c13
      have H1 : (if t226 = true then (none) else (if t233 = 100 then (if t234 = true then ((variorumlaw10_one.f).bind fun t235 => ((demerit_Legal.f k t235 3).bind fun t238 => (if t238 = true then ((variorumlaw10_one.f).bind fun t239 => ((demerit_Legal.f k t239 1).bind fun t242 => (if t242 = true then (none) else ((variorumlaw10_one.f).bind fun t243 => ((demerit_Start.f k t243 (-1)).bind fun t246 => (if t246 = 0 then ((variorumlaw10_one.f).bind fun t247 => ((demerit_Glues.f k t247 (-1) 3).bind fun t250 => (some ((t250.length : Int) == 3)))) else (none))))))) else (none)))) else (none)) else (none))) = some r := by rw [if_pos rfl] at H; exact H
      clear H
      have H := H1
      clear H1
      by_cases c14 : t226 = true
      ·subst c14
       have H1 : (none) = some r := by rw [if_pos rfl] at H; exact H
       clear H
       have H := H1
       clear H1
       exact absurd H (by simp)
      ·replace c14 := Bool.eq_false_iff.mpr c14
       subst c14
       have H1 : (if t233 = 100 then (if t234 = true then ((variorumlaw10_one.f).bind fun t235 => ((demerit_Legal.f k t235 3).bind fun t238 => (if t238 = true then ((variorumlaw10_one.f).bind fun t239 => ((demerit_Legal.f k t239 1).bind fun t242 => (if t242 = true then (none) else ((variorumlaw10_one.f).bind fun t243 => ((demerit_Start.f k t243 (-1)).bind fun t246 => (if t246 = 0 then ((variorumlaw10_one.f).bind fun t247 => ((demerit_Glues.f k t247 (-1) 3).bind fun t250 => (some ((t250.length : Int) == 3)))) else (none))))))) else (none)))) else (none)) else (none)) = some r := by rw [if_neg (show ¬ (false = true) by decide)] at H; exact H
       clear H
       have H := H1
       clear H1
       by_cases c15 : t233 = 100
       ·rw [if_pos c15] at H
        have c15b0 : (t233 == 100) = true := beq_iff_eq.mpr c15
        have c15b1 : (t233 != 100) = false := bne_eq_false_iff_eq.mpr c15
        clear c15
        by_cases c16 : t234 = true
        ·subst c16
         have H1 : ((variorumlaw10_one.f).bind fun t235 => ((demerit_Legal.f k t235 3).bind fun t238 => (if t238 = true then ((variorumlaw10_one.f).bind fun t239 => ((demerit_Legal.f k t239 1).bind fun t242 => (if t242 = true then (none) else ((variorumlaw10_one.f).bind fun t243 => ((demerit_Start.f k t243 (-1)).bind fun t246 => (if t246 = 0 then ((variorumlaw10_one.f).bind fun t247 => ((demerit_Glues.f k t247 (-1) 3).bind fun t250 => (some ((t250.length : Int) == 3)))) else (none))))))) else (none)))) = some r := by rw [if_pos rfl] at H; exact H
         clear H
         have H := H1
         clear H1
         replace H := Option.bind_eq_some_iff.mp H
         obtain ⟨t235, A170, H⟩ := H
         replace H : ((demerit_Legal.f k t235 3).bind fun t238 => (if t238 = true then ((variorumlaw10_one.f).bind fun t239 => ((demerit_Legal.f k t239 1).bind fun t242 => (if t242 = true then (none) else ((variorumlaw10_one.f).bind fun t243 => ((demerit_Start.f k t243 (-1)).bind fun t246 => (if t246 = 0 then ((variorumlaw10_one.f).bind fun t247 => ((demerit_Glues.f k t247 (-1) 3).bind fun t250 => (some ((t250.length : Int) == 3)))) else (none))))))) else (none))) = some r := H
         have A17 := Aside0.mk A170
         clear A170
         replace H := Option.bind_eq_some_iff.mp H
         obtain ⟨t238, A180, H⟩ := H
         replace H : (if t238 = true then ((variorumlaw10_one.f).bind fun t239 => ((demerit_Legal.f k t239 1).bind fun t242 => (if t242 = true then (none) else ((variorumlaw10_one.f).bind fun t243 => ((demerit_Start.f k t243 (-1)).bind fun t246 => (if t246 = 0 then ((variorumlaw10_one.f).bind fun t247 => ((demerit_Glues.f k t247 (-1) 3).bind fun t250 => (some ((t250.length : Int) == 3)))) else (none))))))) else (none)) = some r := H
         have A18 := Aside0.mk A180
         clear A180
         by_cases c19 : t238 = true
         ·subst c19
          have H1 : ((variorumlaw10_one.f).bind fun t239 => ((demerit_Legal.f k t239 1).bind fun t242 => (if t242 = true then (none) else ((variorumlaw10_one.f).bind fun t243 => ((demerit_Start.f k t243 (-1)).bind fun t246 => (if t246 = 0 then ((variorumlaw10_one.f).bind fun t247 => ((demerit_Glues.f k t247 (-1) 3).bind fun t250 => (some ((t250.length : Int) == 3)))) else (none))))))) = some r := by rw [if_pos rfl] at H; exact H
          clear H
          have H := H1
          clear H1
          replace H := Option.bind_eq_some_iff.mp H
          obtain ⟨t239, A200, H⟩ := H
          replace H : ((demerit_Legal.f k t239 1).bind fun t242 => (if t242 = true then (none) else ((variorumlaw10_one.f).bind fun t243 => ((demerit_Start.f k t243 (-1)).bind fun t246 => (if t246 = 0 then ((variorumlaw10_one.f).bind fun t247 => ((demerit_Glues.f k t247 (-1) 3).bind fun t250 => (some ((t250.length : Int) == 3)))) else (none)))))) = some r := H
          have A20 := Aside0.mk A200
          clear A200
          replace H := Option.bind_eq_some_iff.mp H
          obtain ⟨t242, A210, H⟩ := H
          replace H : (if t242 = true then (none) else ((variorumlaw10_one.f).bind fun t243 => ((demerit_Start.f k t243 (-1)).bind fun t246 => (if t246 = 0 then ((variorumlaw10_one.f).bind fun t247 => ((demerit_Glues.f k t247 (-1) 3).bind fun t250 => (some ((t250.length : Int) == 3)))) else (none))))) = some r := H
          have A21 := Aside0.mk A210
          clear A210
          by_cases c22 : t242 = true
          ·subst c22
           have H1 : (none) = some r := by rw [if_pos rfl] at H; exact H
           clear H
           have H := H1
           clear H1
           exact absurd H (by simp)
          ·replace c22 := Bool.eq_false_iff.mpr c22
           subst c22
           have H1 : ((variorumlaw10_one.f).bind fun t243 => ((demerit_Start.f k t243 (-1)).bind fun t246 => (if t246 = 0 then ((variorumlaw10_one.f).bind fun t247 => ((demerit_Glues.f k t247 (-1) 3).bind fun t250 => (some ((t250.length : Int) == 3)))) else (none)))) = some r := by rw [if_neg (show ¬ (false = true) by decide)] at H; exact H
           clear H
           have H := H1
           clear H1
           replace H := Option.bind_eq_some_iff.mp H
           obtain ⟨t243, A230, H⟩ := H
           replace H : ((demerit_Start.f k t243 (-1)).bind fun t246 => (if t246 = 0 then ((variorumlaw10_one.f).bind fun t247 => ((demerit_Glues.f k t247 (-1) 3).bind fun t250 => (some ((t250.length : Int) == 3)))) else (none))) = some r := H
           have A23 := Aside0.mk A230
           clear A230
           replace H := Option.bind_eq_some_iff.mp H
           obtain ⟨t246, A240, H⟩ := H
           replace H : (if t246 = 0 then ((variorumlaw10_one.f).bind fun t247 => ((demerit_Glues.f k t247 (-1) 3).bind fun t250 => (some ((t250.length : Int) == 3)))) else (none)) = some r := H
           have A24 := Aside0.mk A240
           clear A240
           by_cases c25 : t246 = 0
           ·rw [if_pos c25] at H
            have c25b0 : (t246 == 0) = true := beq_iff_eq.mpr c25
            have c25b1 : (t246 != 0) = false := bne_eq_false_iff_eq.mpr c25
            clear c25
            replace H := Option.bind_eq_some_iff.mp H
            obtain ⟨t247, A260, H⟩ := H
            replace H : ((demerit_Glues.f k t247 (-1) 3).bind fun t250 => (some ((t250.length : Int) == 3))) = some r := H
            have A26 := Aside0.mk A260
            clear A260
            replace H := Option.bind_eq_some_iff.mp H
            obtain ⟨t250, A270, H⟩ := H
            replace H : (some ((t250.length : Int) == 3)) = some r := H
            have A27 := Aside0.mk A270
            clear A270
            obtain rfl := Option.some.inj H
            go_enter Try.func6, Try.ntmps6
            go_wp2_with (first | ((with_reducible refine gate_callee (f := 10) rfl ?_); refine goesL_ (some 13) rfl rfl Try.func10 (by kernel_rfl) rfl #[] rfl (by (try simp only [List.map_toArray, List.map_cons, List.map_nil]); first | done | rfl | (simp only [List.length_drop, List.length_take]; rfl) | (simp only [*]; first | done | rfl)) ?_; (with_reducible refine (variorumlaw10_one.calls  t209 _ A1.out).mono ?_); rintro e w28 ⟨v210, rfl, ho0, hb⟩; refine ⟨_, rfl, ?_⟩; have n0_ := Aside0.mk (Kd.R_lower ho0 (below_size (by repeat (first | (with_reducible first | exact HB.out | apply below_alloc | apply pw_below_drewN | apply below_drew1) | exact HB.out)))); have n1_ := Aside0.mk (below_step (by repeat (first | (with_reducible first | exact HB.out | apply below_alloc | apply pw_below_drewN | apply below_drew1) | exact HB.out)) hb); clear HB; have HO211 := n0_; have HB := n1_; clear n0_ n1_; (try clear hb); (try clear hb2); (try clear hk); (try clear hi); (try clear ho0); obtain ⟨Ao29, co29, eo29⟩ := Kd.R_slice HO211.out; subst eo29) | ((with_reducible refine gate_callee (f := 9) rfl ?_); refine goesL_ (some 14) rfl rfl Try.func9 (by kernel_rfl) rfl #[.slice Ao29 t209.length co29, .int .i64 (-1), .int .i64 3, .int .i64 10, .int .i64 200] rfl (by (try simp only [List.map_toArray, List.map_cons, List.map_nil]); first | done | rfl | (simp only [List.length_drop, List.length_take]; rfl) | (simp only [*]; first | done | rfl)) ?_; (with_reducible refine (demerit_Cost.calls k _ _ t209 (-1) 3 10 200 t212 t213 true _ ?side1 ?side2 A2.out).mono ?_); (case side1 => repeat (first | exact (Kd.R_reads' HO211.out).2.2 | (with_reducible refine Kd.C_alloc ?_ _) | (with_reducible refine Kd.C_drewN ?_ _) | (with_reducible refine Kd.C_drew ?_))); (case side2 => exact (Kd.R_reads' HO211.out).2.1); rintro e w30 ⟨rfl, hb⟩; refine ⟨_, rfl, ?_⟩; have n0_ := Aside0.mk (Kd.R_below (by (with_reducible repeat (first | apply Kd.R_alloc | apply Kd.R_drewN | apply Kd.R_drew)); exact HO211.out) hb); have n1_ := Aside0.mk (below_step (by repeat (first | (with_reducible first | exact HB.out | apply below_alloc | apply pw_below_drewN | apply below_drew1) | exact HB.out)) hb); clear HO211; clear HB; have HO211 := n0_; have HB := n1_; clear n0_ n1_; (try clear hb); (try clear hb2); (try clear hk); (try clear hi)) | ((with_reducible refine gate_callee (f := 10) rfl ?_); refine goesL_ (some 19) rfl rfl Try.func10 (by kernel_rfl) rfl #[] rfl (by (try simp only [List.map_toArray, List.map_cons, List.map_nil]); first | done | rfl | (simp only [List.length_drop, List.length_take]; rfl) | (simp only [*]; first | done | rfl)) ?_; (with_reducible refine (variorumlaw10_one.calls  t215 _ A3.out).mono ?_); rintro e w31 ⟨v216, rfl, ho0, hb⟩; refine ⟨_, rfl, ?_⟩; have n0_ := Aside0.mk (Kd.R_elder' (by (with_reducible repeat (first | apply Kd.R_alloc | apply Kd.R_drewN | apply Kd.R_drew)); exact HO211.out) (Kd.R_base ho0) hb); have n1_ := Aside0.mk (Kd.R_lower (Kd.R_new' ho0 (Kd.R_lt (by (with_reducible repeat (first | apply Kd.R_alloc | apply Kd.R_drewN | apply Kd.R_drew)); exact HO211.out))) (below_size (by repeat (first | (with_reducible first | exact HB.out | apply below_alloc | apply pw_below_drewN | apply below_drew1) | exact HB.out)))); have n2_ := Aside0.mk (below_step (by repeat (first | (with_reducible first | exact HB.out | apply below_alloc | apply pw_below_drewN | apply below_drew1) | exact HB.out)) hb); clear HO211; clear HB; have HO211 := n0_; have HO217 := n1_; have HB := n2_; clear n0_ n1_ n2_; (try clear hb); (try clear hb2); (try clear hk); (try clear hi); (try clear ho0); obtain ⟨Ao32, co32, eo32⟩ := Kd.R_slice HO217.out; subst eo32) | ((with_reducible refine gate_callee (f := 9) rfl ?_); refine goesL_ (some 20) rfl rfl Try.func9 (by kernel_rfl) rfl #[.slice Ao32 t215.length co32, .int .i64 (-1), .int .i64 3, .int .i64 70000, .int .i64 200] rfl (by (try simp only [List.map_toArray, List.map_cons, List.map_nil]); first | done | rfl | (simp only [List.length_drop, List.length_take]; rfl) | (simp only [*]; first | done | rfl)) ?_; (with_reducible refine (demerit_Cost.calls k _ _ t215 (-1) 3 70000 200 t218 t219 true _ ?side1 ?side2 A4.out).mono ?_); (case side1 => repeat (first | exact (Kd.R_reads' HO217.out).2.2 | (with_reducible refine Kd.C_alloc ?_ _) | (with_reducible refine Kd.C_drewN ?_ _) | (with_reducible refine Kd.C_drew ?_))); (case side2 => exact (Kd.R_reads' HO217.out).2.1); rintro e w33 ⟨rfl, hb⟩; refine ⟨_, rfl, ?_⟩; have n0_ := Aside0.mk (Kd.R_below (by (with_reducible repeat (first | apply Kd.R_alloc | apply Kd.R_drewN | apply Kd.R_drew)); exact HO211.out) hb); have n1_ := Aside0.mk (Kd.R_below (by (with_reducible repeat (first | apply Kd.R_alloc | apply Kd.R_drewN | apply Kd.R_drew)); exact HO217.out) hb); have n2_ := Aside0.mk (below_step (by repeat (first | (with_reducible first | exact HB.out | apply below_alloc | apply pw_below_drewN | apply below_drew1) | exact HB.out)) hb); clear HO211; clear HO217; clear HB; have HO211 := n0_; have HO217 := n1_; have HB := n2_; clear n0_ n1_ n2_; (try clear hb); (try clear hb2); (try clear hk); (try clear hi)) | ((with_reducible refine gate_callee (f := 10) rfl ?_); refine goesL_ (some 25) rfl rfl Try.func10 (by kernel_rfl) rfl #[] rfl (by (try simp only [List.map_toArray, List.map_cons, List.map_nil]); first | done | rfl | (simp only [List.length_drop, List.length_take]; rfl) | (simp only [*]; first | done | rfl)) ?_; (with_reducible refine (variorumlaw10_one.calls  t221 _ A5.out).mono ?_); rintro e w34 ⟨v222, rfl, ho0, hb⟩; refine ⟨_, rfl, ?_⟩; have n0_ := Aside0.mk (Kd.R_elder' (by (with_reducible repeat (first | apply Kd.R_alloc | apply Kd.R_drewN | apply Kd.R_drew)); exact HO211.out) (Kd.R_base ho0) hb); have n1_ := Aside0.mk (Kd.R_elder' (by (with_reducible repeat (first | apply Kd.R_alloc | apply Kd.R_drewN | apply Kd.R_drew)); exact HO217.out) (Kd.R_base ho0) hb); have n2_ := Aside0.mk (Kd.R_lower (Kd.R_new' (Kd.R_new' ho0 (Kd.R_lt (by (with_reducible repeat (first | apply Kd.R_alloc | apply Kd.R_drewN | apply Kd.R_drew)); exact HO211.out))) (Kd.R_lt (by (with_reducible repeat (first | apply Kd.R_alloc | apply Kd.R_drewN | apply Kd.R_drew)); exact HO217.out))) (below_size (by repeat (first | (with_reducible first | exact HB.out | apply below_alloc | apply pw_below_drewN | apply below_drew1) | exact HB.out)))); have n3_ := Aside0.mk (below_step (by repeat (first | (with_reducible first | exact HB.out | apply below_alloc | apply pw_below_drewN | apply below_drew1) | exact HB.out)) hb); clear HO211; clear HO217; clear HB; have HO211 := n0_; have HO217 := n1_; have HO223 := n2_; have HB := n3_; clear n0_ n1_ n2_ n3_; (try clear hb); (try clear hb2); (try clear hk); (try clear hi); (try clear ho0); obtain ⟨Ao35, co35, eo35⟩ := Kd.R_slice HO223.out; subst eo35) | ((with_reducible refine gate_callee (f := 9) rfl ?_); refine goesL_ (some 26) rfl rfl Try.func9 (by kernel_rfl) rfl #[.slice Ao35 t221.length co35, .int .i64 (-1), .int .i64 3, .int .i64 9, .int .i64 10000] rfl (by (try simp only [List.map_toArray, List.map_cons, List.map_nil]); first | done | rfl | (simp only [List.length_drop, List.length_take]; rfl) | (simp only [*]; first | done | rfl)) ?_; (with_reducible refine (demerit_Cost.calls k _ _ t221 (-1) 3 9 10000 t224 t225 false _ ?side1 ?side2 A6.out).mono ?_); (case side1 => repeat (first | exact (Kd.R_reads' HO223.out).2.2 | (with_reducible refine Kd.C_alloc ?_ _) | (with_reducible refine Kd.C_drewN ?_ _) | (with_reducible refine Kd.C_drew ?_))); (case side2 => exact (Kd.R_reads' HO223.out).2.1); rintro e w36 ⟨rfl, hb⟩; refine ⟨_, rfl, ?_⟩; have n0_ := Aside0.mk (Kd.R_below (by (with_reducible repeat (first | apply Kd.R_alloc | apply Kd.R_drewN | apply Kd.R_drew)); exact HO211.out) hb); have n1_ := Aside0.mk (Kd.R_below (by (with_reducible repeat (first | apply Kd.R_alloc | apply Kd.R_drewN | apply Kd.R_drew)); exact HO217.out) hb); have n2_ := Aside0.mk (Kd.R_below (by (with_reducible repeat (first | apply Kd.R_alloc | apply Kd.R_drewN | apply Kd.R_drew)); exact HO223.out) hb); have n3_ := Aside0.mk (below_step (by repeat (first | (with_reducible first | exact HB.out | apply below_alloc | apply pw_below_drewN | apply below_drew1) | exact HB.out)) hb); clear HO211; clear HO217; clear HO223; clear HB; have HO211 := n0_; have HO217 := n1_; have HO223 := n2_; have HB := n3_; clear n0_ n1_ n2_ n3_; (try clear hb); (try clear hb2); (try clear hk); (try clear hi)) | ((with_reducible refine gate_callee (f := 10) rfl ?_); refine goesL_ (some 31) rfl rfl Try.func10 (by kernel_rfl) rfl #[] rfl (by (try simp only [List.map_toArray, List.map_cons, List.map_nil]); first | done | rfl | (simp only [List.length_drop, List.length_take]; rfl) | (simp only [*]; first | done | rfl)) ?_; (with_reducible refine (variorumlaw10_one.calls  t227 _ A7.out).mono ?_); rintro e w37 ⟨v228, rfl, ho0, hb⟩; refine ⟨_, rfl, ?_⟩; have n0_ := Aside0.mk (Kd.R_elder' (by (with_reducible repeat (first | apply Kd.R_alloc | apply Kd.R_drewN | apply Kd.R_drew)); exact HO211.out) (Kd.R_base ho0) hb); have n1_ := Aside0.mk (Kd.R_elder' (by (with_reducible repeat (first | apply Kd.R_alloc | apply Kd.R_drewN | apply Kd.R_drew)); exact HO217.out) (Kd.R_base ho0) hb); have n2_ := Aside0.mk (Kd.R_elder' (by (with_reducible repeat (first | apply Kd.R_alloc | apply Kd.R_drewN | apply Kd.R_drew)); exact HO223.out) (Kd.R_base ho0) hb); have n3_ := Aside0.mk (Kd.R_lower (Kd.R_new' (Kd.R_new' (Kd.R_new' ho0 (Kd.R_lt (by (with_reducible repeat (first | apply Kd.R_alloc | apply Kd.R_drewN | apply Kd.R_drew)); exact HO211.out))) (Kd.R_lt (by (with_reducible repeat (first | apply Kd.R_alloc | apply Kd.R_drewN | apply Kd.R_drew)); exact HO217.out))) (Kd.R_lt (by (with_reducible repeat (first | apply Kd.R_alloc | apply Kd.R_drewN | apply Kd.R_drew)); exact HO223.out))) (below_size (by repeat (first | (with_reducible first | exact HB.out | apply below_alloc | apply pw_below_drewN | apply below_drew1) | exact HB.out)))); have n4_ := Aside0.mk (below_step (by repeat (first | (with_reducible first | exact HB.out | apply below_alloc | apply pw_below_drewN | apply below_drew1) | exact HB.out)) hb); clear HO211; clear HO217; clear HO223; clear HB; have HO211 := n0_; have HO217 := n1_; have HO223 := n2_; have HO229 := n3_; have HB := n4_; clear n0_ n1_ n2_ n3_ n4_; (try clear hb); (try clear hb2); (try clear hk); (try clear hi); (try clear ho0)) | ((with_reducible refine gate_dst (N := 32) rfl ?_); (try (refine gate_guard (by rfl) ?_; dsimp only)); refine Kd.R_lit (Kd.int .i64) _ 3 ?hg (N := 32) ?hd (xs := ([3] : List Int)) (inner := [.int .i64 3]) (ok := fun _ => True) (okp := fun _ => True) ?hr ?hp (fun _ hk => hk) trivial (Below.refl _ _) (Nat.le_refl _) (by simp) ?_; (case hd => rfl); (case hg => rfl); (case hr => first | (go_simp; done) | (go_simp; rfl)); (case hp => exact (Reps.one (show Kd.M (Kd.int .i64) _ _ _ 3 [.int .i64 3] from rfl) (Reps.none _ _))); intro v231 w38 ho39 hb hg_ hnew_; clear hg_ hnew_; (first | rw [← Ny230.out] at ho39 | (simp only [Int.reduceToNat] at ho39; rw [← Ny230.out] at ho39)); have n0_ := Aside0.mk (Kd.R_below (by (with_reducible repeat (first | apply Kd.R_alloc | apply Kd.R_drewN | apply Kd.R_drew)); exact HO211.out) hb); have n1_ := Aside0.mk (Kd.R_below (by (with_reducible repeat (first | apply Kd.R_alloc | apply Kd.R_drewN | apply Kd.R_drew)); exact HO217.out) hb); have n2_ := Aside0.mk (Kd.R_below (by (with_reducible repeat (first | apply Kd.R_alloc | apply Kd.R_drewN | apply Kd.R_drew)); exact HO223.out) hb); have n3_ := Aside0.mk (Kd.R_below (by (with_reducible repeat (first | apply Kd.R_alloc | apply Kd.R_drewN | apply Kd.R_drew)); exact HO229.out) hb); have n4_ := Aside0.mk (Kd.R_lower ho39 (below_size (by repeat (first | (with_reducible first | exact HB.out | apply below_alloc | apply pw_below_drewN | apply below_drew1) | exact HB.out)))); have n5_ := Aside0.mk (below_step (by repeat (first | (with_reducible first | exact HB.out | apply below_alloc | apply pw_below_drewN | apply below_drew1) | exact HB.out)) hb); clear HO211; clear HO217; clear HO223; clear HO229; clear HB; have HO211 := n0_; have HO217 := n1_; have HO223 := n2_; have HO229 := n3_; have HO232 := n4_; have HB := n5_; clear n0_ n1_ n2_ n3_ n4_ n5_; clear hb ho39; obtain ⟨Ao40, co40, eo40⟩ := Kd.R_slice HO229.out; subst eo40; obtain ⟨Ao41, co41, eo41⟩ := Kd.R_slice HO232.out; subst eo41) | ((with_reducible refine gate_callee (f := 7) rfl ?_); refine goesL_ (some 33) rfl rfl Try.func7 (by kernel_rfl) rfl #[.slice Ao40 t227.length co40, .slice Ao41 y230.length co41, .int .i64 10, .int .i64 0] rfl (by (try simp only [List.map_toArray, List.map_cons, List.map_nil]); first | done | rfl | (simp only [List.length_drop, List.length_take]; rfl) | (simp only [*]; first | done | rfl)) ?_; (with_reducible refine (demerit_Total.calls k _ _ t227 _ _ y230 10 0 t233 true _ ?side1 ?side2 ?side3 ?side4 A8.out).mono ?_); (case side1 => repeat (first | exact (Kd.R_reads' HO229.out).2.2 | (with_reducible refine Kd.C_alloc ?_ _) | (with_reducible refine Kd.C_drewN ?_ _) | (with_reducible refine Kd.C_drew ?_))); (case side2 => exact (Kd.R_reads' HO229.out).2.1); (case side3 => repeat (first | exact (Kd.R_reads' HO232.out).2.2 | (with_reducible refine Kd.C_alloc ?_ _) | (with_reducible refine Kd.C_drewN ?_ _) | (with_reducible refine Kd.C_drew ?_))); (case side4 => exact (Kd.R_reads' HO232.out).2.1); rintro e w42 ⟨rfl, hb⟩; refine ⟨_, rfl, ?_⟩; have n0_ := Aside0.mk (Kd.R_below (by (with_reducible repeat (first | apply Kd.R_alloc | apply Kd.R_drewN | apply Kd.R_drew)); exact HO211.out) hb); have n1_ := Aside0.mk (Kd.R_below (by (with_reducible repeat (first | apply Kd.R_alloc | apply Kd.R_drewN | apply Kd.R_drew)); exact HO217.out) hb); have n2_ := Aside0.mk (Kd.R_below (by (with_reducible repeat (first | apply Kd.R_alloc | apply Kd.R_drewN | apply Kd.R_drew)); exact HO223.out) hb); have n3_ := Aside0.mk (Kd.R_below (by (with_reducible repeat (first | apply Kd.R_alloc | apply Kd.R_drewN | apply Kd.R_drew)); exact HO229.out) hb); have n4_ := Aside0.mk (Kd.R_below (by (with_reducible repeat (first | apply Kd.R_alloc | apply Kd.R_drewN | apply Kd.R_drew)); exact HO232.out) hb); have n5_ := Aside0.mk (below_step (by repeat (first | (with_reducible first | exact HB.out | apply below_alloc | apply pw_below_drewN | apply below_drew1) | exact HB.out)) hb); clear HO211; clear HO217; clear HO223; clear HO229; clear HO232; clear HB; have HO211 := n0_; have HO217 := n1_; have HO223 := n2_; have HO229 := n3_; have HO232 := n4_; have HB := n5_; clear n0_ n1_ n2_ n3_ n4_ n5_; (try clear hb); (try clear hb2); (try clear hk); (try clear hi)) | (go_at_call 10; (with_reducible refine (variorumlaw10_one.calls  t235 _ A17.out).mono ?_); rintro e w43 ⟨v236, rfl, ho0, hb⟩; have n0_ := Aside0.mk (Kd.R_elder' (by (with_reducible repeat (first | apply Kd.R_alloc | apply Kd.R_drewN | apply Kd.R_drew)); exact HO211.out) (Kd.R_base ho0) hb); have n1_ := Aside0.mk (Kd.R_elder' (by (with_reducible repeat (first | apply Kd.R_alloc | apply Kd.R_drewN | apply Kd.R_drew)); exact HO217.out) (Kd.R_base ho0) hb); have n2_ := Aside0.mk (Kd.R_elder' (by (with_reducible repeat (first | apply Kd.R_alloc | apply Kd.R_drewN | apply Kd.R_drew)); exact HO223.out) (Kd.R_base ho0) hb); have n3_ := Aside0.mk (Kd.R_elder' (by (with_reducible repeat (first | apply Kd.R_alloc | apply Kd.R_drewN | apply Kd.R_drew)); exact HO229.out) (Kd.R_base ho0) hb); have n4_ := Aside0.mk (Kd.R_below (by (with_reducible repeat (first | apply Kd.R_alloc | apply Kd.R_drewN | apply Kd.R_drew)); exact HO232.out) hb); have n5_ := Aside0.mk (Kd.R_lower (Kd.R_new' (Kd.R_new' (Kd.R_new' (Kd.R_new' ho0 (Kd.R_lt (by (with_reducible repeat (first | apply Kd.R_alloc | apply Kd.R_drewN | apply Kd.R_drew)); exact HO211.out))) (Kd.R_lt (by (with_reducible repeat (first | apply Kd.R_alloc | apply Kd.R_drewN | apply Kd.R_drew)); exact HO217.out))) (Kd.R_lt (by (with_reducible repeat (first | apply Kd.R_alloc | apply Kd.R_drewN | apply Kd.R_drew)); exact HO223.out))) (Kd.R_lt (by (with_reducible repeat (first | apply Kd.R_alloc | apply Kd.R_drewN | apply Kd.R_drew)); exact HO229.out))) (below_size (by repeat (first | (with_reducible first | exact HB.out | apply below_alloc | apply pw_below_drewN | apply below_drew1) | exact HB.out)))); have n6_ := Aside0.mk (below_step (by repeat (first | (with_reducible first | exact HB.out | apply below_alloc | apply pw_below_drewN | apply below_drew1) | exact HB.out)) hb); clear HO211; clear HO217; clear HO223; clear HO229; clear HO232; clear HB; have HO211 := n0_; have HO217 := n1_; have HO223 := n2_; have HO229 := n3_; have HO232 := n4_; have HO237 := n5_; have HB := n6_; clear n0_ n1_ n2_ n3_ n4_ n5_ n6_; (try clear hb); (try clear hb2); (try clear hk); (try clear hi); (try clear ho0); obtain ⟨Ao44, co44, eo44⟩ := Kd.R_slice HO237.out; subst eo44; clear A17) | (go_at_call 11; (with_reducible refine (demerit_Legal.calls k _ _ t235 3 true _ ?side1 ?side2 A18.out).mono ?_); (case side1 => repeat (first | exact (Kd.R_reads' HO237.out).2.2 | (with_reducible refine Kd.C_alloc ?_ _) | (with_reducible refine Kd.C_drewN ?_ _) | (with_reducible refine Kd.C_drew ?_))); (case side2 => exact (Kd.R_reads' HO237.out).2.1); rintro e w' ⟨rfl, ⟨nd, rfl⟩⟩; clear A18) | (go_at_call 10; (with_reducible refine (variorumlaw10_one.calls  t239 _ A20.out).mono ?_); rintro e w45 ⟨v240, rfl, ho0, hb⟩; have n0_ := Aside0.mk (Kd.R_elder' (by (with_reducible repeat (first | apply Kd.R_alloc | apply Kd.R_drewN | apply Kd.R_drew)); exact HO211.out) (Kd.R_base ho0) hb); have n1_ := Aside0.mk (Kd.R_elder' (by (with_reducible repeat (first | apply Kd.R_alloc | apply Kd.R_drewN | apply Kd.R_drew)); exact HO217.out) (Kd.R_base ho0) hb); have n2_ := Aside0.mk (Kd.R_elder' (by (with_reducible repeat (first | apply Kd.R_alloc | apply Kd.R_drewN | apply Kd.R_drew)); exact HO223.out) (Kd.R_base ho0) hb); have n3_ := Aside0.mk (Kd.R_elder' (by (with_reducible repeat (first | apply Kd.R_alloc | apply Kd.R_drewN | apply Kd.R_drew)); exact HO229.out) (Kd.R_base ho0) hb); have n4_ := Aside0.mk (Kd.R_below (by (with_reducible repeat (first | apply Kd.R_alloc | apply Kd.R_drewN | apply Kd.R_drew)); exact HO232.out) hb); have n5_ := Aside0.mk (Kd.R_elder' (by (with_reducible repeat (first | apply Kd.R_alloc | apply Kd.R_drewN | apply Kd.R_drew)); exact HO237.out) (Kd.R_base ho0) hb); have n6_ := Aside0.mk (Kd.R_lower (Kd.R_new' (Kd.R_new' (Kd.R_new' (Kd.R_new' (Kd.R_new' ho0 (Kd.R_lt (by (with_reducible repeat (first | apply Kd.R_alloc | apply Kd.R_drewN | apply Kd.R_drew)); exact HO211.out))) (Kd.R_lt (by (with_reducible repeat (first | apply Kd.R_alloc | apply Kd.R_drewN | apply Kd.R_drew)); exact HO217.out))) (Kd.R_lt (by (with_reducible repeat (first | apply Kd.R_alloc | apply Kd.R_drewN | apply Kd.R_drew)); exact HO223.out))) (Kd.R_lt (by (with_reducible repeat (first | apply Kd.R_alloc | apply Kd.R_drewN | apply Kd.R_drew)); exact HO229.out))) (Kd.R_lt (by (with_reducible repeat (first | apply Kd.R_alloc | apply Kd.R_drewN | apply Kd.R_drew)); exact HO237.out))) (below_size (by repeat (first | (with_reducible first | exact HB.out | apply below_alloc | apply pw_below_drewN | apply below_drew1) | exact HB.out)))); have n7_ := Aside0.mk (below_step (by repeat (first | (with_reducible first | exact HB.out | apply below_alloc | apply pw_below_drewN | apply below_drew1) | exact HB.out)) hb); clear HO211; clear HO217; clear HO223; clear HO229; clear HO232; clear HO237; clear HB; have HO211 := n0_; have HO217 := n1_; have HO223 := n2_; have HO229 := n3_; have HO232 := n4_; have HO237 := n5_; have HO241 := n6_; have HB := n7_; clear n0_ n1_ n2_ n3_ n4_ n5_ n6_ n7_; (try clear hb); (try clear hb2); (try clear hk); (try clear hi); (try clear ho0); obtain ⟨Ao46, co46, eo46⟩ := Kd.R_slice HO241.out; subst eo46; clear A20) | (go_at_call 11; (with_reducible refine (demerit_Legal.calls k _ _ t239 1 false _ ?side1 ?side2 A21.out).mono ?_); (case side1 => repeat (first | exact (Kd.R_reads' HO241.out).2.2 | (with_reducible refine Kd.C_alloc ?_ _) | (with_reducible refine Kd.C_drewN ?_ _) | (with_reducible refine Kd.C_drew ?_))); (case side2 => exact (Kd.R_reads' HO241.out).2.1); rintro e w' ⟨rfl, ⟨nd, rfl⟩⟩; clear A21) | (go_at_call 10; (with_reducible refine (variorumlaw10_one.calls  t243 _ A23.out).mono ?_); rintro e w47 ⟨v244, rfl, ho0, hb⟩; have n0_ := Aside0.mk (Kd.R_elder' (by (with_reducible repeat (first | apply Kd.R_alloc | apply Kd.R_drewN | apply Kd.R_drew)); exact HO211.out) (Kd.R_base ho0) hb); have n1_ := Aside0.mk (Kd.R_elder' (by (with_reducible repeat (first | apply Kd.R_alloc | apply Kd.R_drewN | apply Kd.R_drew)); exact HO217.out) (Kd.R_base ho0) hb); have n2_ := Aside0.mk (Kd.R_elder' (by (with_reducible repeat (first | apply Kd.R_alloc | apply Kd.R_drewN | apply Kd.R_drew)); exact HO223.out) (Kd.R_base ho0) hb); have n3_ := Aside0.mk (Kd.R_elder' (by (with_reducible repeat (first | apply Kd.R_alloc | apply Kd.R_drewN | apply Kd.R_drew)); exact HO229.out) (Kd.R_base ho0) hb); have n4_ := Aside0.mk (Kd.R_below (by (with_reducible repeat (first | apply Kd.R_alloc | apply Kd.R_drewN | apply Kd.R_drew)); exact HO232.out) hb); have n5_ := Aside0.mk (Kd.R_elder' (by (with_reducible repeat (first | apply Kd.R_alloc | apply Kd.R_drewN | apply Kd.R_drew)); exact HO237.out) (Kd.R_base ho0) hb); have n6_ := Aside0.mk (Kd.R_elder' (by (with_reducible repeat (first | apply Kd.R_alloc | apply Kd.R_drewN | apply Kd.R_drew)); exact HO241.out) (Kd.R_base ho0) hb); have n7_ := Aside0.mk (Kd.R_lower (Kd.R_new' (Kd.R_new' (Kd.R_new' (Kd.R_new' (Kd.R_new' (Kd.R_new' ho0 (Kd.R_lt (by (with_reducible repeat (first | apply Kd.R_alloc | apply Kd.R_drewN | apply Kd.R_drew)); exact HO211.out))) (Kd.R_lt (by (with_reducible repeat (first | apply Kd.R_alloc | apply Kd.R_drewN | apply Kd.R_drew)); exact HO217.out))) (Kd.R_lt (by (with_reducible repeat (first | apply Kd.R_alloc | apply Kd.R_drewN | apply Kd.R_drew)); exact HO223.out))) (Kd.R_lt (by (with_reducible repeat (first | apply Kd.R_alloc | apply Kd.R_drewN | apply Kd.R_drew)); exact HO229.out))) (Kd.R_lt (by (with_reducible repeat (first | apply Kd.R_alloc | apply Kd.R_drewN | apply Kd.R_drew)); exact HO237.out))) (Kd.R_lt (by (with_reducible repeat (first | apply Kd.R_alloc | apply Kd.R_drewN | apply Kd.R_drew)); exact HO241.out))) (below_size (by repeat (first | (with_reducible first | exact HB.out | apply below_alloc | apply pw_below_drewN | apply below_drew1) | exact HB.out)))); have n8_ := Aside0.mk (below_step (by repeat (first | (with_reducible first | exact HB.out | apply below_alloc | apply pw_below_drewN | apply below_drew1) | exact HB.out)) hb); clear HO211; clear HO217; clear HO223; clear HO229; clear HO232; clear HO237; clear HO241; clear HB; have HO211 := n0_; have HO217 := n1_; have HO223 := n2_; have HO229 := n3_; have HO232 := n4_; have HO237 := n5_; have HO241 := n6_; have HO245 := n7_; have HB := n8_; clear n0_ n1_ n2_ n3_ n4_ n5_ n6_ n7_ n8_; (try clear hb); (try clear hb2); (try clear hk); (try clear hi); (try clear ho0); obtain ⟨Ao48, co48, eo48⟩ := Kd.R_slice HO245.out; subst eo48; clear A23) | (go_at_call 12; (with_reducible refine (demerit_Start.calls k _ _ t243 (-1) t246 _ ?side1 ?side2 A24.out).mono ?_); (case side1 => repeat (first | exact (Kd.R_reads' HO245.out).2.2 | (with_reducible refine Kd.C_alloc ?_ _) | (with_reducible refine Kd.C_drewN ?_ _) | (with_reducible refine Kd.C_drew ?_))); (case side2 => exact (Kd.R_reads' HO245.out).2.1); rintro e w49 ⟨rfl, hb⟩; have n0_ := Aside0.mk (Kd.R_below (by (with_reducible repeat (first | apply Kd.R_alloc | apply Kd.R_drewN | apply Kd.R_drew)); exact HO211.out) hb); have n1_ := Aside0.mk (Kd.R_below (by (with_reducible repeat (first | apply Kd.R_alloc | apply Kd.R_drewN | apply Kd.R_drew)); exact HO217.out) hb); have n2_ := Aside0.mk (Kd.R_below (by (with_reducible repeat (first | apply Kd.R_alloc | apply Kd.R_drewN | apply Kd.R_drew)); exact HO223.out) hb); have n3_ := Aside0.mk (Kd.R_below (by (with_reducible repeat (first | apply Kd.R_alloc | apply Kd.R_drewN | apply Kd.R_drew)); exact HO229.out) hb); have n4_ := Aside0.mk (Kd.R_below (by (with_reducible repeat (first | apply Kd.R_alloc | apply Kd.R_drewN | apply Kd.R_drew)); exact HO232.out) hb); have n5_ := Aside0.mk (Kd.R_below (by (with_reducible repeat (first | apply Kd.R_alloc | apply Kd.R_drewN | apply Kd.R_drew)); exact HO237.out) hb); have n6_ := Aside0.mk (Kd.R_below (by (with_reducible repeat (first | apply Kd.R_alloc | apply Kd.R_drewN | apply Kd.R_drew)); exact HO241.out) hb); have n7_ := Aside0.mk (Kd.R_below (by (with_reducible repeat (first | apply Kd.R_alloc | apply Kd.R_drewN | apply Kd.R_drew)); exact HO245.out) hb); have n8_ := Aside0.mk (below_step (by repeat (first | (with_reducible first | exact HB.out | apply below_alloc | apply pw_below_drewN | apply below_drew1) | exact HB.out)) hb); clear HO211; clear HO217; clear HO223; clear HO229; clear HO232; clear HO237; clear HO241; clear HO245; clear HB; have HO211 := n0_; have HO217 := n1_; have HO223 := n2_; have HO229 := n3_; have HO232 := n4_; have HO237 := n5_; have HO241 := n6_; have HO245 := n7_; have HB := n8_; clear n0_ n1_ n2_ n3_ n4_ n5_ n6_ n7_ n8_; (try clear hb); (try clear hb2); (try clear hk); (try clear hi); clear A24) | (go_at_call 10; (with_reducible refine (variorumlaw10_one.calls  t247 _ A26.out).mono ?_); rintro e w50 ⟨v248, rfl, ho0, hb⟩; have n0_ := Aside0.mk (Kd.R_elder' (by (with_reducible repeat (first | apply Kd.R_alloc | apply Kd.R_drewN | apply Kd.R_drew)); exact HO211.out) (Kd.R_base ho0) hb); have n1_ := Aside0.mk (Kd.R_elder' (by (with_reducible repeat (first | apply Kd.R_alloc | apply Kd.R_drewN | apply Kd.R_drew)); exact HO217.out) (Kd.R_base ho0) hb); have n2_ := Aside0.mk (Kd.R_elder' (by (with_reducible repeat (first | apply Kd.R_alloc | apply Kd.R_drewN | apply Kd.R_drew)); exact HO223.out) (Kd.R_base ho0) hb); have n3_ := Aside0.mk (Kd.R_elder' (by (with_reducible repeat (first | apply Kd.R_alloc | apply Kd.R_drewN | apply Kd.R_drew)); exact HO229.out) (Kd.R_base ho0) hb); have n4_ := Aside0.mk (Kd.R_below (by (with_reducible repeat (first | apply Kd.R_alloc | apply Kd.R_drewN | apply Kd.R_drew)); exact HO232.out) hb); have n5_ := Aside0.mk (Kd.R_elder' (by (with_reducible repeat (first | apply Kd.R_alloc | apply Kd.R_drewN | apply Kd.R_drew)); exact HO237.out) (Kd.R_base ho0) hb); have n6_ := Aside0.mk (Kd.R_elder' (by (with_reducible repeat (first | apply Kd.R_alloc | apply Kd.R_drewN | apply Kd.R_drew)); exact HO241.out) (Kd.R_base ho0) hb); have n7_ := Aside0.mk (Kd.R_elder' (by (with_reducible repeat (first | apply Kd.R_alloc | apply Kd.R_drewN | apply Kd.R_drew)); exact HO245.out) (Kd.R_base ho0) hb); have n8_ := Aside0.mk (Kd.R_lower (Kd.R_new' (Kd.R_new' (Kd.R_new' (Kd.R_new' (Kd.R_new' (Kd.R_new' (Kd.R_new' ho0 (Kd.R_lt (by (with_reducible repeat (first | apply Kd.R_alloc | apply Kd.R_drewN | apply Kd.R_drew)); exact HO211.out))) (Kd.R_lt (by (with_reducible repeat (first | apply Kd.R_alloc | apply Kd.R_drewN | apply Kd.R_drew)); exact HO217.out))) (Kd.R_lt (by (with_reducible repeat (first | apply Kd.R_alloc | apply Kd.R_drewN | apply Kd.R_drew)); exact HO223.out))) (Kd.R_lt (by (with_reducible repeat (first | apply Kd.R_alloc | apply Kd.R_drewN | apply Kd.R_drew)); exact HO229.out))) (Kd.R_lt (by (with_reducible repeat (first | apply Kd.R_alloc | apply Kd.R_drewN | apply Kd.R_drew)); exact HO237.out))) (Kd.R_lt (by (with_reducible repeat (first | apply Kd.R_alloc | apply Kd.R_drewN | apply Kd.R_drew)); exact HO241.out))) (Kd.R_lt (by (with_reducible repeat (first | apply Kd.R_alloc | apply Kd.R_drewN | apply Kd.R_drew)); exact HO245.out))) (below_size (by repeat (first | (with_reducible first | exact HB.out | apply below_alloc | apply pw_below_drewN | apply below_drew1) | exact HB.out)))); have n9_ := Aside0.mk (below_step (by repeat (first | (with_reducible first | exact HB.out | apply below_alloc | apply pw_below_drewN | apply below_drew1) | exact HB.out)) hb); clear HO211; clear HO217; clear HO223; clear HO229; clear HO232; clear HO237; clear HO241; clear HO245; clear HB; have HO211 := n0_; have HO217 := n1_; have HO223 := n2_; have HO229 := n3_; have HO232 := n4_; have HO237 := n5_; have HO241 := n6_; have HO245 := n7_; have HO249 := n8_; have HB := n9_; clear n0_ n1_ n2_ n3_ n4_ n5_ n6_ n7_ n8_ n9_; (try clear hb); (try clear hb2); (try clear hk); (try clear hi); (try clear ho0); obtain ⟨Ao51, co51, eo51⟩ := Kd.R_slice HO249.out; subst eo51; clear A26) | (go_at_call 13; (with_reducible refine (demerit_Glues.calls k _ _ t247 (-1) 3 t250 _ ?side1 ?side2 A27.out).mono ?_); (case side1 => repeat (first | exact (Kd.R_reads' HO249.out).2.2 | (with_reducible refine Kd.C_alloc ?_ _) | (with_reducible refine Kd.C_drewN ?_ _) | (with_reducible refine Kd.C_drew ?_))); (case side2 => exact (Kd.R_reads' HO249.out).2.1); rintro e w52 ⟨v251, rfl, ho0, hb⟩; have n0_ := Aside0.mk (Kd.R_below (by (with_reducible repeat (first | apply Kd.R_alloc | apply Kd.R_drewN | apply Kd.R_drew)); exact HO211.out) hb); have n1_ := Aside0.mk (Kd.R_below (by (with_reducible repeat (first | apply Kd.R_alloc | apply Kd.R_drewN | apply Kd.R_drew)); exact HO217.out) hb); have n2_ := Aside0.mk (Kd.R_below (by (with_reducible repeat (first | apply Kd.R_alloc | apply Kd.R_drewN | apply Kd.R_drew)); exact HO223.out) hb); have n3_ := Aside0.mk (Kd.R_below (by (with_reducible repeat (first | apply Kd.R_alloc | apply Kd.R_drewN | apply Kd.R_drew)); exact HO229.out) hb); have n4_ := Aside0.mk (Kd.R_below (by (with_reducible repeat (first | apply Kd.R_alloc | apply Kd.R_drewN | apply Kd.R_drew)); exact HO232.out) hb); have n5_ := Aside0.mk (Kd.R_below (by (with_reducible repeat (first | apply Kd.R_alloc | apply Kd.R_drewN | apply Kd.R_drew)); exact HO237.out) hb); have n6_ := Aside0.mk (Kd.R_below (by (with_reducible repeat (first | apply Kd.R_alloc | apply Kd.R_drewN | apply Kd.R_drew)); exact HO241.out) hb); have n7_ := Aside0.mk (Kd.R_below (by (with_reducible repeat (first | apply Kd.R_alloc | apply Kd.R_drewN | apply Kd.R_drew)); exact HO245.out) hb); have n8_ := Aside0.mk (Kd.R_below (by (with_reducible repeat (first | apply Kd.R_alloc | apply Kd.R_drewN | apply Kd.R_drew)); exact HO249.out) hb); have n9_ := Aside0.mk (Kd.R_lower ho0 (below_size (by repeat (first | (with_reducible first | exact HB.out | apply below_alloc | apply pw_below_drewN | apply below_drew1) | exact HB.out)))); have n10_ := Aside0.mk (below_step (by repeat (first | (with_reducible first | exact HB.out | apply below_alloc | apply pw_below_drewN | apply below_drew1) | exact HB.out)) hb); clear HO211; clear HO217; clear HO223; clear HO229; clear HO232; clear HO237; clear HO241; clear HO245; clear HO249; clear HB; have HO211 := n0_; have HO217 := n1_; have HO223 := n2_; have HO229 := n3_; have HO232 := n4_; have HO237 := n5_; have HO241 := n6_; have HO245 := n7_; have HO249 := n8_; have HO252 := n9_; have HB := n10_; clear n0_ n1_ n2_ n3_ n4_ n5_ n6_ n7_ n8_ n9_ n10_; (try clear hb); (try clear hb2); (try clear hk); (try clear hi); (try clear ho0); obtain ⟨Ao53, co53, eo53⟩ := Kd.R_slice HO252.out; subst eo53; clear A27))
            go_ret
            exact ⟨by first | rfl | (simp [errW_none, errW_some] <;> rfl) | (simp [*, errW_none, errW_some] <;> rfl), by repeat (first | (with_reducible first | exact HB.out | apply below_alloc | apply pw_below_drewN | apply below_drew1) | exact HB.out)⟩
           ·rw [if_neg c25] at H
            exact absurd H (by simp)
         ·replace c19 := Bool.eq_false_iff.mpr c19
          subst c19
          have H1 : (none) = some r := by rw [if_neg (show ¬ (false = true) by decide)] at H; exact H
          clear H
          have H := H1
          clear H1
          exact absurd H (by simp)
        ·replace c16 := Bool.eq_false_iff.mpr c16
         subst c16
         have H1 : (none) = some r := by rw [if_neg (show ¬ (false = true) by decide)] at H; exact H
         clear H
         have H := H1
         clear H1
         exact absurd H (by simp)
       ·rw [if_neg c15] at H
        exact absurd H (by simp)
     ·replace c13 := Bool.eq_false_iff.mpr c13
      subst c13
      have H1 : (none) = some r := by rw [if_neg (show ¬ (false = true) by decide)] at H; exact H
      clear H
      have H := H1
      clear H1
      exact absurd H (by simp)
    ·rw [if_neg c12] at H
     exact absurd H (by simp)
   ·replace c11 := Bool.eq_false_iff.mpr c11
    subst c11
    have H1 : (none) = some r := by rw [if_neg (show ¬ (false = true) by decide)] at H; exact H
    clear H
    have H := H1
    clear H1
    exact absurd H (by simp)
  ·rw [if_neg c10] at H
   exact absurd H (by simp)
 ·rw [if_neg c9] at H
  exact absurd H (by simp)

/-! ### variorumref10_Legal: function 25 -/
def variorumref10_Legal.j0 : Nat → List (S47) → Int → Bool → Option (Bool)
 | 0, _, _, _ => none
 | k + 1, x0, x1, x12 => if x12 = true then (some false) else (if 0 ≤ x1 then (if x1 < (x0.length : Int) then (if ((rd_T47 x0 x1).f0) = 2 then (some (decide (((rd_T47 x0 x1).f2) < 10000))) else (if ((rd_T47 x0 x1).f0) = 1 then (if x1 > 0 then (if 0 ≤ (wrap64 (x1 - 1)) then (if (wrap64 (x1 - 1)) < (x0.length : Int) then (some (((rd_T47 x0 (wrap64 (x1 - 1))).f0) == 0)) else (none)) else (none)) else (some false)) else (some false))) else (none)) else (none))
def variorumref10_Legal.f (k : Nat) (l0 : List (S47)) (a1 : Int) : Option (Bool) := if a1 < 0 then (variorumref10_Legal.j0 k l0 a1 true) else (variorumref10_Legal.j0 k l0 a1 (decide (a1 ≥ (l0.length : Int))))
theorem variorumref10_Legal.mono_l : ∀ k, (∀ y0 y1 y2, LeO (variorumref10_Legal.j0 k y0 y1 y2) (variorumref10_Legal.j0 (k + 1) y0 y1 y2))
 | 0 => fun _ _ _ r h => by simp [variorumref10_Legal.j0] at h
 | k + 1 => by
  have ih0 := variorumref10_Legal.mono_l k
  ·intro y0 y1 y2
   unfold variorumref10_Legal.j0
   repeat' first
   | (with_reducible exact ih0 _ _ _)
   | (with_reducible exact LeO.refl _)
   | (with_reducible exact LeO.none _)
   | (with_reducible refine LeO.ite ?_ ?_)
   | (with_reducible refine LeO.bind ?_ (fun _ => ?_))
   | exact ih0 _ _ _
   | exact LeO.none _
   | refine LeO.ite ?_ ?_
   | refine LeO.bind ?_ (fun _ => ?_)
theorem variorumref10_Legal.mono : ∀ a0 a1 k, LeO (variorumref10_Legal.f k a0 a1) (variorumref10_Legal.f (k + 1) a0 a1) := by
 intro a0 a1 k
 have ih0 := variorumref10_Legal.mono_l k
 unfold variorumref10_Legal.f
 repeat' first
   | (with_reducible exact ih0 _ _ _)
   | (with_reducible exact LeO.refl _)
   | (with_reducible exact LeO.none _)
   | (with_reducible refine LeO.ite ?_ ?_)
   | (with_reducible refine LeO.bind ?_ (fun _ => ?_))
   | exact ih0 _ _ _
   | exact LeO.none _
   | refine LeO.ite ?_ ?_
   | refine LeO.bind ?_ (fun _ => ?_)
set_option maxHeartbeats 8000000 in
set_option maxRecDepth 100000 in
theorem variorumref10_Legal.calls (k : Nat) (A0 : Option Addr) (c0 : Nat) (l0 : List (S47)) (a1 : Int) (r : Bool) (w : World) (hr0 : Kd.C k47 w A0 l0.length l0) (hc0 : l0.length ≤ c0) (h : variorumref10_Legal.f k l0 a1 = some r) :
  Calls Try.prog 25 #[.slice A0 l0.length c0, .int .i64 a1] w fun e w' => e = .returned (.bool r) ∧ Drawn0 w w' := by
 have HR0 := Aside0.mk hr0
 have HC0 := Aside0.mk hc0
 clear hr0 hc0
 have H : (if a1 < 0 then (variorumref10_Legal.j0 k l0 a1 true) else (variorumref10_Legal.j0 k l0 a1 (decide (a1 ≥ (l0.length : Int))))) = some r := h
 clear h
 have HC3 := Aside0.mk H
 clear H
 go_enter Try.func25, Try.ntmps25
 go_upto_region 1 with (fail)
 go_cut [12] (fun v12 wc => ∃ (kq : Nat) (x12_2 : Bool), v12 = .bool x12_2 ∧ Aside0 (variorumref10_Legal.j0 kq l0 a1 x12_2 = some r) ∧ Aside0 (kq ≤ k) ∧ Drawn0 w wc)
 case first =>
  have H := HC3.out
  clear HC3
  by_cases c4 : a1 < 0
  ·rw [if_pos c4] at H
   have c4b0 : decide (a1 < 0) = true := decide_eq_true c4
   clear c4
   (first | rw [c4b0] | (simp only [i64_w, i32_w]; rw [c4b0]) | skip)
   have H' := Aside0.mk H
   clear H
   go_wp2
   go_meet
   case rel => exact ⟨_, (true), (by first | rfl | (simp; done) | (simp [*]; done)), H', ⟨by first | omega | exact Nat.le_refl _⟩, by repeat (first | exact Drawn0.refl _ | apply Drawn0.step)⟩
  ·rw [if_neg c4] at H
   have c4b0 : decide (a1 < 0) = false := decide_eq_false c4
   clear c4
   (first | rw [c4b0] | (simp only [i64_w, i32_w]; rw [c4b0]) | skip)
   have H' := Aside0.mk H
   clear H
   go_wp2
   go_meet
   case rel => exact ⟨_, (decide (a1 ≥ (l0.length : Int))), (by first | rfl | (simp; done) | (simp [*]; done)), H', ⟨by first | omega | exact Nat.le_refl _⟩, by repeat (first | exact Drawn0.refl _ | apply Drawn0.step)⟩
 case rest =>
  clear HC3
  try clear c2
  try clear p2
  try clear c4
  try clear c4b0
  obtain ⟨kq, x12_2, rfl, HA, HJ2, ⟨mc2, rfl⟩⟩ := hcut
  cases kq with
  | zero => exact absurd HA.out (by simp [variorumref10_Legal.j0])
  | succ kj2 =>
   have H := HA.out
   clear HA
   simp only [variorumref10_Legal.j0] at H
   by_cases c5 : x12_2 = true
   ·subst c5
    have H1 : (some false) = some r := by rw [if_pos rfl] at H; exact H
    clear H
    have H := H1
    clear H1
    obtain rfl := Option.some.inj H
    go_wp2
    go_ret
    exact ⟨by first | rfl | (simp; done) | (simp [*]; done), by repeat (first | exact Drawn0.refl _ | apply Drawn0.step)⟩
   ·replace c5 := Bool.eq_false_iff.mpr c5
    subst c5
    have H1 : (if 0 ≤ a1 then (if a1 < (l0.length : Int) then (if ((rd_T47 l0 a1).f0) = 2 then (some (decide (((rd_T47 l0 a1).f2) < 10000))) else (if ((rd_T47 l0 a1).f0) = 1 then (if a1 > 0 then (if 0 ≤ (wrap64 (a1 - 1)) then (if (wrap64 (a1 - 1)) < (l0.length : Int) then (some (((rd_T47 l0 (wrap64 (a1 - 1))).f0) == 0)) else (none)) else (none)) else (some false)) else (some false))) else (none)) else (none)) = some r := by rw [if_neg (show ¬ (false = true) by decide)] at H; exact H
    clear H
    have H := H1
    clear H1
    by_cases c6 : 0 ≤ a1
    ·rw [if_pos c6] at H
     have c6b0 : decide (0 ≤ a1) = true := decide_eq_true c6
     clear c6
     by_cases c7 : a1 < (l0.length : Int)
     ·rw [if_pos c7] at H
      have c7b0 : decide (a1 < (l0.length : Int)) = true := decide_eq_true c7
      clear c7
      by_cases c8 : ((rd_T47 l0 a1).f0) = 2
      ·rw [if_pos c8] at H
       have c8b0 : (((rd_T47 l0 a1).f0) == 2) = true := beq_iff_eq.mpr c8
       have c8b1 : (((rd_T47 l0 a1).f0) != 2) = false := bne_eq_false_iff_eq.mpr c8
       clear c8
       obtain rfl := Option.some.inj H
       have p253 : 0 ≤ (a1 : Int) := of_decide_eq_true (by first | (with_reducible assumption) | assumption)
       have q253 : a1 < (l0.length : Int) := of_decide_eq_true (by first | (with_reducible assumption) | assumption)
       obtain ⟨ad253, e253, hx253_0, hx253_1, hx253_2, hx253_3, hx253_4, hx253_5, hx253_6, hx253_7, hx253_8⟩ := at_T47 HR0.out a1 p253 q253
       cases e253
       replace p253 := eq_true p253
       replace q253 := eq_true q253
       have p254 : 0 ≤ (a1 : Int) := of_decide_eq_true (by first | (with_reducible assumption) | assumption)
       have q254 : a1 < (l0.length : Int) := of_decide_eq_true (by first | (with_reducible assumption) | assumption)
       obtain ⟨ad254, e254, hx254_0, hx254_1, hx254_2, hx254_3, hx254_4, hx254_5, hx254_6, hx254_7, hx254_8⟩ := at_T47 HR0.out a1 p254 q254
       obtain rfl : ad253 = ad254 := (by injection e254)
       replace p254 := eq_true p254
       replace q254 := eq_true q254
       go_wp2
       go_ret
       exact ⟨by first | rfl | (simp; done) | (simp [*]; done), by repeat (first | exact Drawn0.refl _ | apply Drawn0.step)⟩
      ·rw [if_neg c8] at H
       have c8b0 : (((rd_T47 l0 a1).f0) == 2) = false := beq_eq_false_iff_ne.mpr c8
       have c8b1 : (((rd_T47 l0 a1).f0) != 2) = true := bne_iff_ne.mpr c8
       by_cases c9 : ((rd_T47 l0 a1).f0) = 1
       ·rw [if_pos c9] at H
        have c9b0 : (((rd_T47 l0 a1).f0) == 1) = true := beq_iff_eq.mpr c9
        have c9b1 : (((rd_T47 l0 a1).f0) != 1) = false := bne_eq_false_iff_eq.mpr c9
        clear c9
        by_cases c10 : a1 > 0
        ·rw [if_pos c10] at H
         have c10b0 : decide (0 < a1) = true := decide_eq_true c10
         clear c10
         obtain ⟨ji11, hji11⟩ : ∃ j_ : Int, (wrap64 (a1 - 1)) = j_ := ⟨_, rfl⟩
         replace H : (if 0 ≤ (ji11) then (if (ji11) < (l0.length : Int) then (some (((rd_T47 l0 (ji11)).f0) == 0)) else (none)) else (none)) = some r := by first | (rw [hji11] at H; exact H) | (simp only [hji11] at H ⊢; exact H)
         have hji11w : (IntKind.i64.wrap (a1 - 1)) = ji11 := (i64_w _).trans hji11
         by_cases c12 : 0 ≤ (ji11)
         ·rw [if_pos c12] at H
          have c12b0 : decide (0 ≤ (ji11)) = true := decide_eq_true c12
          clear c12
          by_cases c13 : (ji11) < (l0.length : Int)
          ·rw [if_pos c13] at H
           have c13b0 : decide ((ji11) < (l0.length : Int)) = true := decide_eq_true c13
           clear c13
           obtain rfl := Option.some.inj H
           have p253 : 0 ≤ (a1 : Int) := of_decide_eq_true (by first | (with_reducible assumption) | assumption)
           have q253 : a1 < (l0.length : Int) := of_decide_eq_true (by first | (with_reducible assumption) | assumption)
           obtain ⟨ad253, e253, hx253_0, hx253_1, hx253_2, hx253_3, hx253_4, hx253_5, hx253_6, hx253_7, hx253_8⟩ := at_T47 HR0.out a1 p253 q253
           cases e253
           replace p253 := eq_true p253
           replace q253 := eq_true q253
           have p255 : 0 ≤ (a1 : Int) := of_decide_eq_true (by first | (with_reducible assumption) | assumption)
           have q255 : a1 < (l0.length : Int) := of_decide_eq_true (by first | (with_reducible assumption) | assumption)
           obtain ⟨ad255, e255, hx255_0, hx255_1, hx255_2, hx255_3, hx255_4, hx255_5, hx255_6, hx255_7, hx255_8⟩ := at_T47 HR0.out a1 p255 q255
           obtain rfl : ad253 = ad255 := (by injection e255)
           replace p255 := eq_true p255
           replace q255 := eq_true q255
           have p256 : 0 ≤ ((ji11) : Int) := of_decide_eq_true (by first | (with_reducible assumption) | assumption)
           have q256 : (ji11) < (l0.length : Int) := of_decide_eq_true (by first | (with_reducible assumption) | assumption)
           obtain ⟨ad256, e256, hx256_0, hx256_1, hx256_2, hx256_3, hx256_4, hx256_5, hx256_6, hx256_7, hx256_8⟩ := at_T47 HR0.out (ji11) p256 q256
           obtain rfl : ad253 = ad256 := (by injection e256)
           replace p256 := eq_true p256
           replace q256 := eq_true q256
           go_wp2
           go_ret
           exact ⟨by first | rfl | (simp; done) | (simp only [← hji11] <;> (first | rfl | simp)) | (simp [*]; done), by repeat (first | exact Drawn0.refl _ | apply Drawn0.step)⟩
          ·rw [if_neg c13] at H
           exact absurd H (by simp)
         ·rw [if_neg c12] at H
          exact absurd H (by simp)
        ·rw [if_neg c10] at H
         have c10b0 : decide (0 < a1) = false := decide_eq_false c10
         clear c10
         obtain rfl := Option.some.inj H
         have p253 : 0 ≤ (a1 : Int) := of_decide_eq_true (by first | (with_reducible assumption) | assumption)
         have q253 : a1 < (l0.length : Int) := of_decide_eq_true (by first | (with_reducible assumption) | assumption)
         obtain ⟨ad253, e253, hx253_0, hx253_1, hx253_2, hx253_3, hx253_4, hx253_5, hx253_6, hx253_7, hx253_8⟩ := at_T47 HR0.out a1 p253 q253
         cases e253
         replace p253 := eq_true p253
         replace q253 := eq_true q253
         have p255 : 0 ≤ (a1 : Int) := of_decide_eq_true (by first | (with_reducible assumption) | assumption)
         have q255 : a1 < (l0.length : Int) := of_decide_eq_true (by first | (with_reducible assumption) | assumption)
         obtain ⟨ad255, e255, hx255_0, hx255_1, hx255_2, hx255_3, hx255_4, hx255_5, hx255_6, hx255_7, hx255_8⟩ := at_T47 HR0.out a1 p255 q255
         obtain rfl : ad253 = ad255 := (by injection e255)
         replace p255 := eq_true p255
         replace q255 := eq_true q255
         go_wp2
         go_ret
         exact ⟨by first | rfl | (simp; done) | (simp [*]; done), by repeat (first | exact Drawn0.refl _ | apply Drawn0.step)⟩
       ·rw [if_neg c9] at H
        have c9b0 : (((rd_T47 l0 a1).f0) == 1) = false := beq_eq_false_iff_ne.mpr c9
        have c9b1 : (((rd_T47 l0 a1).f0) != 1) = true := bne_iff_ne.mpr c9
        obtain rfl := Option.some.inj H
        have p253 : 0 ≤ (a1 : Int) := of_decide_eq_true (by first | (with_reducible assumption) | assumption)
        have q253 : a1 < (l0.length : Int) := of_decide_eq_true (by first | (with_reducible assumption) | assumption)
        obtain ⟨ad253, e253, hx253_0, hx253_1, hx253_2, hx253_3, hx253_4, hx253_5, hx253_6, hx253_7, hx253_8⟩ := at_T47 HR0.out a1 p253 q253
        cases e253
        replace p253 := eq_true p253
        replace q253 := eq_true q253
        have p255 : 0 ≤ (a1 : Int) := of_decide_eq_true (by first | (with_reducible assumption) | assumption)
        have q255 : a1 < (l0.length : Int) := of_decide_eq_true (by first | (with_reducible assumption) | assumption)
        obtain ⟨ad255, e255, hx255_0, hx255_1, hx255_2, hx255_3, hx255_4, hx255_5, hx255_6, hx255_7, hx255_8⟩ := at_T47 HR0.out a1 p255 q255
        obtain rfl : ad253 = ad255 := (by injection e255)
        replace p255 := eq_true p255
        replace q255 := eq_true q255
        go_wp2
        go_ret
        exact ⟨by first | rfl | (simp; done) | (simp [*]; done), by repeat (first | exact Drawn0.refl _ | apply Drawn0.step)⟩
     ·rw [if_neg c7] at H
      exact absurd H (by simp)
    ·rw [if_neg c6] at H
     exact absurd H (by simp)

/-! ### variorumref10_Forced: function 27 -/
def variorumref10_Forced.f (a0_0 : Int) (a0_1 : Int) (a0_2 : Int) (a0_3 : Int) (a0_4 : Int) (a0_5 : Int) (a0_6 : Bool) (a0_7 : Int) (a0_8 : Int) : Option (Bool) := if a0_0 = 2 then (some (a0_5 == (-10000))) else (some false)
set_option maxHeartbeats 8000000 in
set_option maxRecDepth 100000 in
theorem variorumref10_Forced.calls (a0_0 : Int) (a0_1 : Int) (a0_2 : Int) (a0_3 : Int) (a0_4 : Int) (a0_5 : Int) (a0_6 : Bool) (a0_7 : Int) (a0_8 : Int) (r : Bool) (w : World) (h : variorumref10_Forced.f a0_0 a0_1 a0_2 a0_3 a0_4 a0_5 a0_6 a0_7 a0_8 = some r) :
  Calls Try.prog 27 #[.agg #[.int .i64 a0_0, .int .i64 a0_1, .int .i64 a0_2, .int .i64 a0_3, .int .i64 a0_4, .int .i64 a0_5, .bool a0_6, .int .i64 a0_7, .int .i64 a0_8]] w fun e w' => e = .returned (.bool r) ∧ Below w.heap.size w w' := by
 have hu47 := Try.underlying47
 have HB := Aside0.mk (Below.refl w.heap.size w)
 have H : (if a0_0 = 2 then (some (a0_5 == (-10000))) else (some false)) = some r := h
 clear h
 by_cases c2 : a0_0 = 2
 ·rw [if_pos c2] at H
  have c2b0 : (a0_0 == 2) = true := beq_iff_eq.mpr c2
  have c2b1 : (a0_0 != 2) = false := bne_eq_false_iff_eq.mpr c2
  clear c2
  obtain rfl := Option.some.inj H
  go_enter Try.func27, Try.ntmps27
  go_wp2_with (first | ((with_reducible refine gate_dst (N := 1) rfl ?_); refine box_event ?hg (N := 1) ?hd (cs := #[.int .i64 a0_0, .int .i64 a0_1, .int .i64 a0_2, .int .i64 a0_3, .int .i64 a0_4, .int .i64 a0_5, .bool a0_6, .int .i64 a0_7, .int .i64 a0_8]) (t := 47) ?hr ?_; (case hd => rfl); (case hg => rfl); (case hr => first | (go_simp; done) | (go_simp; rfl)); intro gb257 hg w3 hbox hb; have n0_ := Aside0.mk (below_step (by repeat (first | (with_reducible first | exact HB.out | apply below_alloc | apply pw_below_drewN | apply below_drew1) | exact HB.out)) hb); have n1_ := Aside0.mk (hbox); have n2_ := Aside0.mk ((by rw [hg]; exact (below_size (by repeat (first | (with_reducible first | exact HB.out | apply below_alloc | apply pw_below_drewN | apply below_drew1) | exact HB.out))) : w.heap.size ≤ gb257)); have n3_ := Aside0.mk ((by rw [hg]; exact (below_size (by repeat (first | (with_reducible first | exact HB.out | apply below_alloc | apply pw_below_drewN | apply below_drew1) | exact HB.out))) : w.heap.size ≤ gb257)); clear HB; have HB := n0_; have BK257 := n1_; have GW257 := n2_; have GE257 := n3_; clear n0_ n1_ n2_ n3_; clear hb hbox hg; have hcz4_0 : w3.cell? ⟨gb257, 0, none⟩ = some (.int .i64 a0_0) := (blk_cell BK257.out 0).trans rfl; have hcz4_1 : w3.cell? ⟨gb257, 1, none⟩ = some (.int .i64 a0_1) := (blk_cell BK257.out 1).trans rfl; have hcz4_2 : w3.cell? ⟨gb257, 2, none⟩ = some (.int .i64 a0_2) := (blk_cell BK257.out 2).trans rfl; have hcz4_3 : w3.cell? ⟨gb257, 3, none⟩ = some (.int .i64 a0_3) := (blk_cell BK257.out 3).trans rfl; have hcz4_4 : w3.cell? ⟨gb257, 4, none⟩ = some (.int .i64 a0_4) := (blk_cell BK257.out 4).trans rfl; have hcz4_5 : w3.cell? ⟨gb257, 5, none⟩ = some (.int .i64 a0_5) := (blk_cell BK257.out 5).trans rfl; have hcz4_6 : w3.cell? ⟨gb257, 6, none⟩ = some (.bool a0_6) := (blk_cell BK257.out 6).trans rfl; have hcz4_7 : w3.cell? ⟨gb257, 7, none⟩ = some (.int .i64 a0_7) := (blk_cell BK257.out 7).trans rfl; have hcz4_8 : w3.cell? ⟨gb257, 8, none⟩ = some (.int .i64 a0_8) := (blk_cell BK257.out 8).trans rfl; have hfz4_0 := blk_frozen BK257.out 0; have hfz4_1 := blk_frozen BK257.out 1; have hfz4_2 := blk_frozen BK257.out 2; have hfz4_3 := blk_frozen BK257.out 3; have hfz4_4 := blk_frozen BK257.out 4; have hfz4_5 := blk_frozen BK257.out 5; have hfz4_6 := blk_frozen BK257.out 6; have hfz4_7 := blk_frozen BK257.out 7; have hfz4_8 := blk_frozen BK257.out 8))
  go_ret
  exact ⟨by first | rfl | (simp [errW_none, errW_some] <;> rfl) | (simp [*, errW_none, errW_some] <;> rfl), by repeat (first | (with_reducible first | exact HB.out | apply below_alloc | apply pw_below_drewN | apply below_drew1 | refine below_set ?_ GE257.out) | exact HB.out)⟩
 ·rw [if_neg c2] at H
  have c2b0 : (a0_0 == 2) = false := beq_eq_false_iff_ne.mpr c2
  have c2b1 : (a0_0 != 2) = true := bne_iff_ne.mpr c2
  obtain rfl := Option.some.inj H
  go_enter Try.func27, Try.ntmps27
  go_wp2_with (first | ((with_reducible refine gate_dst (N := 1) rfl ?_); refine box_event ?hg (N := 1) ?hd (cs := #[.int .i64 a0_0, .int .i64 a0_1, .int .i64 a0_2, .int .i64 a0_3, .int .i64 a0_4, .int .i64 a0_5, .bool a0_6, .int .i64 a0_7, .int .i64 a0_8]) (t := 47) ?hr ?_; (case hd => rfl); (case hg => rfl); (case hr => first | (go_simp; done) | (go_simp; rfl)); intro gb257 hg w5 hbox hb; have n0_ := Aside0.mk (below_step (by repeat (first | (with_reducible first | exact HB.out | apply below_alloc | apply pw_below_drewN | apply below_drew1) | exact HB.out)) hb); have n1_ := Aside0.mk (hbox); have n2_ := Aside0.mk ((by rw [hg]; exact (below_size (by repeat (first | (with_reducible first | exact HB.out | apply below_alloc | apply pw_below_drewN | apply below_drew1) | exact HB.out))) : w.heap.size ≤ gb257)); have n3_ := Aside0.mk ((by rw [hg]; exact (below_size (by repeat (first | (with_reducible first | exact HB.out | apply below_alloc | apply pw_below_drewN | apply below_drew1) | exact HB.out))) : w.heap.size ≤ gb257)); clear HB; have HB := n0_; have BK257 := n1_; have GW257 := n2_; have GE257 := n3_; clear n0_ n1_ n2_ n3_; clear hb hbox hg; have hcz6_0 : w5.cell? ⟨gb257, 0, none⟩ = some (.int .i64 a0_0) := (blk_cell BK257.out 0).trans rfl; have hcz6_1 : w5.cell? ⟨gb257, 1, none⟩ = some (.int .i64 a0_1) := (blk_cell BK257.out 1).trans rfl; have hcz6_2 : w5.cell? ⟨gb257, 2, none⟩ = some (.int .i64 a0_2) := (blk_cell BK257.out 2).trans rfl; have hcz6_3 : w5.cell? ⟨gb257, 3, none⟩ = some (.int .i64 a0_3) := (blk_cell BK257.out 3).trans rfl; have hcz6_4 : w5.cell? ⟨gb257, 4, none⟩ = some (.int .i64 a0_4) := (blk_cell BK257.out 4).trans rfl; have hcz6_5 : w5.cell? ⟨gb257, 5, none⟩ = some (.int .i64 a0_5) := (blk_cell BK257.out 5).trans rfl; have hcz6_6 : w5.cell? ⟨gb257, 6, none⟩ = some (.bool a0_6) := (blk_cell BK257.out 6).trans rfl; have hcz6_7 : w5.cell? ⟨gb257, 7, none⟩ = some (.int .i64 a0_7) := (blk_cell BK257.out 7).trans rfl; have hcz6_8 : w5.cell? ⟨gb257, 8, none⟩ = some (.int .i64 a0_8) := (blk_cell BK257.out 8).trans rfl; have hfz6_0 := blk_frozen BK257.out 0; have hfz6_1 := blk_frozen BK257.out 1; have hfz6_2 := blk_frozen BK257.out 2; have hfz6_3 := blk_frozen BK257.out 3; have hfz6_4 := blk_frozen BK257.out 4; have hfz6_5 := blk_frozen BK257.out 5; have hfz6_6 := blk_frozen BK257.out 6; have hfz6_7 := blk_frozen BK257.out 7; have hfz6_8 := blk_frozen BK257.out 8))
  go_ret
  exact ⟨by first | rfl | (simp [errW_none, errW_some] <;> rfl) | (simp [*, errW_none, errW_some] <;> rfl), by repeat (first | (with_reducible first | exact HB.out | apply below_alloc | apply pw_below_drewN | apply below_drew1 | refine below_set ?_ GE257.out) | exact HB.out)⟩

end Go.Proofs.Ytagpdpcodcmgkaa.PTo

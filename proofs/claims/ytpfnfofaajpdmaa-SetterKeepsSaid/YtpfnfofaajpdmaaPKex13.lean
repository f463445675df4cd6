/- Written by a program of this session: functions of the given program as plain Lean functions, the walks that show it, and the row of each law, for every input that its statement speaks of. -/
import Derived.Test.YtpfnfofaajpdmaaPKex0
import Derived.Test.YtpfnfofaajpdmaaPKex12
namespace Go.Proofs.Ytpfnfofaajpdmaa.PKe
open Go.RowKit Go.Proofs.YtpfnfofaajpdmaaW.PrintWords Go.Proofs.YtpfnfofaajpdmaaW.PrintLast Go.Proofs.YtpfnfofaajpdmaaW.PrintMore
attribute [local go_sem] max2_int min2_int max_two min_two max_three min_three max_four min_four   -- for this text's walks alone
set_option linter.unusedVariables false
set_option linter.unusedSimpArgs false

/-! ### variorumlaw12_SetterKeeps: function 4 -/
mutual
def variorumlaw12_SetterKeeps.j0 : Nat → List (S40) → List Int → Int → Bool → Option (Bool)
 | 0, _, _, _, _ => none
 | k + 1, x0, x1, x2, x27 => if x27 = true then ((variorumlaw12_fixed.f k).bind fun t311 => (some t311)) else ((setter_Lines.f k x0 x1 x2).bind fun bt312 => (if bt312.2.1 = 0 then ((variorumref09_Boxes.f k x0).bind fun t318 => ((setter_Words.f k bt312.1).bind fun t321 => (if (t318.length : Int) = (t321.length : Int) then (variorumlaw12_SetterKeeps.j1 k x1 bt312.1 t318 t321 ((bt312.1.length : Int) != (x1.length : Int))) else (variorumlaw12_SetterKeeps.j1 k x1 bt312.1 t318 t321 true)))) else (some ((bt312.1.length : Int) == 0))))
def variorumlaw12_SetterKeeps.j1 : Nat → List Int → List (S44) → List (S40) → List (S42) → Bool → Option (Bool)
 | 0, _, _, _, _, _ => none
 | k + 1, x1, x7, x9, x10, x57 => if x57 = true then (none) else (variorumlaw12_SetterKeeps.l0 k x1 x7 x9 x10 0)
def variorumlaw12_SetterKeeps.l0 : Nat → List Int → List (S44) → List (S40) → List (S42) → Int → Option (Bool)
 | 0, _, _, _, _, _ => none
 | k + 1, x1, x7, x9, x10, x11 => if x11 < (x9.length : Int) then (if 0 ≤ x11 then (if x11 < (x10.length : Int) then (if ((rd_T40 x9 x11).f4) = ((rd_T42 x10 x11).f0) then (if ((rd_T40 x9 x11).f5) = ((rd_T42 x10 x11).f1) then (if ((rd_T40 x9 x11).f1.f0) = ((rd_T42 x10 x11).f3) then (variorumlaw12_SetterKeeps.l0 k x1 x7 x9 x10 (wrap64 (x11 + 1))) else (none)) else (none)) else (none)) else (none)) else (none)) else (variorumlaw12_SetterKeeps.l1 k x1 x7 0)
def variorumlaw12_SetterKeeps.l1 : Nat → List Int → List (S44) → Int → Option (Bool)
 | 0, _, _, _ => none
 | k + 1, x1, x7, x12 => if x12 < (x7.length : Int) then (if 0 ≤ x12 then (variorumlaw12_SetterKeeps.l2 k x1 x7 x12 0 0 ((rd_T44 x7 x12).f0) ((rd_T44 x7 x12).f1) ((rd_T44 x7 x12).f2) ((rd_T44 x7 x12).f3) ((rd_T44 x7 x12).f4) ((rd_T44 x7 x12).f5)) else (none)) else (some true)
def variorumlaw12_SetterKeeps.l2 : Nat → List Int → List (S44) → Int → Int → Int → Int → Int → List (S42) → Bool → Int → Int → Option (Bool)
 | 0, _, _, _, _, _, _, _, _, _, _, _ => none
 | k + 1, x1, x7, x12, x14, x15, x332000, x332001, x332002, x332003, x332004, x332005 => if x15 < (x332002.length : Int) then (if 0 ≤ x15 then (if ((rd_T42 x332002 x15).f2) < x14 then (none) else (variorumlaw12_SetterKeeps.l2 k x1 x7 x12 (wrap64 (((rd_T42 x332002 x15).f2) + ((rd_T42 x332002 x15).f3))) (wrap64 (x15 + 1)) x332000 x332001 x332002 x332003 x332004 x332005)) else (none)) else (if x332004 < x14 then (none) else (if x12 > 0 then (if 0 ≤ (wrap64 (x12 - 1)) then (if (wrap64 (x12 - 1)) < (x7.length : Int) then (if ((rd_T44 x7 (wrap64 (x12 - 1))).f1) ≥ x332000 then (none) else (if 0 ≤ x12 then (if x12 < (x1.length : Int) then (if x332001 = (rd x1 x12) then (if x332000 > x332001 then (none) else (variorumlaw12_SetterKeeps.l1 k x1 x7 (wrap64 (x12 + 1)))) else (none)) else (none)) else (none))) else (none)) else (none)) else (if 0 ≤ x12 then (if x12 < (x1.length : Int) then (if x332001 = (rd x1 x12) then (if x332000 > x332001 then (none) else (variorumlaw12_SetterKeeps.l1 k x1 x7 (wrap64 (x12 + 1)))) else (none)) else (none)) else (none))))
end
def variorumlaw12_SetterKeeps.f (k : Nat) (l0 : List (S40)) (l1 : List Int) (a2 : Int) : Option (Bool) := (variorumlaw12_fixed.f k).bind fun t310 => (if t310 = true then (if (l0.length : Int) > 300 then (variorumlaw12_SetterKeeps.j0 k l0 l1 a2 true) else (variorumlaw12_SetterKeeps.j0 k l0 l1 a2 (decide ((l1.length : Int) > 100)))) else (variorumlaw12_SetterKeeps.j0 k l0 l1 a2 true))
theorem variorumlaw12_SetterKeeps.mono_l : ∀ k, (∀ y0 y1 y2 y3, LeO (variorumlaw12_SetterKeeps.j0 k y0 y1 y2 y3) (variorumlaw12_SetterKeeps.j0 (k + 1) y0 y1 y2 y3)) ∧ (∀ y0 y1 y2 y3 y4, LeO (variorumlaw12_SetterKeeps.j1 k y0 y1 y2 y3 y4) (variorumlaw12_SetterKeeps.j1 (k + 1) y0 y1 y2 y3 y4)) ∧ (∀ y0 y1 y2 y3 y4, LeO (variorumlaw12_SetterKeeps.l0 k y0 y1 y2 y3 y4) (variorumlaw12_SetterKeeps.l0 (k + 1) y0 y1 y2 y3 y4)) ∧ (∀ y0 y1 y2, LeO (variorumlaw12_SetterKeeps.l1 k y0 y1 y2) (variorumlaw12_SetterKeeps.l1 (k + 1) y0 y1 y2)) ∧ (∀ y0 y1 y2 y3 y4 y5 y6 y7 y8 y9 y10, LeO (variorumlaw12_SetterKeeps.l2 k y0 y1 y2 y3 y4 y5 y6 y7 y8 y9 y10) (variorumlaw12_SetterKeeps.l2 (k + 1) y0 y1 y2 y3 y4 y5 y6 y7 y8 y9 y10))
 | 0 => ⟨fun _ _ _ _ r h => by simp [variorumlaw12_SetterKeeps.j0] at h, fun _ _ _ _ _ r h => by simp [variorumlaw12_SetterKeeps.j1] at h, fun _ _ _ _ _ r h => by simp [variorumlaw12_SetterKeeps.l0] at h, fun _ _ _ r h => by simp [variorumlaw12_SetterKeeps.l1] at h, fun _ _ _ _ _ _ _ _ _ _ _ r h => by simp [variorumlaw12_SetterKeeps.l2] at h⟩
 | k + 1 => by
  obtain ⟨ih0, ih1, ih2, ih3, ih4⟩ := variorumlaw12_SetterKeeps.mono_l k
  refine ⟨?_, ?_, ?_, ?_, ?_⟩
  ·intro y0 y1 y2 y3
   unfold variorumlaw12_SetterKeeps.j0
   repeat' first
   | (with_reducible exact ih0 _ _ _ _)
   | (with_reducible exact ih1 _ _ _ _ _)
   | (with_reducible exact ih2 _ _ _ _ _)
   | (with_reducible exact ih3 _ _ _)
   | (with_reducible exact ih4 _ _ _ _ _ _ _ _ _ _ _)
   | (with_reducible exact setter_Lines.mono _ _ _ _)
   | (with_reducible exact setter_Words.mono _ _)
   | (with_reducible exact variorumlaw12_fixed.mono _)
   | (with_reducible exact variorumref09_Boxes.mono _ _)
   | (with_reducible exact LeO.refl _)
   | (with_reducible exact LeO.none _)
   | (with_reducible refine LeO.ite ?_ ?_)
   | (with_reducible refine LeO.bind ?_ (fun _ => ?_))
   | exact ih0 _ _ _ _
   | exact ih1 _ _ _ _ _
   | exact ih2 _ _ _ _ _
   | exact ih3 _ _ _
   | exact ih4 _ _ _ _ _ _ _ _ _ _ _
   | exact setter_Lines.mono _ _ _ _
   | exact setter_Words.mono _ _
   | exact variorumlaw12_fixed.mono _
   | exact variorumref09_Boxes.mono _ _
   | exact LeO.none _
   | refine LeO.ite ?_ ?_
   | refine LeO.bind ?_ (fun _ => ?_)
  ·intro y0 y1 y2 y3 y4
   unfold variorumlaw12_SetterKeeps.j1
   repeat' first
   | (with_reducible exact ih0 _ _ _ _)
   | (with_reducible exact ih1 _ _ _ _ _)
   | (with_reducible exact ih2 _ _ _ _ _)
   | (with_reducible exact ih3 _ _ _)
   | (with_reducible exact ih4 _ _ _ _ _ _ _ _ _ _ _)
   | (with_reducible exact setter_Lines.mono _ _ _ _)
   | (with_reducible exact setter_Words.mono _ _)
   | (with_reducible exact variorumlaw12_fixed.mono _)
   | (with_reducible exact variorumref09_Boxes.mono _ _)
   | (with_reducible exact LeO.refl _)
   | (with_reducible exact LeO.none _)
   | (with_reducible refine LeO.ite ?_ ?_)
   | (with_reducible refine LeO.bind ?_ (fun _ => ?_))
   | exact ih0 _ _ _ _
   | exact ih1 _ _ _ _ _
   | exact ih2 _ _ _ _ _
   | exact ih3 _ _ _
   | exact ih4 _ _ _ _ _ _ _ _ _ _ _
   | exact setter_Lines.mono _ _ _ _
   | exact setter_Words.mono _ _
   | exact variorumlaw12_fixed.mono _
   | exact variorumref09_Boxes.mono _ _
   | exact LeO.none _
   | refine LeO.ite ?_ ?_
   | refine LeO.bind ?_ (fun _ => ?_)
  ·intro y0 y1 y2 y3 y4
   unfold variorumlaw12_SetterKeeps.l0
   repeat' first
   | (with_reducible exact ih0 _ _ _ _)
   | (with_reducible exact ih1 _ _ _ _ _)
   | (with_reducible exact ih2 _ _ _ _ _)
   | (with_reducible exact ih3 _ _ _)
   | (with_reducible exact ih4 _ _ _ _ _ _ _ _ _ _ _)
   | (with_reducible exact setter_Lines.mono _ _ _ _)
   | (with_reducible exact setter_Words.mono _ _)
   | (with_reducible exact variorumlaw12_fixed.mono _)
   | (with_reducible exact variorumref09_Boxes.mono _ _)
   | (with_reducible exact LeO.refl _)
   | (with_reducible exact LeO.none _)
   | (with_reducible refine LeO.ite ?_ ?_)
   | (with_reducible refine LeO.bind ?_ (fun _ => ?_))
   | exact ih0 _ _ _ _
   | exact ih1 _ _ _ _ _
   | exact ih2 _ _ _ _ _
   | exact ih3 _ _ _
   | exact ih4 _ _ _ _ _ _ _ _ _ _ _
   | exact setter_Lines.mono _ _ _ _
   | exact setter_Words.mono _ _
   | exact variorumlaw12_fixed.mono _
   | exact variorumref09_Boxes.mono _ _
   | exact LeO.none _
   | refine LeO.ite ?_ ?_
   | refine LeO.bind ?_ (fun _ => ?_)
  ·intro y0 y1 y2
   unfold variorumlaw12_SetterKeeps.l1
   repeat' first
   | (with_reducible exact ih0 _ _ _ _)
   | (with_reducible exact ih1 _ _ _ _ _)
   | (with_reducible exact ih2 _ _ _ _ _)
   | (with_reducible exact ih3 _ _ _)
   | (with_reducible exact ih4 _ _ _ _ _ _ _ _ _ _ _)
   | (with_reducible exact setter_Lines.mono _ _ _ _)
   | (with_reducible exact setter_Words.mono _ _)
   | (with_reducible exact variorumlaw12_fixed.mono _)
   | (with_reducible exact variorumref09_Boxes.mono _ _)
   | (with_reducible exact LeO.refl _)
   | (with_reducible exact LeO.none _)
   | (with_reducible refine LeO.ite ?_ ?_)
   | (with_reducible refine LeO.bind ?_ (fun _ => ?_))
   | exact ih0 _ _ _ _
   | exact ih1 _ _ _ _ _
   | exact ih2 _ _ _ _ _
   | exact ih3 _ _ _
   | exact ih4 _ _ _ _ _ _ _ _ _ _ _
   | exact setter_Lines.mono _ _ _ _
   | exact setter_Words.mono _ _
   | exact variorumlaw12_fixed.mono _
   | exact variorumref09_Boxes.mono _ _
   | exact LeO.none _
   | refine LeO.ite ?_ ?_
   | refine LeO.bind ?_ (fun _ => ?_)
  ·intro y0 y1 y2 y3 y4 y5 y6 y7 y8 y9 y10
   unfold variorumlaw12_SetterKeeps.l2
   repeat' first
   | (with_reducible exact ih0 _ _ _ _)
   | (with_reducible exact ih1 _ _ _ _ _)
   | (with_reducible exact ih2 _ _ _ _ _)
   | (with_reducible exact ih3 _ _ _)
   | (with_reducible exact ih4 _ _ _ _ _ _ _ _ _ _ _)
   | (with_reducible exact setter_Lines.mono _ _ _ _)
   | (with_reducible exact setter_Words.mono _ _)
   | (with_reducible exact variorumlaw12_fixed.mono _)
   | (with_reducible exact variorumref09_Boxes.mono _ _)
   | (with_reducible exact LeO.refl _)
   | (with_reducible exact LeO.none _)
   | (with_reducible refine LeO.ite ?_ ?_)
   | (with_reducible refine LeO.bind ?_ (fun _ => ?_))
   | exact ih0 _ _ _ _
   | exact ih1 _ _ _ _ _
   | exact ih2 _ _ _ _ _
   | exact ih3 _ _ _
   | exact ih4 _ _ _ _ _ _ _ _ _ _ _
   | exact setter_Lines.mono _ _ _ _
   | exact setter_Words.mono _ _
   | exact variorumlaw12_fixed.mono _
   | exact variorumref09_Boxes.mono _ _
   | exact LeO.none _
   | refine LeO.ite ?_ ?_
   | refine LeO.bind ?_ (fun _ => ?_)
theorem variorumlaw12_SetterKeeps.mono : ∀ a0 a1 a2 k, LeO (variorumlaw12_SetterKeeps.f k a0 a1 a2) (variorumlaw12_SetterKeeps.f (k + 1) a0 a1 a2) := by
 intro a0 a1 a2 k
 obtain ⟨ih0, ih1, ih2, ih3, ih4⟩ := variorumlaw12_SetterKeeps.mono_l k
 unfold variorumlaw12_SetterKeeps.f
 repeat' first
   | (with_reducible exact ih0 _ _ _ _)
   | (with_reducible exact ih1 _ _ _ _ _)
   | (with_reducible exact ih2 _ _ _ _ _)
   | (with_reducible exact ih3 _ _ _)
   | (with_reducible exact ih4 _ _ _ _ _ _ _ _ _ _ _)
   | (with_reducible exact setter_Lines.mono _ _ _ _)
   | (with_reducible exact setter_Words.mono _ _)
   | (with_reducible exact variorumlaw12_fixed.mono _)
   | (with_reducible exact variorumref09_Boxes.mono _ _)
   | (with_reducible exact LeO.refl _)
   | (with_reducible exact LeO.none _)
   | (with_reducible refine LeO.ite ?_ ?_)
   | (with_reducible refine LeO.bind ?_ (fun _ => ?_))
   | exact ih0 _ _ _ _
   | exact ih1 _ _ _ _ _
   | exact ih2 _ _ _ _ _
   | exact ih3 _ _ _
   | exact ih4 _ _ _ _ _ _ _ _ _ _ _
   | exact setter_Lines.mono _ _ _ _
   | exact setter_Words.mono _ _
   | exact variorumlaw12_fixed.mono _
   | exact variorumref09_Boxes.mono _ _
   | exact LeO.none _
   | refine LeO.ite ?_ ?_
   | refine LeO.bind ?_ (fun _ => ?_)
set_option maxHeartbeats 8000000 in
set_option maxRecDepth 100000 in
theorem variorumlaw12_SetterKeeps.calls (k : Nat) (A0 : Option Addr) (c0 : Nat) (l0 : List (S40)) (A1 : Option Addr) (c1 : Nat) (l1 : List Int) (a2 : Int) (r : Bool) (w : World) (hr0 : Kd.C k40 w A0 l0.length l0) (hc0 : l0.length ≤ c0) (hr1 : Kd.C (Kd.int .i64) w A1 l1.length l1) (hc1 : l1.length ≤ c1) (h : variorumlaw12_SetterKeeps.f k l0 l1 a2 = some r) :
  Calls Try.prog 4 #[.slice A0 l0.length c0, .slice A1 l1.length c1, .int .i64 a2] w fun e w' => e = .returned (.bool r) ∧ Below w.heap.size w w' := by
 have hu28 := Try.underlying28
 have hu44 := Try.underlying44
 have HR0 := Aside0.mk hr0
 have HC0 := Aside0.mk hc0
 clear hr0 hc0
 have HR1 := Aside0.mk hr1
 have HC1 := Aside0.mk hc1
 clear hr1 hc1
 have HB := Aside0.mk (Below.refl w.heap.size w)
 have H : ((variorumlaw12_fixed.f k).bind fun t310 => (if t310 = true then (if (l0.length : Int) > 300 then (variorumlaw12_SetterKeeps.j0 k l0 l1 a2 true) else (variorumlaw12_SetterKeeps.j0 k l0 l1 a2 (decide ((l1.length : Int) > 100)))) else (variorumlaw12_SetterKeeps.j0 k l0 l1 a2 true))) = some r := h
 clear h
 have HC4 := Aside0.mk H
 clear H
 go_enter Try.func4, Try.ntmps4
 go_upto_region 1 with (fail)
 repeat (go_quiet (fail); go_upto_region 1 with (fail))
 go_cut [27] (fun v27 wc => ∃ (kq : Nat) (x27_3 : Bool), v27 = .bool x27_3 ∧ Aside0 (variorumlaw12_SetterKeeps.j0 kq l0 l1 a2 x27_3 = some r) ∧ Aside0 (kq ≤ k) ∧ Aside0 (Below w.heap.size w wc))
 case first =>
  have H := HC4.out
  clear HC4
  replace H := Option.bind_eq_some_iff.mp H
  obtain ⟨t310, A50, H⟩ := H
  replace H : (if t310 = true then (if (l0.length : Int) > 300 then (variorumlaw12_SetterKeeps.j0 k l0 l1 a2 true) else (variorumlaw12_SetterKeeps.j0 k l0 l1 a2 (decide ((l1.length : Int) > 100)))) else (variorumlaw12_SetterKeeps.j0 k l0 l1 a2 true)) = some r := H
  have A5 := Aside0.mk A50
  clear A50
  by_cases c6 : t310 = true
  ·subst c6
   have H1 : (if (l0.length : Int) > 300 then (variorumlaw12_SetterKeeps.j0 k l0 l1 a2 true) else (variorumlaw12_SetterKeeps.j0 k l0 l1 a2 (decide ((l1.length : Int) > 100)))) = some r := by rw [if_pos rfl] at H; exact H
   clear H
   have H := H1
   clear H1
   by_cases c7 : (l0.length : Int) > 300
   ·rw [if_pos c7] at H
    have c7b0 : decide (300 < (l0.length : Int)) = true := decide_eq_true c7
    have c7b1 : decide (300 < l0.length) = true := decide_eq_true (by omega)
    clear c7
    (first | rw [c7b0] | (simp only [i64_w, i32_w]; rw [c7b0]) | skip)
    have H' := Aside0.mk H
    clear H
    go_wp2_with (first | (go_at_call 7; (with_reducible refine (variorumlaw12_fixed.calls k  true _ A5.out).mono ?_); rintro e w8 ⟨rfl, hb⟩; have n0_ := Aside0.mk (bs_ HB.out hb); clear HB; have HB := n0_; clear n0_; (try clear hb); (try clear hb2); (try clear hk); (try clear hi)))
    repeat (go_quiet (first | (go_at_call 7; (with_reducible refine (variorumlaw12_fixed.calls k  true _ A5.out).mono ?_); rintro e w8 ⟨rfl, hb⟩; have n0_ := Aside0.mk (bs_ HB.out hb); clear HB; have HB := n0_; clear n0_; (try clear hb); (try clear hb2); (try clear hk); (try clear hi))); try go_wp2_with (first | (go_at_call 7; (with_reducible refine (variorumlaw12_fixed.calls k  true _ A5.out).mono ?_); rintro e w8 ⟨rfl, hb⟩; have n0_ := Aside0.mk (bs_ HB.out hb); clear HB; have HB := n0_; clear n0_; (try clear hb); (try clear hb2); (try clear hk); (try clear hi))))
    go_meet
    case rel => exact ⟨_, (true), (by first | rfl | (simp; done) | (simp [*]; done)), H', ⟨by first | omega | exact Nat.le_refl _⟩, ⟨bv_ HB.out⟩⟩
   ·rw [if_neg c7] at H
    have c7b0 : decide (300 < (l0.length : Int)) = false := decide_eq_false c7
    have c7b1 : decide (300 < l0.length) = false := decide_eq_false (by omega)
    clear c7
    (first | rw [c7b0] | (simp only [i64_w, i32_w]; rw [c7b0]) | skip)
    have H' := Aside0.mk H
    clear H
    go_wp2_with (first | (go_at_call 7; (with_reducible refine (variorumlaw12_fixed.calls k  true _ A5.out).mono ?_); rintro e w9 ⟨rfl, hb⟩; have n0_ := Aside0.mk (bs_ HB.out hb); clear HB; have HB := n0_; clear n0_; (try clear hb); (try clear hb2); (try clear hk); (try clear hi)))
    repeat (go_quiet (first | (go_at_call 7; (with_reducible refine (variorumlaw12_fixed.calls k  true _ A5.out).mono ?_); rintro e w9 ⟨rfl, hb⟩; have n0_ := Aside0.mk (bs_ HB.out hb); clear HB; have HB := n0_; clear n0_; (try clear hb); (try clear hb2); (try clear hk); (try clear hi))); try go_wp2_with (first | (go_at_call 7; (with_reducible refine (variorumlaw12_fixed.calls k  true _ A5.out).mono ?_); rintro e w9 ⟨rfl, hb⟩; have n0_ := Aside0.mk (bs_ HB.out hb); clear HB; have HB := n0_; clear n0_; (try clear hb); (try clear hb2); (try clear hk); (try clear hi))))
    go_meet
    case rel => exact ⟨_, (decide ((l1.length : Int) > 100)), (by first | rfl | (simp; done) | (simp [*]; done)), H', ⟨by first | omega | exact Nat.le_refl _⟩, ⟨bv_ HB.out⟩⟩
  ·replace c6 := Bool.eq_false_iff.mpr c6
   subst c6
   have H1 : (variorumlaw12_SetterKeeps.j0 k l0 l1 a2 true) = some r := by rw [if_neg (show ¬ (false = true) by decide)] at H; exact H
   clear H
   have H := H1
   clear H1
   have H' := Aside0.mk H
   clear H
   go_wp2_with (first | (go_at_call 7; (with_reducible refine (variorumlaw12_fixed.calls k  false _ A5.out).mono ?_); rintro e w10 ⟨rfl, hb⟩; have n0_ := Aside0.mk (bs_ HB.out hb); clear HB; have HB := n0_; clear n0_; (try clear hb); (try clear hb2); (try clear hk); (try clear hi)))
   repeat (go_quiet (first | (go_at_call 7; (with_reducible refine (variorumlaw12_fixed.calls k  false _ A5.out).mono ?_); rintro e w10 ⟨rfl, hb⟩; have n0_ := Aside0.mk (bs_ HB.out hb); clear HB; have HB := n0_; clear n0_; (try clear hb); (try clear hb2); (try clear hk); (try clear hi))); try go_wp2_with (first | (go_at_call 7; (with_reducible refine (variorumlaw12_fixed.calls k  false _ A5.out).mono ?_); rintro e w10 ⟨rfl, hb⟩; have n0_ := Aside0.mk (bs_ HB.out hb); clear HB; have HB := n0_; clear n0_; (try clear hb); (try clear hb2); (try clear hk); (try clear hi))))
   go_meet
   case rel => exact ⟨_, (true), (by first | rfl | (simp; done) | (simp [*]; done)), H', ⟨by first | omega | exact Nat.le_refl _⟩, ⟨bv_ HB.out⟩⟩
 case rest =>
  clear HC4
  try clear c1
  try clear p2
  try clear c4
  try clear c6
  try clear c7
  try clear c7b0
  try clear c7b1
  obtain ⟨kq, x27_3, rfl, HA, HJ3, HB⟩ := hcut
  cases kq with
  | zero => exact absurd HA.out (by simp [variorumlaw12_SetterKeeps.j0])
  | succ kj3 =>
   have H := HA.out
   clear HA
   simp only [variorumlaw12_SetterKeeps.j0] at H
   by_cases c11 : x27_3 = true
   ·subst c11
    have H1 : ((variorumlaw12_fixed.f kj3).bind fun t311 => (some t311)) = some r := by rw [if_pos rfl] at H; exact H
    clear H
    have H := H1
    clear H1
    replace H := Option.bind_eq_some_iff.mp H
    obtain ⟨t311, A120, H⟩ := H
    replace H : (some t311) = some r := H
    have A12 := Aside0.mk A120
    clear A120
    obtain rfl := Option.some.inj H
    go_wp2_with (first | (go_at_call 7; (with_reducible refine (variorumlaw12_fixed.calls kj3  t311 _ A12.out).mono ?_); rintro e w13 ⟨rfl, hb⟩; have n0_ := Aside0.mk (bs_ HB.out hb); clear HB; have HB := n0_; clear n0_; (try clear hb); (try clear hb2); (try clear hk); (try clear hi)))
    repeat (go_quiet (first | (go_at_call 7; (with_reducible refine (variorumlaw12_fixed.calls kj3  t311 _ A12.out).mono ?_); rintro e w13 ⟨rfl, hb⟩; have n0_ := Aside0.mk (bs_ HB.out hb); clear HB; have HB := n0_; clear n0_; (try clear hb); (try clear hb2); (try clear hk); (try clear hi))); try go_wp2_with (first | (go_at_call 7; (with_reducible refine (variorumlaw12_fixed.calls kj3  t311 _ A12.out).mono ?_); rintro e w13 ⟨rfl, hb⟩; have n0_ := Aside0.mk (bs_ HB.out hb); clear HB; have HB := n0_; clear n0_; (try clear hb); (try clear hb2); (try clear hk); (try clear hi))))
    go_ret
    exact ⟨by first | rfl | (simp [errW_none, errW_some] <;> rfl) | (simp [*, errW_none, errW_some] <;> rfl), bv_ HB.out⟩
   ·replace c11 := Bool.eq_false_iff.mpr c11
    subst c11
    have H1 : ((setter_Lines.f kj3 l0 l1 a2).bind fun bt312 => (if bt312.2.1 = 0 then ((variorumref09_Boxes.f kj3 l0).bind fun t318 => ((setter_Words.f kj3 bt312.1).bind fun t321 => (if (t318.length : Int) = (t321.length : Int) then (variorumlaw12_SetterKeeps.j1 kj3 l1 bt312.1 t318 t321 ((bt312.1.length : Int) != (l1.length : Int))) else (variorumlaw12_SetterKeeps.j1 kj3 l1 bt312.1 t318 t321 true)))) else (some ((bt312.1.length : Int) == 0)))) = some r := by rw [if_neg (show ¬ (false = true) by decide)] at H; exact H
    clear H
    have H := H1
    clear H1
    replace H := Option.bind_eq_some_iff.mp H
    obtain ⟨⟨t312, t315, t316⟩, A140, H⟩ := H
    replace H : (if t315 = 0 then ((variorumref09_Boxes.f kj3 l0).bind fun t318 => ((setter_Words.f kj3 t312).bind fun t321 => (if (t318.length : Int) = (t321.length : Int) then (variorumlaw12_SetterKeeps.j1 kj3 l1 t312 t318 t321 ((t312.length : Int) != (l1.length : Int))) else (variorumlaw12_SetterKeeps.j1 kj3 l1 t312 t318 t321 true)))) else (some ((t312.length : Int) == 0))) = some r := H
    have A14 := Aside0.mk A140
    clear A140
    by_cases c15 : t315 = 0
    ·rw [if_pos c15] at H
     have c15b0 : (t315 == 0) = true := beq_iff_eq.mpr c15
     have c15b1 : (t315 != 0) = false := bne_eq_false_iff_eq.mpr c15
     clear c15
     replace H := Option.bind_eq_some_iff.mp H
     obtain ⟨t318, A160, H⟩ := H
     replace H : ((setter_Words.f kj3 t312).bind fun t321 => (if (t318.length : Int) = (t321.length : Int) then (variorumlaw12_SetterKeeps.j1 kj3 l1 t312 t318 t321 ((t312.length : Int) != (l1.length : Int))) else (variorumlaw12_SetterKeeps.j1 kj3 l1 t312 t318 t321 true))) = some r := H
     have A16 := Aside0.mk A160
     clear A160
     replace H := Option.bind_eq_some_iff.mp H
     obtain ⟨t321, A170, H⟩ := H
     replace H : (if (t318.length : Int) = (t321.length : Int) then (variorumlaw12_SetterKeeps.j1 kj3 l1 t312 t318 t321 ((t312.length : Int) != (l1.length : Int))) else (variorumlaw12_SetterKeeps.j1 kj3 l1 t312 t318 t321 true)) = some r := H
     have A17 := Aside0.mk A170
     clear A170
     have HC18 := Aside0.mk H
     clear H
     go_upto_region 7 with (first | (go_at_call 8; (with_reducible refine (setter_Lines.calls kj3 _ _ l0 _ _ l1 a2 t312 t315 t316 _ ?side1 ?side2 ?side3 ?side4 A14.out).mono ?_); (case side1 => repeat (first | exact (Kd.C_below HR0.out HB.out) | (with_reducible refine Kd.C_alloc ?_ _) | (with_reducible refine Kd.C_drewN ?_ _) | (with_reducible refine Kd.C_drew ?_))); (case side2 => exact HC0.out); (case side3 => repeat (first | exact (Kd.C_below HR1.out HB.out) | (with_reducible refine Kd.C_alloc ?_ _) | (with_reducible refine Kd.C_drewN ?_ _) | (with_reducible refine Kd.C_drew ?_))); (case side4 => exact HC1.out); rintro e w19 ⟨v313, rfl, ho0, hb⟩; have n0_ := Aside0.mk (Kd.S_lower ho0 (below_size (bv_ HB.out))); have n1_ := Aside0.mk (bs_ HB.out hb); clear HB; have HO314 := n0_; have HB := n1_; clear n0_ n1_; (try clear hb); (try clear hb2); (try clear hk); (try clear hi); (try clear ho0)) | ((with_reducible refine gate_dst (N := 8) rfl ?_); (try (refine gate_guard (by rfl) ?_; dsimp only)); refine box_event ?hg (N := 8) ?hd (cs := #[.int .i64 0, .int .i64 0]) (t := 28) ?hr ?_; (case hd => rfl); (case hg => rfl); (case hr => first | (go_simp; done) | (go_simp; rfl)); intro gb317 hg w20 hbox hb; have n0_ := Aside0.mk (Kd.S_below (sv_ HO314.out) hb); have n1_ := Aside0.mk (bs_ HB.out hb); have n2_ := Aside0.mk (hbox); have n3_ := Aside0.mk ((by rw [hg]; exact (below_size (bv_ HB.out)) : w.heap.size ≤ gb317)); have n4_ := Aside0.mk ((by rw [hg]; exact (below_size (bv_ HB.out)) : w.heap.size ≤ gb317)); clear HO314; clear HB; have HO314 := n0_; have HB := n1_; have BK317 := n2_; have GW317 := n3_; have GE317 := n4_; clear n0_ n1_ n2_ n3_ n4_; clear hb hbox hg; have hcz21_0 : w20.cell? ⟨gb317, 0, none⟩ = some (.int .i64 0) := (blk_cell BK317.out 0).trans rfl; have hcz21_1 : w20.cell? ⟨gb317, 1, none⟩ = some (.int .i64 0) := (blk_cell BK317.out 1).trans rfl; have hfz21_0 := blk_frozen BK317.out 0; have hfz21_1 := blk_frozen BK317.out 1) | (go_at_call 14; (with_reducible refine (variorumref09_Boxes.calls kj3 _ _ l0 t318 _ ?side1 ?side2 A16.out).mono ?_); (case side1 => exact Kd.C_below HR0.out (by repeat (first | (with_reducible first | exact HB.out | apply below_alloc | apply pw_below_drewN | apply below_drew1 | refine below_set ?_ GE317.out) | exact HB.out))); (case side2 => exact HC0.out); rintro e w22 ⟨v319, rfl, ho0, hb⟩; have n0_ := Aside0.mk (Kd.S_below (by (with_reducible repeat (first | apply Kd.S_alloc | apply Kd.S_drewN | apply Kd.S_drew)); exact (Kd.S_mono (Kd.S_far (p := ⟨gb317, 1, none⟩) (Kd.S_far (p := ⟨gb317, 0, none⟩) (Kd.S_types HO314.out BK317.out (by decide)) (fun _ hk => hk.2) (.int .i64 t315)) (fun _ hk => hk.2) (.int .i64 t316)) (fun _ h_ => h_.1))) hb); have n1_ := Aside0.mk (Kd.R_lower ho0 (below_size (by repeat (first | (with_reducible first | exact HB.out | apply below_alloc | apply pw_below_drewN | apply below_drew1 | refine below_set ?_ GE317.out) | exact HB.out)))); have n2_ := Aside0.mk (blk_below (g := gb317) (o := .cells #[.int .i64 t315, .int .i64 t316] 28 (0, 0)) (by (with_reducible repeat (first | refine blk_drewN ?_ _ | refine blk_drew ?_ | refine blk_alloc ?_ _)); refine blk_put (cs := #[.int .i64 t315, .int .i64 0]) ?_ 1 _ rfl; (with_reducible repeat (first | refine blk_drewN ?_ _ | refine blk_drew ?_ | refine blk_alloc ?_ _)); refine blk_put (cs := #[.int .i64 0, .int .i64 0]) ?_ 0 _ rfl; (with_reducible repeat (first | refine blk_drewN ?_ _ | refine blk_drew ?_ | refine blk_alloc ?_ _)); exact BK317.out) hb); have n3_ := Aside0.mk (below_step (by repeat (first | (with_reducible first | exact HB.out | apply below_alloc | apply pw_below_drewN | apply below_drew1 | refine below_set ?_ GE317.out) | exact HB.out)) hb); clear HO314; clear BK317; clear HB; have HO314 := n0_; have HO320 := n1_; have BK317 := n2_; have HB := n3_; clear n0_ n1_ n2_ n3_; (try clear hb); (try clear hb2); (try clear hk); (try clear hi); (try clear ho0); obtain ⟨Ao23, co23, eo23⟩ := Kd.S_slice HO314.out; subst eo23) | (go_at_call 12; (with_reducible refine (setter_Words.calls kj3 _ _ t312 t321 _ ?side1 ?side2 A17.out).mono ?_); (case side1 => repeat (first | exact (Kd.S_reads' HO314.out).2.2 | (with_reducible refine Kd.C_alloc ?_ _) | (with_reducible refine Kd.C_drewN ?_ _) | (with_reducible refine Kd.C_drew ?_))); (case side2 => exact (Kd.S_reads' HO314.out).2.1); rintro e w24 ⟨v322, rfl, ho0, hb⟩; have n0_ := Aside0.mk (Kd.S_elder' (sv_ HO314.out) (Kd.R_base ho0) hb); have n1_ := Aside0.mk (Kd.R_below (rv_ HO320.out) hb); have n2_ := Aside0.mk (Kd.R_lower ho0 (below_size (by repeat (first | (with_reducible first | exact HB.out | apply below_alloc | apply pw_below_drewN | apply below_drew1 | refine below_set ?_ GE317.out) | exact HB.out)))); have n3_ := Aside0.mk (kb_ BK317.out hb); have n4_ := Aside0.mk (below_step (by repeat (first | (with_reducible first | exact HB.out | apply below_alloc | apply pw_below_drewN | apply below_drew1 | refine below_set ?_ GE317.out) | exact HB.out)) hb); clear HO314; clear HO320; clear BK317; clear HB; have HO314 := n0_; have HO320 := n1_; have HO323 := n2_; have BK317 := n3_; have HB := n4_; clear n0_ n1_ n2_ n3_ n4_; (try clear hb); (try clear hb2); (try clear hk); (try clear hi); (try clear ho0)))
     repeat (go_quiet (first | (go_at_call 8; (with_reducible refine (setter_Lines.calls kj3 _ _ l0 _ _ l1 a2 t312 t315 t316 _ ?side1 ?side2 ?side3 ?side4 A14.out).mono ?_); (case side1 => repeat (first | exact (Kd.C_below HR0.out HB.out) | (with_reducible refine Kd.C_alloc ?_ _) | (with_reducible refine Kd.C_drewN ?_ _) | (with_reducible refine Kd.C_drew ?_))); (case side2 => exact HC0.out); (case side3 => repeat (first | exact (Kd.C_below HR1.out HB.out) | (with_reducible refine Kd.C_alloc ?_ _) | (with_reducible refine Kd.C_drewN ?_ _) | (with_reducible refine Kd.C_drew ?_))); (case side4 => exact HC1.out); rintro e w19 ⟨v313, rfl, ho0, hb⟩; have n0_ := Aside0.mk (Kd.S_lower ho0 (below_size (bv_ HB.out))); have n1_ := Aside0.mk (bs_ HB.out hb); clear HB; have HO314 := n0_; have HB := n1_; clear n0_ n1_; (try clear hb); (try clear hb2); (try clear hk); (try clear hi); (try clear ho0)) | ((with_reducible refine gate_dst (N := 8) rfl ?_); (try (refine gate_guard (by rfl) ?_; dsimp only)); refine box_event ?hg (N := 8) ?hd (cs := #[.int .i64 0, .int .i64 0]) (t := 28) ?hr ?_; (case hd => rfl); (case hg => rfl); (case hr => first | (go_simp; done) | (go_simp; rfl)); intro gb317 hg w20 hbox hb; have n0_ := Aside0.mk (Kd.S_below (sv_ HO314.out) hb); have n1_ := Aside0.mk (bs_ HB.out hb); have n2_ := Aside0.mk (hbox); have n3_ := Aside0.mk ((by rw [hg]; exact (below_size (bv_ HB.out)) : w.heap.size ≤ gb317)); have n4_ := Aside0.mk ((by rw [hg]; exact (below_size (bv_ HB.out)) : w.heap.size ≤ gb317)); clear HO314; clear HB; have HO314 := n0_; have HB := n1_; have BK317 := n2_; have GW317 := n3_; have GE317 := n4_; clear n0_ n1_ n2_ n3_ n4_; clear hb hbox hg; have hcz21_0 : w20.cell? ⟨gb317, 0, none⟩ = some (.int .i64 0) := (blk_cell BK317.out 0).trans rfl; have hcz21_1 : w20.cell? ⟨gb317, 1, none⟩ = some (.int .i64 0) := (blk_cell BK317.out 1).trans rfl; have hfz21_0 := blk_frozen BK317.out 0; have hfz21_1 := blk_frozen BK317.out 1) | (go_at_call 14; (with_reducible refine (variorumref09_Boxes.calls kj3 _ _ l0 t318 _ ?side1 ?side2 A16.out).mono ?_); (case side1 => exact Kd.C_below HR0.out (by repeat (first | (with_reducible first | exact HB.out | apply below_alloc | apply pw_below_drewN | apply below_drew1 | refine below_set ?_ GE317.out) | exact HB.out))); (case side2 => exact HC0.out); rintro e w22 ⟨v319, rfl, ho0, hb⟩; have n0_ := Aside0.mk (Kd.S_below (by (with_reducible repeat (first | apply Kd.S_alloc | apply Kd.S_drewN | apply Kd.S_drew)); exact (Kd.S_mono (Kd.S_far (p := ⟨gb317, 1, none⟩) (Kd.S_far (p := ⟨gb317, 0, none⟩) (Kd.S_types HO314.out BK317.out (by decide)) (fun _ hk => hk.2) (.int .i64 t315)) (fun _ hk => hk.2) (.int .i64 t316)) (fun _ h_ => h_.1))) hb); have n1_ := Aside0.mk (Kd.R_lower ho0 (below_size (by repeat (first | (with_reducible first | exact HB.out | apply below_alloc | apply pw_below_drewN | apply below_drew1 | refine below_set ?_ GE317.out) | exact HB.out)))); have n2_ := Aside0.mk (blk_below (g := gb317) (o := .cells #[.int .i64 t315, .int .i64 t316] 28 (0, 0)) (by (with_reducible repeat (first | refine blk_drewN ?_ _ | refine blk_drew ?_ | refine blk_alloc ?_ _)); refine blk_put (cs := #[.int .i64 t315, .int .i64 0]) ?_ 1 _ rfl; (with_reducible repeat (first | refine blk_drewN ?_ _ | refine blk_drew ?_ | refine blk_alloc ?_ _)); refine blk_put (cs := #[.int .i64 0, .int .i64 0]) ?_ 0 _ rfl; (with_reducible repeat (first | refine blk_drewN ?_ _ | refine blk_drew ?_ | refine blk_alloc ?_ _)); exact BK317.out) hb); have n3_ := Aside0.mk (below_step (by repeat (first | (with_reducible first | exact HB.out | apply below_alloc | apply pw_below_drewN | apply below_drew1 | refine below_set ?_ GE317.out) | exact HB.out)) hb); clear HO314; clear BK317; clear HB; have HO314 := n0_; have HO320 := n1_; have BK317 := n2_; have HB := n3_; clear n0_ n1_ n2_ n3_; (try clear hb); (try clear hb2); (try clear hk); (try clear hi); (try clear ho0); obtain ⟨Ao23, co23, eo23⟩ := Kd.S_slice HO314.out; subst eo23) | (go_at_call 12; (with_reducible refine (setter_Words.calls kj3 _ _ t312 t321 _ ?side1 ?side2 A17.out).mono ?_); (case side1 => repeat (first | exact (Kd.S_reads' HO314.out).2.2 | (with_reducible refine Kd.C_alloc ?_ _) | (with_reducible refine Kd.C_drewN ?_ _) | (with_reducible refine Kd.C_drew ?_))); (case side2 => exact (Kd.S_reads' HO314.out).2.1); rintro e w24 ⟨v322, rfl, ho0, hb⟩; have n0_ := Aside0.mk (Kd.S_elder' (sv_ HO314.out) (Kd.R_base ho0) hb); have n1_ := Aside0.mk (Kd.R_below (rv_ HO320.out) hb); have n2_ := Aside0.mk (Kd.R_lower ho0 (below_size (by repeat (first | (with_reducible first | exact HB.out | apply below_alloc | apply pw_below_drewN | apply below_drew1 | refine below_set ?_ GE317.out) | exact HB.out)))); have n3_ := Aside0.mk (kb_ BK317.out hb); have n4_ := Aside0.mk (below_step (by repeat (first | (with_reducible first | exact HB.out | apply below_alloc | apply pw_below_drewN | apply below_drew1 | refine below_set ?_ GE317.out) | exact HB.out)) hb); clear HO314; clear HO320; clear BK317; clear HB; have HO314 := n0_; have HO320 := n1_; have HO323 := n2_; have BK317 := n3_; have HB := n4_; clear n0_ n1_ n2_ n3_ n4_; (try clear hb); (try clear hb2); (try clear hk); (try clear hi); (try clear ho0))); go_upto_region 7 with (first | (go_at_call 8; (with_reducible refine (setter_Lines.calls kj3 _ _ l0 _ _ l1 a2 t312 t315 t316 _ ?side1 ?side2 ?side3 ?side4 A14.out).mono ?_); (case side1 => repeat (first | exact (Kd.C_below HR0.out HB.out) | (with_reducible refine Kd.C_alloc ?_ _) | (with_reducible refine Kd.C_drewN ?_ _) | (with_reducible refine Kd.C_drew ?_))); (case side2 => exact HC0.out); (case side3 => repeat (first | exact (Kd.C_below HR1.out HB.out) | (with_reducible refine Kd.C_alloc ?_ _) | (with_reducible refine Kd.C_drewN ?_ _) | (with_reducible refine Kd.C_drew ?_))); (case side4 => exact HC1.out); rintro e w19 ⟨v313, rfl, ho0, hb⟩; have n0_ := Aside0.mk (Kd.S_lower ho0 (below_size (bv_ HB.out))); have n1_ := Aside0.mk (bs_ HB.out hb); clear HB; have HO314 := n0_; have HB := n1_; clear n0_ n1_; (try clear hb); (try clear hb2); (try clear hk); (try clear hi); (try clear ho0)) | ((with_reducible refine gate_dst (N := 8) rfl ?_); (try (refine gate_guard (by rfl) ?_; dsimp only)); refine box_event ?hg (N := 8) ?hd (cs := #[.int .i64 0, .int .i64 0]) (t := 28) ?hr ?_; (case hd => rfl); (case hg => rfl); (case hr => first | (go_simp; done) | (go_simp; rfl)); intro gb317 hg w20 hbox hb; have n0_ := Aside0.mk (Kd.S_below (sv_ HO314.out) hb); have n1_ := Aside0.mk (bs_ HB.out hb); have n2_ := Aside0.mk (hbox); have n3_ := Aside0.mk ((by rw [hg]; exact (below_size (bv_ HB.out)) : w.heap.size ≤ gb317)); have n4_ := Aside0.mk ((by rw [hg]; exact (below_size (bv_ HB.out)) : w.heap.size ≤ gb317)); clear HO314; clear HB; have HO314 := n0_; have HB := n1_; have BK317 := n2_; have GW317 := n3_; have GE317 := n4_; clear n0_ n1_ n2_ n3_ n4_; clear hb hbox hg; have hcz21_0 : w20.cell? ⟨gb317, 0, none⟩ = some (.int .i64 0) := (blk_cell BK317.out 0).trans rfl; have hcz21_1 : w20.cell? ⟨gb317, 1, none⟩ = some (.int .i64 0) := (blk_cell BK317.out 1).trans rfl; have hfz21_0 := blk_frozen BK317.out 0; have hfz21_1 := blk_frozen BK317.out 1) | (go_at_call 14; (with_reducible refine (variorumref09_Boxes.calls kj3 _ _ l0 t318 _ ?side1 ?side2 A16.out).mono ?_); (case side1 => exact Kd.C_below HR0.out (by repeat (first | (with_reducible first | exact HB.out | apply below_alloc | apply pw_below_drewN | apply below_drew1 | refine below_set ?_ GE317.out) | exact HB.out))); (case side2 => exact HC0.out); rintro e w22 ⟨v319, rfl, ho0, hb⟩; have n0_ := Aside0.mk (Kd.S_below (by (with_reducible repeat (first | apply Kd.S_alloc | apply Kd.S_drewN | apply Kd.S_drew)); exact (Kd.S_mono (Kd.S_far (p := ⟨gb317, 1, none⟩) (Kd.S_far (p := ⟨gb317, 0, none⟩) (Kd.S_types HO314.out BK317.out (by decide)) (fun _ hk => hk.2) (.int .i64 t315)) (fun _ hk => hk.2) (.int .i64 t316)) (fun _ h_ => h_.1))) hb); have n1_ := Aside0.mk (Kd.R_lower ho0 (below_size (by repeat (first | (with_reducible first | exact HB.out | apply below_alloc | apply pw_below_drewN | apply below_drew1 | refine below_set ?_ GE317.out) | exact HB.out)))); have n2_ := Aside0.mk (blk_below (g := gb317) (o := .cells #[.int .i64 t315, .int .i64 t316] 28 (0, 0)) (by (with_reducible repeat (first | refine blk_drewN ?_ _ | refine blk_drew ?_ | refine blk_alloc ?_ _)); refine blk_put (cs := #[.int .i64 t315, .int .i64 0]) ?_ 1 _ rfl; (with_reducible repeat (first | refine blk_drewN ?_ _ | refine blk_drew ?_ | refine blk_alloc ?_ _)); refine blk_put (cs := #[.int .i64 0, .int .i64 0]) ?_ 0 _ rfl; (with_reducible repeat (first | refine blk_drewN ?_ _ | refine blk_drew ?_ | refine blk_alloc ?_ _)); exact BK317.out) hb); have n3_ := Aside0.mk (below_step (by repeat (first | (with_reducible first | exact HB.out | apply below_alloc | apply pw_below_drewN | apply below_drew1 | refine below_set ?_ GE317.out) | exact HB.out)) hb); clear HO314; clear BK317; clear HB; have HO314 := n0_; have HO320 := n1_; have BK317 := n2_; have HB := n3_; clear n0_ n1_ n2_ n3_; (try clear hb); (try clear hb2); (try clear hk); (try clear hi); (try clear ho0); obtain ⟨Ao23, co23, eo23⟩ := Kd.S_slice HO314.out; subst eo23) | (go_at_call 12; (with_reducible refine (setter_Words.calls kj3 _ _ t312 t321 _ ?side1 ?side2 A17.out).mono ?_); (case side1 => repeat (first | exact (Kd.S_reads' HO314.out).2.2 | (with_reducible refine Kd.C_alloc ?_ _) | (with_reducible refine Kd.C_drewN ?_ _) | (with_reducible refine Kd.C_drew ?_))); (case side2 => exact (Kd.S_reads' HO314.out).2.1); rintro e w24 ⟨v322, rfl, ho0, hb⟩; have n0_ := Aside0.mk (Kd.S_elder' (sv_ HO314.out) (Kd.R_base ho0) hb); have n1_ := Aside0.mk (Kd.R_below (rv_ HO320.out) hb); have n2_ := Aside0.mk (Kd.R_lower ho0 (below_size (by repeat (first | (with_reducible first | exact HB.out | apply below_alloc | apply pw_below_drewN | apply below_drew1 | refine below_set ?_ GE317.out) | exact HB.out)))); have n3_ := Aside0.mk (kb_ BK317.out hb); have n4_ := Aside0.mk (below_step (by repeat (first | (with_reducible first | exact HB.out | apply below_alloc | apply pw_below_drewN | apply below_drew1 | refine below_set ?_ GE317.out) | exact HB.out)) hb); clear HO314; clear HO320; clear BK317; clear HB; have HO314 := n0_; have HO320 := n1_; have HO323 := n2_; have BK317 := n3_; have HB := n4_; clear n0_ n1_ n2_ n3_ n4_; (try clear hb); (try clear hb2); (try clear hk); (try clear hi); (try clear ho0))))
     (try simp only [Act.put, List.setIfInBounds_toArray, List.set_cons_zero, List.set_cons_succ])
     go_cut [57] (fun v57 wc => ∃ (kq : Nat) (x57_17 : Bool), v57 = .bool x57_17 ∧ Aside0 (variorumlaw12_SetterKeeps.j1 kq l1 t312 t318 t321 x57_17 = some r) ∧ Aside0 (kq ≤ kj3) ∧ Aside0 (Kd.S k44 44 wc w.heap.size (fun k_ => some k_ ≠ (v322 : Value).ownBlock) (.slice Ao23 t312.length co23) t312) ∧ Aside0 (Kd.R k40 40 wc w.heap.size (fun _ => True) v319 t318) ∧ Aside0 (Kd.R k42 42 wc w.heap.size (fun _ => True) v322 t321) ∧ Aside0 (wc.heap[gb317]? = some (.cells #[.int .i64 t315, .int .i64 t316] 28 (0, 0))) ∧ Aside0 (Below w.heap.size w wc))
     case first =>
      have H := HC18.out
      clear HC18
      by_cases c25 : (t318.length : Int) = (t321.length : Int)
      ·rw [if_pos c25] at H
       have c25b0 : ((t318.length : Int) == (t321.length : Int)) = true := beq_iff_eq.mpr c25
       have c25b1 : ((t318.length : Int) != (t321.length : Int)) = false := bne_eq_false_iff_eq.mpr c25
       have c25b2 : (t318.length == t321.length) = true := by first | simpa using c25 | (simp at c25 ⊢; omega)
       clear c25
       (first | rw [c25b0] | (simp only [i64_w, i32_w]; rw [c25b0]) | skip)
       have H' := Aside0.mk H
       clear H
       obtain ⟨Ao26, co26, eo26⟩ := Kd.R_slice HO320.out
       subst eo26
       obtain ⟨Ao27, co27, eo27⟩ := Kd.R_slice HO323.out
       subst eo27
       go_wp2
       repeat (go_quiet (fail); try go_wp2)
       go_meet
       case rel => exact ⟨_, (((t312.length : Int) != (l1.length : Int))), (by first | rfl | (simp; done) | (simp [*]; done)), H', ⟨by have := HJ3.out; first | omega | exact Nat.le_refl _⟩, ⟨by (with_reducible repeat (first | apply Kd.S_alloc | apply Kd.S_drewN | apply Kd.S_drew)); exact Kd.S_mono HO314.out (fun _ hk => hk.2)⟩, ⟨by (with_reducible repeat (first | apply Kd.R_alloc | apply Kd.R_drewN | apply Kd.R_drew)); exact HO320.out⟩, ⟨by (with_reducible repeat (first | apply Kd.R_alloc | apply Kd.R_drewN | apply Kd.R_drew)); exact HO323.out⟩, ⟨kv_ BK317.out⟩, ⟨by repeat (first | (with_reducible first | exact HB.out | apply below_alloc | apply pw_below_drewN | apply below_drew1 | refine below_set ?_ GE317.out) | exact HB.out)⟩⟩
      ·rw [if_neg c25] at H
       have c25b0 : ((t318.length : Int) == (t321.length : Int)) = false := beq_eq_false_iff_ne.mpr c25
       have c25b1 : ((t318.length : Int) != (t321.length : Int)) = true := bne_iff_ne.mpr c25
       have c25b2 : (t318.length == t321.length) = false := by first | simpa using c25 | (simp at c25 ⊢; omega)
       (first | rw [c25b0] | (simp only [i64_w, i32_w]; rw [c25b0]) | skip)
       have H' := Aside0.mk H
       clear H
       obtain ⟨Ao28, co28, eo28⟩ := Kd.R_slice HO320.out
       subst eo28
       obtain ⟨Ao29, co29, eo29⟩ := Kd.R_slice HO323.out
       subst eo29
       go_wp2
       repeat (go_quiet (fail); try go_wp2)
       go_meet
       case rel => exact ⟨_, (true), (by first | rfl | (simp; done) | (simp [*]; done)), H', ⟨by have := HJ3.out; first | omega | exact Nat.le_refl _⟩, ⟨by (with_reducible repeat (first | apply Kd.S_alloc | apply Kd.S_drewN | apply Kd.S_drew)); exact Kd.S_mono HO314.out (fun _ hk => hk.2)⟩, ⟨by (with_reducible repeat (first | apply Kd.R_alloc | apply Kd.R_drewN | apply Kd.R_drew)); exact HO320.out⟩, ⟨by (with_reducible repeat (first | apply Kd.R_alloc | apply Kd.R_drewN | apply Kd.R_drew)); exact HO323.out⟩, ⟨kv_ BK317.out⟩, ⟨by repeat (first | (with_reducible first | exact HB.out | apply below_alloc | apply pw_below_drewN | apply below_drew1 | refine below_set ?_ GE317.out) | exact HB.out)⟩⟩
     case rest =>
      clear HC18
      try clear c1
      try clear c2
      try clear p2
      try clear c4
      try clear c6
      try clear c7
      try clear c7b0
      try clear c7b1
      try clear c11
      try clear c15
      try clear c15b0
      try clear c15b1
      try clear c25
      try clear c25b0
      try clear c25b1
      try clear c25b2
      try clear hcz21_0
      try clear hcz21_1
      try clear hfz21_0
      try clear hfz21_1
      try clear p2
      obtain ⟨kq, x57_17, rfl, HA, HJ17, HO_7, HO_9, HO_10, BK317, HB⟩ := hcut
      cases kq with
      | zero => exact absurd HA.out (by simp [variorumlaw12_SetterKeeps.j1])
      | succ kj17 =>
       have H := HA.out
       clear HA
       simp only [variorumlaw12_SetterKeeps.j1] at H
       by_cases c30 : x57_17 = true
       ·subst c30
        have H1 : (none) = some r := by rw [if_pos rfl] at H; exact H
        clear H
        have H := H1
        clear H1
        exact absurd H (by simp)
       ·replace c30 := Bool.eq_false_iff.mpr c30
        subst c30
        have H1 : (variorumlaw12_SetterKeeps.l0 kj17 l1 t312 t318 t321 0) = some r := by rw [if_neg (show ¬ (false = true) by decide)] at H; exact H
        clear H
        have H := H1
        clear H1
        have H' := Aside0.mk H
        clear H
        go_wp2
        repeat (go_quiet (fail); try go_wp2)
        go_loopg [11] kj17 (fun kq v11 w' => ∃ (x11_3 : Int), v11 = .int .i64 x11_3 ∧ Aside0 (variorumlaw12_SetterKeeps.l0 kq l1 t312 t318 t321 x11_3 = some r) ∧ Aside0 (kq ≤ kj17) ∧ Aside0 (Kd.S k44 44 w' w.heap.size (fun k_ => some k_ ≠ (v322 : Value).ownBlock) (.slice Ao23 t312.length co23) t312) ∧ Aside0 (Kd.R k40 40 w' w.heap.size (fun _ => True) v319 t318) ∧ Aside0 (Kd.R k42 42 w' w.heap.size (fun _ => True) v322 t321) ∧ Aside0 (w'.heap[gb317]? = some (.cells #[.int .i64 t315, .int .i64 t316] 28 (0, 0))) ∧ Aside0 (Below w.heap.size w w'))
        case atStart => exact ⟨(0), (by first | rfl | (simp; done) | (simp [*]; done)), H', ⟨Nat.le_refl _⟩, ⟨by (with_reducible repeat (first | apply Kd.S_alloc | apply Kd.S_drewN | apply Kd.S_drew)); exact HO_7.out⟩, ⟨by (with_reducible repeat (first | apply Kd.R_alloc | apply Kd.R_drewN | apply Kd.R_drew)); exact HO_9.out⟩, ⟨by (with_reducible repeat (first | apply Kd.R_alloc | apply Kd.R_drewN | apply Kd.R_drew)); exact HO_10.out⟩, ⟨kv_ BK317.out⟩, ⟨by repeat (first | (with_reducible first | exact HB.out | apply below_alloc | apply pw_below_drewN | apply below_drew1 | refine below_set ?_ GE317.out) | exact HB.out)⟩⟩
        case round =>
         clear H'
         try clear c1
         try clear c2
         try clear p2
         try clear c3
         try clear c4
         try clear c6
         try clear c7
         try clear c7b0
         try clear c7b1
         try clear c11
         try clear c15
         try clear c15b0
         try clear c15b1
         try clear c25
         try clear c25b0
         try clear c25b1
         try clear c25b2
         try clear c30
         try clear hcz21_0
         try clear hcz21_1
         try clear hfz21_0
         try clear hfz21_1
         try clear p2
         obtain ⟨x11_3, rfl, HA, HK3, HO_7, HO_9, HO_10, BK317, HB⟩ := hrel
         cases gk with
         | zero => exact absurd HA.out (by simp [variorumlaw12_SetterKeeps.l0])
         | succ k3 =>
          have H := HA.out
          clear HA
          simp only [variorumlaw12_SetterKeeps.l0] at H
          by_cases c31 : x11_3 < (t318.length : Int)
          ·rw [if_pos c31] at H
           have c31b0 : decide (x11_3 < (t318.length : Int)) = true := decide_eq_true c31
           clear c31
           by_cases c32 : 0 ≤ x11_3
           ·rw [if_pos c32] at H
            have c32b0 : decide (0 ≤ x11_3) = true := decide_eq_true c32
            clear c32
            by_cases c33 : x11_3 < (t321.length : Int)
            ·rw [if_pos c33] at H
             have c33b0 : decide (x11_3 < (t321.length : Int)) = true := decide_eq_true c33
             clear c33
             by_cases c34 : ((rd_T40 t318 x11_3).f4) = ((rd_T42 t321 x11_3).f0)
             ·rw [if_pos c34] at H
              have c34b0 : (((rd_T40 t318 x11_3).f4) == ((rd_T42 t321 x11_3).f0)) = true := beq_iff_eq.mpr c34
              have c34b1 : (((rd_T40 t318 x11_3).f4) != ((rd_T42 t321 x11_3).f0)) = false := bne_eq_false_iff_eq.mpr c34
              clear c34
              by_cases c35 : ((rd_T40 t318 x11_3).f5) = ((rd_T42 t321 x11_3).f1)
              ·rw [if_pos c35] at H
               have c35b0 : (((rd_T40 t318 x11_3).f5) == ((rd_T42 t321 x11_3).f1)) = true := beq_iff_eq.mpr c35
               have c35b1 : (((rd_T40 t318 x11_3).f5) != ((rd_T42 t321 x11_3).f1)) = false := bne_eq_false_iff_eq.mpr c35
               clear c35
               by_cases c36 : ((rd_T40 t318 x11_3).f1.f0) = ((rd_T42 t321 x11_3).f3)
               ·rw [if_pos c36] at H
                have c36b0 : (((rd_T40 t318 x11_3).f1.f0) == ((rd_T42 t321 x11_3).f3)) = true := beq_iff_eq.mpr c36
                have c36b1 : (((rd_T40 t318 x11_3).f1.f0) != ((rd_T42 t321 x11_3).f3)) = false := bne_eq_false_iff_eq.mpr c36
                clear c36
                have H' := Aside0.mk H
                clear H
                obtain ⟨Ao37, co37, eo37⟩ := Kd.R_slice HO_9.out
                subst eo37
                have p324 : 0 ≤ (x11_3 : Int) := of_decide_eq_true (by first | (with_reducible assumption) | assumption)
                have q324 : x11_3 < (t318.length : Int) := of_decide_eq_true (by first | (with_reducible assumption) | assumption)
                obtain ⟨ad324, e324, hx324_0, hx324_1, hx324_2, hx324_3, hx324_4, hx324_5, hx324_6, hx324_7, hx324_8⟩ := at_T40 (Kd.R_reads' HO_9.out).2.2 x11_3 p324 q324
                cases e324
                replace p324 := eq_true p324
                replace q324 := eq_true q324
                obtain ⟨Ao38, co38, eo38⟩ := Kd.R_slice HO_10.out
                subst eo38
                have p325 : 0 ≤ (x11_3 : Int) := of_decide_eq_true (by first | (with_reducible assumption) | assumption)
                have q325 : x11_3 < (t321.length : Int) := of_decide_eq_true (by first | (with_reducible assumption) | assumption)
                obtain ⟨ad325, e325, hx325_0, hx325_1, hx325_2, hx325_3⟩ := at_T42 (Kd.R_reads' HO_10.out).2.2 x11_3 p325 q325
                cases e325
                replace p325 := eq_true p325
                replace q325 := eq_true q325
                have p326 : 0 ≤ (x11_3 : Int) := of_decide_eq_true (by first | (with_reducible assumption) | assumption)
                have q326 : x11_3 < (t318.length : Int) := of_decide_eq_true (by first | (with_reducible assumption) | assumption)
                obtain ⟨ad326, e326, hx326_0, hx326_1, hx326_2, hx326_3, hx326_4, hx326_5, hx326_6, hx326_7, hx326_8⟩ := at_T40 (Kd.R_reads' HO_9.out).2.2 x11_3 p326 q326
                obtain rfl : ad324 = ad326 := (by injection e326)
                replace p326 := eq_true p326
                replace q326 := eq_true q326
                have p327 : 0 ≤ (x11_3 : Int) := of_decide_eq_true (by first | (with_reducible assumption) | assumption)
                have q327 : x11_3 < (t321.length : Int) := of_decide_eq_true (by first | (with_reducible assumption) | assumption)
                obtain ⟨ad327, e327, hx327_0, hx327_1, hx327_2, hx327_3⟩ := at_T42 (Kd.R_reads' HO_10.out).2.2 x11_3 p327 q327
                obtain rfl : ad325 = ad327 := (by injection e327)
                replace p327 := eq_true p327
                replace q327 := eq_true q327
                have p328 : 0 ≤ (x11_3 : Int) := of_decide_eq_true (by first | (with_reducible assumption) | assumption)
                have q328 : x11_3 < (t318.length : Int) := of_decide_eq_true (by first | (with_reducible assumption) | assumption)
                obtain ⟨ad328, e328, hx328_0, hx328_1, hx328_2, hx328_3, hx328_4, hx328_5, hx328_6, hx328_7, hx328_8⟩ := at_T40 (Kd.R_reads' HO_9.out).2.2 x11_3 p328 q328
                obtain rfl : ad324 = ad328 := (by injection e328)
                replace p328 := eq_true p328
                replace q328 := eq_true q328
                have p329 : 0 ≤ (x11_3 : Int) := of_decide_eq_true (by first | (with_reducible assumption) | assumption)
                have q329 : x11_3 < (t321.length : Int) := of_decide_eq_true (by first | (with_reducible assumption) | assumption)
                obtain ⟨ad329, e329, hx329_0, hx329_1, hx329_2, hx329_3⟩ := at_T42 (Kd.R_reads' HO_10.out).2.2 x11_3 p329 q329
                obtain rfl : ad325 = ad329 := (by injection e329)
                replace p329 := eq_true p329
                replace q329 := eq_true q329
                go_wp2
                repeat (go_quiet (fail); try go_wp2)
                go_roundg k3
                case measure => have := HJ3.out; have := HJ17.out; have := HK3.out; omega
                case rel => exact ⟨(wrap64 (x11_3 + 1)), (by first | rfl | (simp; done) | (simp [*]; done)), H', ⟨by have := HJ3.out; have := HJ17.out; have := HK3.out; omega⟩, ⟨by (with_reducible repeat (first | apply Kd.S_alloc | apply Kd.S_drewN | apply Kd.S_drew)); exact HO_7.out⟩, ⟨by (with_reducible repeat (first | apply Kd.R_alloc | apply Kd.R_drewN | apply Kd.R_drew)); exact HO_9.out⟩, ⟨by (with_reducible repeat (first | apply Kd.R_alloc | apply Kd.R_drewN | apply Kd.R_drew)); exact HO_10.out⟩, ⟨kv_ BK317.out⟩, ⟨by repeat (first | (with_reducible first | exact HB.out | apply below_alloc | apply pw_below_drewN | apply below_drew1 | refine below_set ?_ GE317.out) | exact HB.out)⟩⟩
               ·rw [if_neg c36] at H
                exact absurd H (by simp)
              ·rw [if_neg c35] at H
               exact absurd H (by simp)
             ·rw [if_neg c34] at H
              exact absurd H (by simp)
            ·rw [if_neg c33] at H
             exact absurd H (by simp)
           ·rw [if_neg c32] at H
            exact absurd H (by simp)
          ·rw [if_neg c31] at H
           have c31b0 : decide (x11_3 < (t318.length : Int)) = false := decide_eq_false c31
           clear c31
           have H' := Aside0.mk H
           clear H
           obtain ⟨Ao39, co39, eo39⟩ := Kd.R_slice HO_9.out
           subst eo39
           go_wp2
           repeat (go_quiet (fail); try go_wp2)
           go_loopg [12] k3 (fun kq v12 w' => ∃ (x12_4 : Int), v12 = .int .i64 x12_4 ∧ Aside0 (variorumlaw12_SetterKeeps.l1 kq l1 t312 x12_4 = some r) ∧ Aside0 (kq ≤ k3) ∧ Aside0 (Kd.S k44 44 w' w.heap.size (fun _ => True) (.slice Ao23 t312.length co23) t312) ∧ Aside0 (w'.heap[gb317]? = some (.cells #[.int .i64 t315, .int .i64 t316] 28 (0, 0))) ∧ Aside0 (Below w.heap.size w w'))
           case atStart => exact ⟨(0), (by first | rfl | (simp; done) | (simp [*]; done)), H', ⟨Nat.le_refl _⟩, ⟨by (with_reducible repeat (first | apply Kd.S_alloc | apply Kd.S_drewN | apply Kd.S_drew)); exact Kd.S_mono HO_7.out (fun _ hk => trivial)⟩, ⟨kv_ BK317.out⟩, ⟨by repeat (first | (with_reducible first | exact HB.out | apply below_alloc | apply pw_below_drewN | apply below_drew1 | refine below_set ?_ GE317.out) | exact HB.out)⟩⟩
           case round =>
            clear H'
            try clear c1
            try clear c2
            try clear p2
            try clear c3
            try clear p3
            try clear q3
            try clear hx3
            try clear c4
            try clear c6
            try clear p6
            try clear c7
            try clear c7b0
            try clear c7b1
            try clear c11
            try clear c15
            try clear c15b0
            try clear c15b1
            try clear c25
            try clear c25b0
            try clear c25b1
            try clear c25b2
            try clear c30
            try clear c31
            try clear c31b0
            try clear c32
            try clear c32b0
            try clear p32
            try clear q32
            try clear hx32
            try clear c33
            try clear c33b0
            try clear c34
            try clear c34b0
            try clear c34b1
            try clear c35
            try clear c35b0
            try clear c35b1
            try clear c36
            try clear c36b0
            try clear c36b1
            try clear hcz21_0
            try clear hcz21_1
            try clear hfz21_0
            try clear hfz21_1
            try clear hx324_0
            try clear hx324_1
            try clear hx324_2
            try clear hx324_3
            try clear hx324_4
            try clear hx324_5
            try clear hx324_6
            try clear hx324_7
            try clear hx324_8
            try clear hx325_0
            try clear hx325_1
            try clear hx325_2
            try clear hx325_3
            try clear hx326_0
            try clear hx326_1
            try clear hx326_2
            try clear hx326_3
            try clear hx326_4
            try clear hx326_5
            try clear hx326_6
            try clear hx326_7
            try clear hx326_8
            try clear hx327_0
            try clear hx327_1
            try clear hx327_2
            try clear hx327_3
            try clear hx328_0
            try clear hx328_1
            try clear hx328_2
            try clear hx328_3
            try clear hx328_4
            try clear hx328_5
            try clear hx328_6
            try clear hx328_7
            try clear hx328_8
            try clear hx329_0
            try clear hx329_1
            try clear hx329_2
            try clear hx329_3
            try clear p2
            try clear p324
            try clear p325
            try clear p326
            try clear p327
            try clear p328
            try clear p329
            try clear q324
            try clear q325
            try clear q326
            try clear q327
            try clear q328
            try clear q329
            obtain ⟨x12_4, rfl, HA, HK4, HO_7, BK317, HB⟩ := hrel
            cases gk with
            | zero => exact absurd HA.out (by simp [variorumlaw12_SetterKeeps.l1])
            | succ k4 =>
             have H := HA.out
             clear HA
             simp only [variorumlaw12_SetterKeeps.l1] at H
             by_cases c40 : x12_4 < (t312.length : Int)
             ·rw [if_pos c40] at H
              have c40b0 : decide (x12_4 < (t312.length : Int)) = true := decide_eq_true c40
              clear c40
              by_cases c41 : 0 ≤ x12_4
              ·rw [if_pos c41] at H
               have c41b0 : decide (0 ≤ x12_4) = true := decide_eq_true c41
               clear c41
               have H' := Aside0.mk H
               clear H
               have p330 : 0 ≤ (x12_4 : Int) := of_decide_eq_true (by first | (with_reducible assumption) | assumption)
               have q330 : x12_4 < (t312.length : Int) := of_decide_eq_true (by first | (with_reducible assumption) | assumption)
               obtain ⟨ad330, A330_2, c330_2, e330, hx330_0, hx330_1, hx330_2, hx330_3, hx330_4, hx330_5, hl330_2, hi330_2⟩ := at_T44 (Kd.S_reads' HO_7.out).2.2 x12_4 p330 q330
               cases e330
               obtain ⟨ce330, hce330, hMe330, hcc330⟩ := Kd.S_get HO_7.out z44 x12_4 p330 (by first | exact q330 | exact of_decide_eq_true (by first | (with_reducible assumption) | assumption) | (have e_ := (Kd.S_reads' HO_7.out).1; omega))
               obtain ⟨ve330_2, rfl, ge330_2⟩ := k44_openM hMe330
               have hv330_2 := hcc330 2 _ rfl
               rw [add_field _ _ 2 (by omega)] at hv330_2
               replace hv330_2 := Option.some.inj (hv330_2.symm.trans hx330_2)
               rw [hv330_2] at ge330_2
               have HL330_2 := Aside0.mk (show Kd.R k42 42 _ _ _ _ ((rd_T44 t312 x12_4).f2) from ge330_2)
               clear hv330_2 ge330_2
               clear hcc330 hce330
               have HR330_2 := Aside0.mk hi330_2
               have HC330_2 := Aside0.mk hl330_2
               clear hi330_2 hl330_2
               replace p330 := eq_true p330
               replace q330 := eq_true q330
               go_wp2_with (first | ((with_reducible refine gate_dst (N := 13) rfl ?_); (try (refine gate_guard (by rfl) ?_; dsimp only)); refine box_event ?hg (N := 13) ?hd (cs := #[.int .i64 0, .int .i64 0, .slice none 0 0, .bool false, .int .i64 0, .int .i64 0]) (t := 44) ?hr ?_; (case hd => rfl); (case hg => rfl); (case hr => first | (go_simp; done) | (go_simp; rfl)); intro gb331 hg w42 hbox hb; have n0_ := Aside0.mk (Kd.S_below (Kd.S_elderB (sv_ HO_7.out) gb331 (Nat.le_of_eq hg.symm)) hb); have n1_ := Aside0.mk (Kd.R_below (rv_ HL330_2.out) hb); have n2_ := Aside0.mk (kb_ BK317.out hb); have n3_ := Aside0.mk (Kd.C_below (by repeat (first | (with_reducible exact HR330_2.out) | (with_reducible refine Kd.C_alloc ?_ _) | (with_reducible refine Kd.C_drewN ?_ _) | (with_reducible refine Kd.C_drew ?_) | exact HR330_2.out)) hb); have n4_ := Aside0.mk (below_step (by repeat (first | (with_reducible first | exact HB.out | apply below_alloc | apply pw_below_drewN | apply below_drew1 | refine below_set ?_ GE317.out) | exact HB.out)) hb); have n5_ := Aside0.mk (hbox); have n6_ := Aside0.mk ((by rw [hg]; exact (below_size (by repeat (first | (with_reducible first | exact HB.out | apply below_alloc | apply pw_below_drewN | apply below_drew1 | refine below_set ?_ GE317.out) | exact HB.out))) : w.heap.size ≤ gb331)); have n7_ := Aside0.mk ((by rw [hg]; exact (below_size (by repeat (first | (with_reducible first | exact HB.out | apply below_alloc | apply pw_below_drewN | apply below_drew1 | refine below_set ?_ GE317.out) | exact HB.out))) : w.heap.size ≤ gb331)); have n8_ := Aside0.mk ((by rw [hg]; exact Nat.ne_of_lt (blk_lt (kv_ BK317.out)) : gb317 ≠ gb331)); have n9_ := Aside0.mk ((by rw [hg]; exact Nat.ne_of_gt (blk_lt (kv_ BK317.out)) : gb331 ≠ gb317)); clear HO_7; clear HL330_2; clear BK317; clear HR330_2; clear HB; have HO_7 := n0_; have HL330_2 := n1_; have BK317 := n2_; have HR330_2 := n3_; have HB := n4_; have BK331 := n5_; have GW331 := n6_; have GE331 := n7_; have NB317_331 := n8_; have NB331_317 := n9_; clear n0_ n1_ n2_ n3_ n4_ n5_ n6_ n7_ n8_ n9_; clear hb hbox hg; have hnb43 := NB331_317.out; have hnc43 := NB317_331.out; have hcz44_0 : w42.cell? ⟨gb331, 0, none⟩ = some (.int .i64 0) := (blk_cell BK331.out 0).trans rfl; have hcz44_1 : w42.cell? ⟨gb331, 1, none⟩ = some (.int .i64 0) := (blk_cell BK331.out 1).trans rfl; have hcz44_2 : w42.cell? ⟨gb331, 2, none⟩ = some (.slice none 0 0) := (blk_cell BK331.out 2).trans rfl; have hcz44_3 : w42.cell? ⟨gb331, 3, none⟩ = some (.bool false) := (blk_cell BK331.out 3).trans rfl; have hcz44_4 : w42.cell? ⟨gb331, 4, none⟩ = some (.int .i64 0) := (blk_cell BK331.out 4).trans rfl; have hcz44_5 : w42.cell? ⟨gb331, 5, none⟩ = some (.int .i64 0) := (blk_cell BK331.out 5).trans rfl; have hfz44_0 := blk_frozen BK331.out 0; have hfz44_1 := blk_frozen BK331.out 1; have hfz44_2 := blk_frozen BK331.out 2; have hfz44_3 := blk_frozen BK331.out 3; have hfz44_4 := blk_frozen BK331.out 4; have hfz44_5 := blk_frozen BK331.out 5))
               repeat (go_quiet (first | ((with_reducible refine gate_dst (N := 13) rfl ?_); (try (refine gate_guard (by rfl) ?_; dsimp only)); refine box_event ?hg (N := 13) ?hd (cs := #[.int .i64 0, .int .i64 0, .slice none 0 0, .bool false, .int .i64 0, .int .i64 0]) (t := 44) ?hr ?_; (case hd => rfl); (case hg => rfl); (case hr => first | (go_simp; done) | (go_simp; rfl)); intro gb331 hg w42 hbox hb; have n0_ := Aside0.mk (Kd.S_below (Kd.S_elderB (sv_ HO_7.out) gb331 (Nat.le_of_eq hg.symm)) hb); have n1_ := Aside0.mk (Kd.R_below (rv_ HL330_2.out) hb); have n2_ := Aside0.mk (kb_ BK317.out hb); have n3_ := Aside0.mk (Kd.C_below (by repeat (first | (with_reducible exact HR330_2.out) | (with_reducible refine Kd.C_alloc ?_ _) | (with_reducible refine Kd.C_drewN ?_ _) | (with_reducible refine Kd.C_drew ?_) | exact HR330_2.out)) hb); have n4_ := Aside0.mk (below_step (by repeat (first | (with_reducible first | exact HB.out | apply below_alloc | apply pw_below_drewN | apply below_drew1 | refine below_set ?_ GE317.out) | exact HB.out)) hb); have n5_ := Aside0.mk (hbox); have n6_ := Aside0.mk ((by rw [hg]; exact (below_size (by repeat (first | (with_reducible first | exact HB.out | apply below_alloc | apply pw_below_drewN | apply below_drew1 | refine below_set ?_ GE317.out) | exact HB.out))) : w.heap.size ≤ gb331)); have n7_ := Aside0.mk ((by rw [hg]; exact (below_size (by repeat (first | (with_reducible first | exact HB.out | apply below_alloc | apply pw_below_drewN | apply below_drew1 | refine below_set ?_ GE317.out) | exact HB.out))) : w.heap.size ≤ gb331)); have n8_ := Aside0.mk ((by rw [hg]; exact Nat.ne_of_lt (blk_lt (kv_ BK317.out)) : gb317 ≠ gb331)); have n9_ := Aside0.mk ((by rw [hg]; exact Nat.ne_of_gt (blk_lt (kv_ BK317.out)) : gb331 ≠ gb317)); clear HO_7; clear HL330_2; clear BK317; clear HR330_2; clear HB; have HO_7 := n0_; have HL330_2 := n1_; have BK317 := n2_; have HR330_2 := n3_; have HB := n4_; have BK331 := n5_; have GW331 := n6_; have GE331 := n7_; have NB317_331 := n8_; have NB331_317 := n9_; clear n0_ n1_ n2_ n3_ n4_ n5_ n6_ n7_ n8_ n9_; clear hb hbox hg; have hnb43 := NB331_317.out; have hnc43 := NB317_331.out; have hcz44_0 : w42.cell? ⟨gb331, 0, none⟩ = some (.int .i64 0) := (blk_cell BK331.out 0).trans rfl; have hcz44_1 : w42.cell? ⟨gb331, 1, none⟩ = some (.int .i64 0) := (blk_cell BK331.out 1).trans rfl; have hcz44_2 : w42.cell? ⟨gb331, 2, none⟩ = some (.slice none 0 0) := (blk_cell BK331.out 2).trans rfl; have hcz44_3 : w42.cell? ⟨gb331, 3, none⟩ = some (.bool false) := (blk_cell BK331.out 3).trans rfl; have hcz44_4 : w42.cell? ⟨gb331, 4, none⟩ = some (.int .i64 0) := (blk_cell BK331.out 4).trans rfl; have hcz44_5 : w42.cell? ⟨gb331, 5, none⟩ = some (.int .i64 0) := (blk_cell BK331.out 5).trans rfl; have hfz44_0 := blk_frozen BK331.out 0; have hfz44_1 := blk_frozen BK331.out 1; have hfz44_2 := blk_frozen BK331.out 2; have hfz44_3 := blk_frozen BK331.out 3; have hfz44_4 := blk_frozen BK331.out 4; have hfz44_5 := blk_frozen BK331.out 5)); try go_wp2_with (first | ((with_reducible refine gate_dst (N := 13) rfl ?_); (try (refine gate_guard (by rfl) ?_; dsimp only)); refine box_event ?hg (N := 13) ?hd (cs := #[.int .i64 0, .int .i64 0, .slice none 0 0, .bool false, .int .i64 0, .int .i64 0]) (t := 44) ?hr ?_; (case hd => rfl); (case hg => rfl); (case hr => first | (go_simp; done) | (go_simp; rfl)); intro gb331 hg w42 hbox hb; have n0_ := Aside0.mk (Kd.S_below (Kd.S_elderB (sv_ HO_7.out) gb331 (Nat.le_of_eq hg.symm)) hb); have n1_ := Aside0.mk (Kd.R_below (rv_ HL330_2.out) hb); have n2_ := Aside0.mk (kb_ BK317.out hb); have n3_ := Aside0.mk (Kd.C_below (by repeat (first | (with_reducible exact HR330_2.out) | (with_reducible refine Kd.C_alloc ?_ _) | (with_reducible refine Kd.C_drewN ?_ _) | (with_reducible refine Kd.C_drew ?_) | exact HR330_2.out)) hb); have n4_ := Aside0.mk (below_step (by repeat (first | (with_reducible first | exact HB.out | apply below_alloc | apply pw_below_drewN | apply below_drew1 | refine below_set ?_ GE317.out) | exact HB.out)) hb); have n5_ := Aside0.mk (hbox); have n6_ := Aside0.mk ((by rw [hg]; exact (below_size (by repeat (first | (with_reducible first | exact HB.out | apply below_alloc | apply pw_below_drewN | apply below_drew1 | refine below_set ?_ GE317.out) | exact HB.out))) : w.heap.size ≤ gb331)); have n7_ := Aside0.mk ((by rw [hg]; exact (below_size (by repeat (first | (with_reducible first | exact HB.out | apply below_alloc | apply pw_below_drewN | apply below_drew1 | refine below_set ?_ GE317.out) | exact HB.out))) : w.heap.size ≤ gb331)); have n8_ := Aside0.mk ((by rw [hg]; exact Nat.ne_of_lt (blk_lt (kv_ BK317.out)) : gb317 ≠ gb331)); have n9_ := Aside0.mk ((by rw [hg]; exact Nat.ne_of_gt (blk_lt (kv_ BK317.out)) : gb331 ≠ gb317)); clear HO_7; clear HL330_2; clear BK317; clear HR330_2; clear HB; have HO_7 := n0_; have HL330_2 := n1_; have BK317 := n2_; have HR330_2 := n3_; have HB := n4_; have BK331 := n5_; have GW331 := n6_; have GE331 := n7_; have NB317_331 := n8_; have NB331_317 := n9_; clear n0_ n1_ n2_ n3_ n4_ n5_ n6_ n7_ n8_ n9_; clear hb hbox hg; have hnb43 := NB331_317.out; have hnc43 := NB317_331.out; have hcz44_0 : w42.cell? ⟨gb331, 0, none⟩ = some (.int .i64 0) := (blk_cell BK331.out 0).trans rfl; have hcz44_1 : w42.cell? ⟨gb331, 1, none⟩ = some (.int .i64 0) := (blk_cell BK331.out 1).trans rfl; have hcz44_2 : w42.cell? ⟨gb331, 2, none⟩ = some (.slice none 0 0) := (blk_cell BK331.out 2).trans rfl; have hcz44_3 : w42.cell? ⟨gb331, 3, none⟩ = some (.bool false) := (blk_cell BK331.out 3).trans rfl; have hcz44_4 : w42.cell? ⟨gb331, 4, none⟩ = some (.int .i64 0) := (blk_cell BK331.out 4).trans rfl; have hcz44_5 : w42.cell? ⟨gb331, 5, none⟩ = some (.int .i64 0) := (blk_cell BK331.out 5).trans rfl; have hfz44_0 := blk_frozen BK331.out 0; have hfz44_1 := blk_frozen BK331.out 1; have hfz44_2 := blk_frozen BK331.out 2; have hfz44_3 := blk_frozen BK331.out 3; have hfz44_4 := blk_frozen BK331.out 4; have hfz44_5 := blk_frozen BK331.out 5)))
               go_loopg [14, 15] k4 (fun kq v14 v15 w' => ∃ (x14_5 : Int) (x15_5 : Int), v14 = .int .i64 x14_5 ∧ v15 = .int .i64 x15_5 ∧ Aside0 (variorumlaw12_SetterKeeps.l2 kq l1 t312 x12_4 x14_5 x15_5 ((rd_T44 t312 x12_4).f0) ((rd_T44 t312 x12_4).f1) ((rd_T44 t312 x12_4).f2) ((rd_T44 t312 x12_4).f3) ((rd_T44 t312 x12_4).f4) ((rd_T44 t312 x12_4).f5) = some r) ∧ Aside0 (kq ≤ k4) ∧ Aside0 (Kd.S k44 44 w' w.heap.size (fun k_ => k_ ≠ gb331) (.slice (some ad330) t312.length co23) t312) ∧ Aside0 (w'.heap[gb317]? = some (.cells #[.int .i64 t315, .int .i64 t316] 28 (0, 0))) ∧ Aside0 (w'.heap[gb331]? = some (.cells #[.int .i64 ((rd_T44 t312 x12_4).f0), .int .i64 ((rd_T44 t312 x12_4).f1), (.slice A330_2 ((rd_T44 t312 x12_4).f2).length c330_2), .bool ((rd_T44 t312 x12_4).f3), .int .i64 ((rd_T44 t312 x12_4).f4), .int .i64 ((rd_T44 t312 x12_4).f5)] 44 (0, 0))) ∧ Aside0 (Kd.C k42 w' A330_2 ((rd_T44 t312 x12_4).f2).length ((rd_T44 t312 x12_4).f2)) ∧ Aside0 (Below w.heap.size w w'))
               case atStart => exact ⟨(0), (0), (by first | rfl | (simp; done) | (simp [*]; done)), (by first | rfl | (simp; done) | (simp [*]; done)), H', ⟨Nat.le_refl _⟩, ⟨by (with_reducible repeat (first | apply Kd.S_alloc | apply Kd.S_drewN | apply Kd.S_drew)); exact Kd.S_mono (Kd.S_far (p := ⟨gb331, 5, none⟩) (Kd.S_far (p := ⟨gb331, 4, none⟩) (Kd.S_far (p := ⟨gb331, 3, none⟩) (Kd.S_far (p := ⟨gb331, 2, none⟩) (Kd.S_far (p := ⟨gb331, 1, none⟩) (Kd.S_far (p := ⟨gb331, 0, none⟩) (Kd.S_mono HO_7.out (fun k_ hk => (⟨hk, hk.2⟩ : _ ∧ k_ ≠ gb331))) (fun _ hk => hk.2) (.int .i64 ((rd_T44 t312 x12_4).f0))) (fun _ hk => hk.2) (.int .i64 ((rd_T44 t312 x12_4).f1))) (fun _ hk => hk.2) (.slice A330_2 ((rd_T44 t312 x12_4).f2).length c330_2)) (fun _ hk => hk.2) (.bool ((rd_T44 t312 x12_4).f3))) (fun _ hk => hk.2) (.int .i64 ((rd_T44 t312 x12_4).f4))) (fun _ hk => hk.2) (.int .i64 ((rd_T44 t312 x12_4).f5))) (fun _ hk => hk.1.2)⟩, ⟨by (with_reducible repeat (first | refine blk_drewN ?_ _ | refine blk_drew ?_ | refine blk_alloc ?_ _)); refine blk_far ?_ NB317_331.out _; (with_reducible repeat (first | refine blk_drewN ?_ _ | refine blk_drew ?_ | refine blk_alloc ?_ _)); refine blk_far ?_ NB317_331.out _; (with_reducible repeat (first | refine blk_drewN ?_ _ | refine blk_drew ?_ | refine blk_alloc ?_ _)); refine blk_far ?_ NB317_331.out _; (with_reducible repeat (first | refine blk_drewN ?_ _ | refine blk_drew ?_ | refine blk_alloc ?_ _)); refine blk_far ?_ NB317_331.out _; (with_reducible repeat (first | refine blk_drewN ?_ _ | refine blk_drew ?_ | refine blk_alloc ?_ _)); refine blk_far ?_ NB317_331.out _; (with_reducible repeat (first | refine blk_drewN ?_ _ | refine blk_drew ?_ | refine blk_alloc ?_ _)); refine blk_far ?_ NB317_331.out _; (with_reducible repeat (first | refine blk_drewN ?_ _ | refine blk_drew ?_ | refine blk_alloc ?_ _)); exact BK317.out⟩, ⟨by (with_reducible repeat (first | refine blk_drewN ?_ _ | refine blk_drew ?_ | refine blk_alloc ?_ _)); refine blk_put (cs := #[.int .i64 ((rd_T44 t312 x12_4).f0), .int .i64 ((rd_T44 t312 x12_4).f1), .slice A330_2 ((rd_T44 t312 x12_4).f2).length c330_2, .bool ((rd_T44 t312 x12_4).f3), .int .i64 ((rd_T44 t312 x12_4).f4), .int .i64 0]) ?_ 5 _ rfl; (with_reducible repeat (first | refine blk_drewN ?_ _ | refine blk_drew ?_ | refine blk_alloc ?_ _)); refine blk_put (cs := #[.int .i64 ((rd_T44 t312 x12_4).f0), .int .i64 ((rd_T44 t312 x12_4).f1), .slice A330_2 ((rd_T44 t312 x12_4).f2).length c330_2, .bool ((rd_T44 t312 x12_4).f3), .int .i64 0, .int .i64 0]) ?_ 4 _ rfl; (with_reducible repeat (first | refine blk_drewN ?_ _ | refine blk_drew ?_ | refine blk_alloc ?_ _)); refine blk_put (cs := #[.int .i64 ((rd_T44 t312 x12_4).f0), .int .i64 ((rd_T44 t312 x12_4).f1), .slice A330_2 ((rd_T44 t312 x12_4).f2).length c330_2, .bool false, .int .i64 0, .int .i64 0]) ?_ 3 _ rfl; (with_reducible repeat (first | refine blk_drewN ?_ _ | refine blk_drew ?_ | refine blk_alloc ?_ _)); refine blk_put (cs := #[.int .i64 ((rd_T44 t312 x12_4).f0), .int .i64 ((rd_T44 t312 x12_4).f1), .slice none 0 0, .bool false, .int .i64 0, .int .i64 0]) ?_ 2 _ rfl; (with_reducible repeat (first | refine blk_drewN ?_ _ | refine blk_drew ?_ | refine blk_alloc ?_ _)); refine blk_put (cs := #[.int .i64 ((rd_T44 t312 x12_4).f0), .int .i64 0, .slice none 0 0, .bool false, .int .i64 0, .int .i64 0]) ?_ 1 _ rfl; (with_reducible repeat (first | refine blk_drewN ?_ _ | refine blk_drew ?_ | refine blk_alloc ?_ _)); refine blk_put (cs := #[.int .i64 0, .int .i64 0, .slice none 0 0, .bool false, .int .i64 0, .int .i64 0]) ?_ 0 _ rfl; (with_reducible repeat (first | refine blk_drewN ?_ _ | refine blk_drew ?_ | refine blk_alloc ?_ _)); exact BK331.out⟩, ⟨(Kd.R_reads' (by (with_reducible repeat (first | apply Kd.R_alloc | apply Kd.R_drewN | apply Kd.R_drew)); exact (Kd.R_mono (Kd.R_far (p := ⟨gb331, 5, none⟩) (Kd.R_far (p := ⟨gb331, 4, none⟩) (Kd.R_far (p := ⟨gb331, 3, none⟩) (Kd.R_far (p := ⟨gb331, 2, none⟩) (Kd.R_far (p := ⟨gb331, 1, none⟩) (Kd.R_far (p := ⟨gb331, 0, none⟩) (Kd.R_types HL330_2.out BK331.out (by decide)) (fun _ hk => hk.2) (.int .i64 ((rd_T44 t312 x12_4).f0))) (fun _ hk => hk.2) (.int .i64 ((rd_T44 t312 x12_4).f1))) (fun _ hk => hk.2) (.slice A330_2 ((rd_T44 t312 x12_4).f2).length c330_2)) (fun _ hk => hk.2) (.bool ((rd_T44 t312 x12_4).f3))) (fun _ hk => hk.2) (.int .i64 ((rd_T44 t312 x12_4).f4))) (fun _ hk => hk.2) (.int .i64 ((rd_T44 t312 x12_4).f5))) (fun _ h_ => h_.1)))).2.2⟩, ⟨by repeat (first | (with_reducible first | exact HB.out | apply below_alloc | apply pw_below_drewN | apply below_drew1 | refine below_set ?_ GE317.out | refine below_set ?_ GE331.out) | exact HB.out)⟩⟩
               case round =>
                clear H'
                try clear c1
                try clear c2
                try clear p2
                try clear c3
                try clear p3
                try clear q3
                try clear hx3
                try clear c4
                try clear c6
                try clear p6
                try clear c7
                try clear c7b0
                try clear c7b1
                try clear c11
                try clear c15
                try clear c15b0
                try clear c15b1
                try clear c25
                try clear c25b0
                try clear c25b1
                try clear c25b2
                try clear c30
                try clear c31
                try clear c31b0
                try clear c32
                try clear c32b0
                try clear p32
                try clear q32
                try clear hx32
                try clear c33
                try clear c33b0
                try clear p33
                try clear q33
                try clear hx33
                try clear c34
                try clear c34b0
                try clear c34b1
                try clear c35
                try clear c35b0
                try clear c35b1
                try clear c36
                try clear c36b0
                try clear c36b1
                try clear c40
                try clear c40b0
                try clear c41
                try clear c41b0
                try clear c43
                try clear hcz21_0
                try clear hcz21_1
                try clear hcz44_0
                try clear hcz44_1
                try clear hcz44_2
                try clear hcz44_3
                try clear hcz44_4
                try clear hcz44_5
                try clear hfz21_0
                try clear hfz21_1
                try clear hfz44_0
                try clear hfz44_1
                try clear hfz44_2
                try clear hfz44_3
                try clear hfz44_4
                try clear hfz44_5
                try clear hx324_0
                try clear hx324_1
                try clear hx324_2
                try clear hx324_3
                try clear hx324_4
                try clear hx324_5
                try clear hx324_6
                try clear hx324_7
                try clear hx324_8
                try clear hx325_0
                try clear hx325_1
                try clear hx325_2
                try clear hx325_3
                try clear hx326_0
                try clear hx326_1
                try clear hx326_2
                try clear hx326_3
                try clear hx326_4
                try clear hx326_5
                try clear hx326_6
                try clear hx326_7
                try clear hx326_8
                try clear hx327_0
                try clear hx327_1
                try clear hx327_2
                try clear hx327_3
                try clear hx328_0
                try clear hx328_1
                try clear hx328_2
                try clear hx328_3
                try clear hx328_4
                try clear hx328_5
                try clear hx328_6
                try clear hx328_7
                try clear hx328_8
                try clear hx329_0
                try clear hx329_1
                try clear hx329_2
                try clear hx329_3
                try clear hx330_0
                try clear hx330_1
                try clear hx330_2
                try clear hx330_3
                try clear hx330_4
                try clear hx330_5
                try clear p2
                try clear p3
                try clear p32
                try clear p324
                try clear p325
                try clear p326
                try clear p327
                try clear p328
                try clear p329
                try clear p330
                try clear p6
                try clear q3
                try clear q32
                try clear q324
                try clear q325
                try clear q326
                try clear q327
                try clear q328
                try clear q329
                try clear q330
                obtain ⟨x14_5, x15_5, rfl, rfl, HA, HK5, HO_7, BK317, BK331, HR330_2, HB⟩ := hrel
                cases gk with
                | zero => exact absurd HA.out (by simp [variorumlaw12_SetterKeeps.l2])
                | succ k5 =>
                 have H := HA.out
                 clear HA
                 simp only [variorumlaw12_SetterKeeps.l2] at H
                 by_cases c45 : x15_5 < (((rd_T44 t312 x12_4).f2).length : Int)
                 ·rw [if_pos c45] at H
                  have c45b0 : decide (x15_5 < (((rd_T44 t312 x12_4).f2).length : Int)) = true := decide_eq_true c45
                  clear c45
                  by_cases c46 : 0 ≤ x15_5
                  ·rw [if_pos c46] at H
                   have c46b0 : decide (0 ≤ x15_5) = true := decide_eq_true c46
                   clear c46
                   by_cases c47 : ((rd_T42 ((rd_T44 t312 x12_4).f2) x15_5).f2) < x14_5
                   ·rw [if_pos c47] at H
                    exact absurd H (by simp)
                   ·rw [if_neg c47] at H
                    have c47b0 : decide (((rd_T42 ((rd_T44 t312 x12_4).f2) x15_5).f2) < x14_5) = false := decide_eq_false c47
                    clear c47
                    have H' := Aside0.mk H
                    clear H
                    have hnb48 := NB331_317.out
                    have hnc48 := NB317_331.out
                    obtain ⟨⟨hcz49_0, hfz49_0⟩, ⟨hcz49_1, hfz49_1⟩, ⟨hcz49_2, hfz49_2⟩, ⟨hcz49_3, hfz49_3⟩, ⟨hcz49_4, hfz49_4⟩, hcz49_5, hfz49_5⟩ := cs6_ BK331.out
                    have p332 : 0 ≤ (x15_5 : Int) := of_decide_eq_true (by first | (with_reducible assumption) | assumption)
                    have q332 : x15_5 < (((rd_T44 t312 x12_4).f2).length : Int) := of_decide_eq_true (by first | (with_reducible assumption) | assumption)
                    obtain ⟨ad332, e332, hx332_0, hx332_1, hx332_2, hx332_3⟩ := at_T42 HR330_2.out x15_5 p332 q332
                    cases e332
                    try replace hx332_0 := up_ HB.out hx332_0
                    try replace hx332_1 := up_ HB.out hx332_1
                    try replace hx332_2 := up_ HB.out hx332_2
                    try replace hx332_3 := up_ HB.out hx332_3
                    replace p332 := eq_true p332
                    replace q332 := eq_true q332
                    have p333 : 0 ≤ (x15_5 : Int) := of_decide_eq_true (by first | (with_reducible assumption) | assumption)
                    have q333 : x15_5 < (((rd_T44 t312 x12_4).f2).length : Int) := of_decide_eq_true (by first | (with_reducible assumption) | assumption)
                    obtain ⟨ad333, e333, hx333_0, hx333_1, hx333_2, hx333_3⟩ := at_T42 HR330_2.out x15_5 p333 q333
                    obtain rfl : ad332 = ad333 := (by injection e333)
                    try replace hx333_0 := up_ HB.out hx333_0
                    try replace hx333_1 := up_ HB.out hx333_1
                    try replace hx333_2 := up_ HB.out hx333_2
                    try replace hx333_3 := up_ HB.out hx333_3
                    replace p333 := eq_true p333
                    replace q333 := eq_true q333
                    have p334 : 0 ≤ (x15_5 : Int) := of_decide_eq_true (by first | (with_reducible assumption) | assumption)
                    have q334 : x15_5 < (((rd_T44 t312 x12_4).f2).length : Int) := of_decide_eq_true (by first | (with_reducible assumption) | assumption)
                    obtain ⟨ad334, e334, hx334_0, hx334_1, hx334_2, hx334_3⟩ := at_T42 HR330_2.out x15_5 p334 q334
                    obtain rfl : ad332 = ad334 := (by injection e334)
                    try replace hx334_0 := up_ HB.out hx334_0
                    try replace hx334_1 := up_ HB.out hx334_1
                    try replace hx334_2 := up_ HB.out hx334_2
                    try replace hx334_3 := up_ HB.out hx334_3
                    replace p334 := eq_true p334
                    replace q334 := eq_true q334
                    go_wp2
                    repeat (go_quiet (fail); try go_wp2)
                    go_roundg k5
                    case measure => have := HJ3.out; have := HJ17.out; have := HK3.out; have := HK4.out; have := HK5.out; omega
                    case rel => exact ⟨(wrap64 (((rd_T42 ((rd_T44 t312 x12_4).f2) x15_5).f2) + ((rd_T42 ((rd_T44 t312 x12_4).f2) x15_5).f3))), (wrap64 (x15_5 + 1)), (by first | rfl | (simp; done) | (simp [*]; done)), (by first | rfl | (simp; done) | (simp [*]; done)), H', ⟨by have := HJ3.out; have := HJ17.out; have := HK3.out; have := HK4.out; have := HK5.out; omega⟩, ⟨by (with_reducible repeat (first | apply Kd.S_alloc | apply Kd.S_drewN | apply Kd.S_drew)); exact HO_7.out⟩, ⟨kv_ BK317.out⟩, ⟨kv_ BK331.out⟩, ⟨by repeat (first | (with_reducible exact HR330_2.out) | (with_reducible refine Kd.C_alloc ?_ _) | (with_reducible refine Kd.C_drewN ?_ _) | (with_reducible refine Kd.C_drew ?_) | exact HR330_2.out)⟩, ⟨by repeat (first | (with_reducible first | exact HB.out | apply below_alloc | apply pw_below_drewN | apply below_drew1 | refine below_set ?_ GE317.out | refine below_set ?_ GE331.out) | exact HB.out)⟩⟩
                  ·rw [if_neg c46] at H
                   exact absurd H (by simp)
                 ·rw [if_neg c45] at H
                  have c45b0 : decide (x15_5 < (((rd_T44 t312 x12_4).f2).length : Int)) = false := decide_eq_false c45
                  clear c45
                  by_cases c50 : ((rd_T44 t312 x12_4).f4) < x14_5
                  ·rw [if_pos c50] at H
                   exact absurd H (by simp)
                  ·rw [if_neg c50] at H
                   have c50b0 : decide (((rd_T44 t312 x12_4).f4) < x14_5) = false := decide_eq_false c50
                   clear c50
                   by_cases c51 : x12_4 > 0
                   ·rw [if_pos c51] at H
                    have c51b0 : decide (0 < x12_4) = true := decide_eq_true c51
                    clear c51
                    obtain ⟨ji52, hji52⟩ : ∃ j_ : Int, (wrap64 (x12_4 - 1)) = j_ := ⟨_, rfl⟩
                    replace H : (if 0 ≤ (ji52) then (if (ji52) < (t312.length : Int) then (if ((rd_T44 t312 (ji52)).f1) ≥ ((rd_T44 t312 x12_4).f0) then (none) else (if 0 ≤ x12_4 then (if x12_4 < (l1.length : Int) then (if ((rd_T44 t312 x12_4).f1) = (rd l1 x12_4) then (if ((rd_T44 t312 x12_4).f0) > ((rd_T44 t312 x12_4).f1) then (none) else (variorumlaw12_SetterKeeps.l1 k5 l1 t312 (wrap64 (x12_4 + 1)))) else (none)) else (none)) else (none))) else (none)) else (none)) = some r := by first | (rw [hji52] at H; exact H) | (simp only [hji52] at H ⊢; exact H)
                    have hji52w : (IntKind.i64.wrap (x12_4 - 1)) = ji52 := (i64_w _).trans hji52
                    by_cases c53 : 0 ≤ (ji52)
                    ·rw [if_pos c53] at H
                     have c53b0 : decide (0 ≤ (ji52)) = true := decide_eq_true c53
                     clear c53
                     by_cases c54 : (ji52) < (t312.length : Int)
                     ·rw [if_pos c54] at H
                      have c54b0 : decide ((ji52) < (t312.length : Int)) = true := decide_eq_true c54
                      clear c54
                      by_cases c55 : ((rd_T44 t312 (ji52)).f1) ≥ ((rd_T44 t312 x12_4).f0)
                      ·rw [if_pos c55] at H
                       exact absurd H (by simp)
                      ·rw [if_neg c55] at H
                       have c55b0 : decide (((rd_T44 t312 x12_4).f0) ≤ ((rd_T44 t312 (ji52)).f1)) = false := decide_eq_false c55
                       clear c55
                       by_cases c56 : 0 ≤ x12_4
                       ·rw [if_pos c56] at H
                        have c56b0 : decide (0 ≤ x12_4) = true := decide_eq_true c56
                        clear c56
                        by_cases c57 : x12_4 < (l1.length : Int)
                        ·rw [if_pos c57] at H
                         have c57b0 : decide (x12_4 < (l1.length : Int)) = true := decide_eq_true c57
                         clear c57
                         by_cases c58 : ((rd_T44 t312 x12_4).f1) = (rd l1 x12_4)
                         ·rw [if_pos c58] at H
                          have c58b0 : (((rd_T44 t312 x12_4).f1) == (rd l1 x12_4)) = true := beq_iff_eq.mpr c58
                          have c58b1 : (((rd_T44 t312 x12_4).f1) != (rd l1 x12_4)) = false := bne_eq_false_iff_eq.mpr c58
                          clear c58
                          by_cases c59 : ((rd_T44 t312 x12_4).f0) > ((rd_T44 t312 x12_4).f1)
                          ·rw [if_pos c59] at H
                           exact absurd H (by simp)
                          ·rw [if_neg c59] at H
                           have c59b0 : decide (((rd_T44 t312 x12_4).f1) < ((rd_T44 t312 x12_4).f0)) = false := decide_eq_false c59
                           clear c59
                           have H' := Aside0.mk H
                           clear H
                           have hnb60 := NB331_317.out
                           have hnc60 := NB317_331.out
                           obtain ⟨⟨hcz61_0, hfz61_0⟩, ⟨hcz61_1, hfz61_1⟩, ⟨hcz61_2, hfz61_2⟩, ⟨hcz61_3, hfz61_3⟩, ⟨hcz61_4, hfz61_4⟩, hcz61_5, hfz61_5⟩ := cs6_ BK331.out
                           have p335 : 0 ≤ ((ji52) : Int) := of_decide_eq_true (by first | (with_reducible assumption) | assumption)
                           have q335 : (ji52) < (t312.length : Int) := of_decide_eq_true (by first | (with_reducible assumption) | assumption)
                           obtain ⟨ad335, A335_2, c335_2, e335, hx335_0, hx335_1, hx335_2, hx335_3, hx335_4, hx335_5, hl335_2, hi335_2⟩ := at_T44 (Kd.S_reads' HO_7.out).2.2 (ji52) p335 q335
                           obtain rfl : ad330 = ad335 := (by injection e335)
                           obtain ⟨ce335, hce335, hMe335, hcc335⟩ := Kd.S_get HO_7.out z44 (ji52) p335 (by first | exact q335 | exact of_decide_eq_true (by first | (with_reducible assumption) | assumption) | (have e_ := (Kd.S_reads' HO_7.out).1; omega))
                           obtain ⟨ve335_2, rfl, ge335_2⟩ := k44_openM hMe335
                           have hv335_2 := hcc335 2 _ rfl
                           rw [add_field _ _ 2 (by omega)] at hv335_2
                           replace hv335_2 := Option.some.inj (hv335_2.symm.trans hx335_2)
                           rw [hv335_2] at ge335_2
                           have HL335_2 := Aside0.mk (show Kd.R k42 42 _ _ _ _ ((rd_T44 t312 (ji52)).f2) from ge335_2)
                           clear hv335_2 ge335_2
                           clear hcc335 hce335
                           have HR335_2 := Aside0.mk hi335_2
                           have HC335_2 := Aside0.mk hl335_2
                           clear hi335_2 hl335_2
                           replace p335 := eq_true p335
                           replace q335 := eq_true q335
                           have p336 : 0 ≤ (x12_4 : Int) := of_decide_eq_true (by first | (with_reducible assumption) | assumption)
                           have q336 : x12_4 < (l1.length : Int) := of_decide_eq_true (by first | (with_reducible assumption) | assumption)
                           obtain ⟨ad336, e336, hx336_0⟩ := Kd.at_int HR1.out x12_4 p336 q336
                           cases e336
                           replace hx336_0 := up_ HB.out hx336_0
                           replace p336 := eq_true p336
                           replace q336 := eq_true q336
                           go_wp2
                           repeat (go_quiet (fail); try go_wp2)
                           go_roundg k5
                           case measure => have := HJ3.out; have := HJ17.out; have := HK3.out; have := HK4.out; have := HK5.out; omega
                           case rel => exact ⟨(wrap64 (x12_4 + 1)), (by first | rfl | (simp; done) | (simp [*]; done)), H', ⟨by have := HJ3.out; have := HJ17.out; have := HK3.out; have := HK4.out; have := HK5.out; omega⟩, ⟨by (with_reducible repeat (first | apply Kd.S_alloc | apply Kd.S_drewN | apply Kd.S_drew)); exact Kd.S_mono HO_7.out (fun _ hk => trivial)⟩, ⟨kv_ BK317.out⟩, ⟨by repeat (first | (with_reducible first | exact HB.out | apply below_alloc | apply pw_below_drewN | apply below_drew1 | refine below_set ?_ GE317.out | refine below_set ?_ GE331.out) | exact HB.out)⟩⟩
                         ·rw [if_neg c58] at H
                          exact absurd H (by simp)
                        ·rw [if_neg c57] at H
                         exact absurd H (by simp)
                       ·rw [if_neg c56] at H
                        exact absurd H (by simp)
                     ·rw [if_neg c54] at H
                      exact absurd H (by simp)
                    ·rw [if_neg c53] at H
                     exact absurd H (by simp)
                   ·rw [if_neg c51] at H
                    have c51b0 : decide (0 < x12_4) = false := decide_eq_false c51
                    clear c51
                    by_cases c62 : 0 ≤ x12_4
                    ·rw [if_pos c62] at H
                     have c62b0 : decide (0 ≤ x12_4) = true := decide_eq_true c62
                     clear c62
                     by_cases c63 : x12_4 < (l1.length : Int)
                     ·rw [if_pos c63] at H
                      have c63b0 : decide (x12_4 < (l1.length : Int)) = true := decide_eq_true c63
                      clear c63
                      by_cases c64 : ((rd_T44 t312 x12_4).f1) = (rd l1 x12_4)
                      ·rw [if_pos c64] at H
                       have c64b0 : (((rd_T44 t312 x12_4).f1) == (rd l1 x12_4)) = true := beq_iff_eq.mpr c64
                       have c64b1 : (((rd_T44 t312 x12_4).f1) != (rd l1 x12_4)) = false := bne_eq_false_iff_eq.mpr c64
                       clear c64
                       by_cases c65 : ((rd_T44 t312 x12_4).f0) > ((rd_T44 t312 x12_4).f1)
                       ·rw [if_pos c65] at H
                        exact absurd H (by simp)
                       ·rw [if_neg c65] at H
                        have c65b0 : decide (((rd_T44 t312 x12_4).f1) < ((rd_T44 t312 x12_4).f0)) = false := decide_eq_false c65
                        clear c65
                        have H' := Aside0.mk H
                        clear H
                        have hnb66 := NB331_317.out
                        have hnc66 := NB317_331.out
                        obtain ⟨⟨hcz67_0, hfz67_0⟩, ⟨hcz67_1, hfz67_1⟩, ⟨hcz67_2, hfz67_2⟩, ⟨hcz67_3, hfz67_3⟩, ⟨hcz67_4, hfz67_4⟩, hcz67_5, hfz67_5⟩ := cs6_ BK331.out
                        have p337 : 0 ≤ (x12_4 : Int) := of_decide_eq_true (by first | (with_reducible assumption) | assumption)
                        have q337 : x12_4 < (l1.length : Int) := of_decide_eq_true (by first | (with_reducible assumption) | assumption)
                        obtain ⟨ad337, e337, hx337_0⟩ := Kd.at_int HR1.out x12_4 p337 q337
                        cases e337
                        replace hx337_0 := up_ HB.out hx337_0
                        replace p337 := eq_true p337
                        replace q337 := eq_true q337
                        go_wp2
                        repeat (go_quiet (fail); try go_wp2)
                        go_roundg k5
                        case measure => have := HJ3.out; have := HJ17.out; have := HK3.out; have := HK4.out; have := HK5.out; omega
                        case rel => exact ⟨(wrap64 (x12_4 + 1)), (by first | rfl | (simp; done) | (simp [*]; done)), H', ⟨by have := HJ3.out; have := HJ17.out; have := HK3.out; have := HK4.out; have := HK5.out; omega⟩, ⟨by (with_reducible repeat (first | apply Kd.S_alloc | apply Kd.S_drewN | apply Kd.S_drew)); exact Kd.S_mono HO_7.out (fun _ hk => trivial)⟩, ⟨kv_ BK317.out⟩, ⟨by repeat (first | (with_reducible first | exact HB.out | apply below_alloc | apply pw_below_drewN | apply below_drew1 | refine below_set ?_ GE317.out | refine below_set ?_ GE331.out) | exact HB.out)⟩⟩
                      ·rw [if_neg c64] at H
                       exact absurd H (by simp)
                     ·rw [if_neg c63] at H
                      exact absurd H (by simp)
                    ·rw [if_neg c62] at H
                     exact absurd H (by simp)
              ·rw [if_neg c41] at H
               exact absurd H (by simp)
             ·rw [if_neg c40] at H
              have c40b0 : decide (x12_4 < (t312.length : Int)) = false := decide_eq_false c40
              clear c40
              obtain rfl := Option.some.inj H
              go_wp2
              repeat (go_quiet (fail); try go_wp2)
              go_ret
              exact ⟨by first | rfl | (simp [errW_none, errW_some] <;> rfl) | (simp [*, errW_none, errW_some] <;> rfl), by repeat (first | (with_reducible first | exact HB.out | apply below_alloc | apply pw_below_drewN | apply below_drew1 | refine below_set ?_ GE317.out) | exact HB.out)⟩
    ·rw [if_neg c15] at H
     have c15b0 : (t315 == 0) = false := beq_eq_false_iff_ne.mpr c15
     have c15b1 : (t315 != 0) = true := bne_iff_ne.mpr c15
     obtain rfl := Option.some.inj H
     go_wp2_with (first | (go_at_call 8; (with_reducible refine (setter_Lines.calls kj3 _ _ l0 _ _ l1 a2 t312 t315 t316 _ ?side1 ?side2 ?side3 ?side4 A14.out).mono ?_); (case side1 => repeat (first | exact (Kd.C_below HR0.out HB.out) | (with_reducible refine Kd.C_alloc ?_ _) | (with_reducible refine Kd.C_drewN ?_ _) | (with_reducible refine Kd.C_drew ?_))); (case side2 => exact HC0.out); (case side3 => repeat (first | exact (Kd.C_below HR1.out HB.out) | (with_reducible refine Kd.C_alloc ?_ _) | (with_reducible refine Kd.C_drewN ?_ _) | (with_reducible refine Kd.C_drew ?_))); (case side4 => exact HC1.out); rintro e w68 ⟨v313, rfl, ho0, hb⟩; have n0_ := Aside0.mk (Kd.S_lower ho0 (below_size (bv_ HB.out))); have n1_ := Aside0.mk (bs_ HB.out hb); clear HB; have HO314 := n0_; have HB := n1_; clear n0_ n1_; (try clear hb); (try clear hb2); (try clear hk); (try clear hi); (try clear ho0)) | ((with_reducible refine gate_dst (N := 8) rfl ?_); (try (refine gate_guard (by rfl) ?_; dsimp only)); refine box_event ?hg (N := 8) ?hd (cs := #[.int .i64 0, .int .i64 0]) (t := 28) ?hr ?_; (case hd => rfl); (case hg => rfl); (case hr => first | (go_simp; done) | (go_simp; rfl)); intro gb317 hg w69 hbox hb; have n0_ := Aside0.mk (Kd.S_below (sv_ HO314.out) hb); have n1_ := Aside0.mk (bs_ HB.out hb); have n2_ := Aside0.mk (hbox); have n3_ := Aside0.mk ((by rw [hg]; exact (below_size (bv_ HB.out)) : w.heap.size ≤ gb317)); have n4_ := Aside0.mk ((by rw [hg]; exact (below_size (bv_ HB.out)) : w.heap.size ≤ gb317)); clear HO314; clear HB; have HO314 := n0_; have HB := n1_; have BK317 := n2_; have GW317 := n3_; have GE317 := n4_; clear n0_ n1_ n2_ n3_ n4_; clear hb hbox hg; obtain ⟨⟨hcz70_0, hfz70_0⟩, hcz70_1, hfz70_1⟩ := cs2_ BK317.out; obtain ⟨Ao71, co71, eo71⟩ := Kd.S_slice HO314.out; subst eo71))
     repeat (go_quiet (first | (go_at_call 8; (with_reducible refine (setter_Lines.calls kj3 _ _ l0 _ _ l1 a2 t312 t315 t316 _ ?side1 ?side2 ?side3 ?side4 A14.out).mono ?_); (case side1 => repeat (first | exact (Kd.C_below HR0.out HB.out) | (with_reducible refine Kd.C_alloc ?_ _) | (with_reducible refine Kd.C_drewN ?_ _) | (with_reducible refine Kd.C_drew ?_))); (case side2 => exact HC0.out); (case side3 => repeat (first | exact (Kd.C_below HR1.out HB.out) | (with_reducible refine Kd.C_alloc ?_ _) | (with_reducible refine Kd.C_drewN ?_ _) | (with_reducible refine Kd.C_drew ?_))); (case side4 => exact HC1.out); rintro e w68 ⟨v313, rfl, ho0, hb⟩; have n0_ := Aside0.mk (Kd.S_lower ho0 (below_size (bv_ HB.out))); have n1_ := Aside0.mk (bs_ HB.out hb); clear HB; have HO314 := n0_; have HB := n1_; clear n0_ n1_; (try clear hb); (try clear hb2); (try clear hk); (try clear hi); (try clear ho0)) | ((with_reducible refine gate_dst (N := 8) rfl ?_); (try (refine gate_guard (by rfl) ?_; dsimp only)); refine box_event ?hg (N := 8) ?hd (cs := #[.int .i64 0, .int .i64 0]) (t := 28) ?hr ?_; (case hd => rfl); (case hg => rfl); (case hr => first | (go_simp; done) | (go_simp; rfl)); intro gb317 hg w69 hbox hb; have n0_ := Aside0.mk (Kd.S_below (sv_ HO314.out) hb); have n1_ := Aside0.mk (bs_ HB.out hb); have n2_ := Aside0.mk (hbox); have n3_ := Aside0.mk ((by rw [hg]; exact (below_size (bv_ HB.out)) : w.heap.size ≤ gb317)); have n4_ := Aside0.mk ((by rw [hg]; exact (below_size (bv_ HB.out)) : w.heap.size ≤ gb317)); clear HO314; clear HB; have HO314 := n0_; have HB := n1_; have BK317 := n2_; have GW317 := n3_; have GE317 := n4_; clear n0_ n1_ n2_ n3_ n4_; clear hb hbox hg; obtain ⟨⟨hcz70_0, hfz70_0⟩, hcz70_1, hfz70_1⟩ := cs2_ BK317.out; obtain ⟨Ao71, co71, eo71⟩ := Kd.S_slice HO314.out; subst eo71)); try go_wp2_with (first | (go_at_call 8; (with_reducible refine (setter_Lines.calls kj3 _ _ l0 _ _ l1 a2 t312 t315 t316 _ ?side1 ?side2 ?side3 ?side4 A14.out).mono ?_); (case side1 => repeat (first | exact (Kd.C_below HR0.out HB.out) | (with_reducible refine Kd.C_alloc ?_ _) | (with_reducible refine Kd.C_drewN ?_ _) | (with_reducible refine Kd.C_drew ?_))); (case side2 => exact HC0.out); (case side3 => repeat (first | exact (Kd.C_below HR1.out HB.out) | (with_reducible refine Kd.C_alloc ?_ _) | (with_reducible refine Kd.C_drewN ?_ _) | (with_reducible refine Kd.C_drew ?_))); (case side4 => exact HC1.out); rintro e w68 ⟨v313, rfl, ho0, hb⟩; have n0_ := Aside0.mk (Kd.S_lower ho0 (below_size (bv_ HB.out))); have n1_ := Aside0.mk (bs_ HB.out hb); clear HB; have HO314 := n0_; have HB := n1_; clear n0_ n1_; (try clear hb); (try clear hb2); (try clear hk); (try clear hi); (try clear ho0)) | ((with_reducible refine gate_dst (N := 8) rfl ?_); (try (refine gate_guard (by rfl) ?_; dsimp only)); refine box_event ?hg (N := 8) ?hd (cs := #[.int .i64 0, .int .i64 0]) (t := 28) ?hr ?_; (case hd => rfl); (case hg => rfl); (case hr => first | (go_simp; done) | (go_simp; rfl)); intro gb317 hg w69 hbox hb; have n0_ := Aside0.mk (Kd.S_below (sv_ HO314.out) hb); have n1_ := Aside0.mk (bs_ HB.out hb); have n2_ := Aside0.mk (hbox); have n3_ := Aside0.mk ((by rw [hg]; exact (below_size (bv_ HB.out)) : w.heap.size ≤ gb317)); have n4_ := Aside0.mk ((by rw [hg]; exact (below_size (bv_ HB.out)) : w.heap.size ≤ gb317)); clear HO314; clear HB; have HO314 := n0_; have HB := n1_; have BK317 := n2_; have GW317 := n3_; have GE317 := n4_; clear n0_ n1_ n2_ n3_ n4_; clear hb hbox hg; obtain ⟨⟨hcz70_0, hfz70_0⟩, hcz70_1, hfz70_1⟩ := cs2_ BK317.out; obtain ⟨Ao71, co71, eo71⟩ := Kd.S_slice HO314.out; subst eo71)))
     go_ret
     exact ⟨by first | rfl | (simp [errW_none, errW_some] <;> rfl) | (simp [*, errW_none, errW_some] <;> rfl), by repeat (first | (with_reducible first | exact HB.out | apply below_alloc | apply pw_below_drewN | apply below_drew1 | refine below_set ?_ GE317.out) | exact HB.out)⟩

/-- The one statement about numbers and lists that is left of the law. -/
def variorumlaw12_SetterKeeps.Pure : Prop := ∀ (x0 : List (S40)) (x1 : List Int) (x2 : Int), (x0.length * 72 ≤ 140737488351232 ∧ ∀ y0 ∈ x0, ((Lit.int .i64 y0.f0).wf = true ∧ (((Lit.int .i64 y0.f1.f0).wf = true ∧ ((Lit.int .i64 y0.f1.f1).wf = true ∧ ((Lit.int .i64 y0.f1.f2).wf = true ∧ ((Lit.int .i64 y0.f1.f3).wf = true)))) ∧ ((Lit.int .i64 y0.f2).wf = true ∧ (True ∧ ((Lit.int .i64 y0.f4).wf = true ∧ ((Lit.int .i64 y0.f5).wf = true))))))) → (x1.length * 8 ≤ 140737488351232 ∧ ∀ y0 ∈ x1, (Lit.int .i64 y0).wf = true) → (Lit.int .i64 x2).wf = true → ∃ k, variorumlaw12_SetterKeeps.f k x0 x1 x2 = some true

end Go.Proofs.Ytpfnfofaajpdmaa.PKe

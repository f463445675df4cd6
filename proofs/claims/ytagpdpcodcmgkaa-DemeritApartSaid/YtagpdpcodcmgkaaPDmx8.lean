/- Written by a program of this session: functions of the given program as plain Lean functions, the walks that show it, and the row of each law, for every input that its statement speaks of. -/
import Derived.Test.YtagpdpcodcmgkaaPDmx0
import Derived.Test.YtagpdpcodcmgkaaPDmx6
import Derived.Test.YtagpdpcodcmgkaaPDmx7
namespace Go.Proofs.Ytagpdpcodcmgkaa.PDm
open Go.RowKit Go.Proofs.YtagpdpcodcmgkaaW.PrintWords Go.Proofs.YtagpdpcodcmgkaaW.PrintLast
set_option linter.unusedVariables false
set_option linter.unusedSimpArgs false

/-! ### variorumlaw10_DemeritApart: function 4 -/
def variorumlaw10_DemeritApart.j0 : Nat → List (S47) → List (S47) → Bool → Int → Int → Int → Int → Option (Bool)
 | 0, _, _, _, _, _, _, _ => none
 | k + 1, x0, x1, x40, x254000, x254001, x254002, x254003 => if x40 = true then ((variorumlaw10_fixed.f k).bind fun t255 => (some t255)) else ((demerit_Cost.f k x0 x254000 x254001 x254002 x254003).bind fun bt256 => ((some (([] : List (S47)) : List (S47))).bind fun y259 => (if 0 ≤ (wrap64 (x254001 + 1)) then (if (wrap64 (x254001 + 1)) ≤ (x0.length : Int) then ((some (x0.take ((wrap64 (x254001 + 1)) : Int).toNat : List (S47))).bind fun y262 => (if y259.length + y262.length < 1954687338268 then ((some (y259 ++ y262 : List (S47))).bind fun y266 => (if y266.length + x1.length < 1954687338268 then ((demerit_Cost.f k (y266 ++ x1) x254000 x254001 x254002 x254003).bind fun bt272 => (if bt256.1 = bt272.1 then (if bt256.2.1 = bt272.2.1 then (if (bt256.2.2 != bt272.2.2) = true then (none) else ((demerit_Cost.f k x0 x254000 x254001 x254002 10000).bind fun bt275 => (if bt256.2.2 = true then (if bt275.2.2 = true then (if bt275.1 = bt256.1 then (if bt275.2.1 = bt256.2.1 then (if bt256.2.1 ≥ 0 then (some (decide (bt256.2.1 ≤ 3))) else (none)) else (none)) else (none)) else (none)) else (some true)))) else (none)) else (none))) else (none))) else (none))) else (none)) else (none))))
def variorumlaw10_DemeritApart.f (k : Nat) (l0 : List (S47)) (l1 : List (S47)) (a2_0 : Int) (a2_1 : Int) (a2_2 : Int) (a2_3 : Int) : Option (Bool) := (variorumlaw10_fixed.f k).bind fun t254 => (if t254 = true then (if (l0.length : Int) > 1000 then (variorumlaw10_DemeritApart.j0 k l0 l1 true a2_0 a2_1 a2_2 a2_3) else (if (l1.length : Int) > 1000 then (variorumlaw10_DemeritApart.j0 k l0 l1 true a2_0 a2_1 a2_2 a2_3) else (if a2_1 < 0 then (variorumlaw10_DemeritApart.j0 k l0 l1 true a2_0 a2_1 a2_2 a2_3) else (variorumlaw10_DemeritApart.j0 k l0 l1 (decide (a2_1 ≥ (l0.length : Int))) a2_0 a2_1 a2_2 a2_3)))) else (variorumlaw10_DemeritApart.j0 k l0 l1 true a2_0 a2_1 a2_2 a2_3))
theorem variorumlaw10_DemeritApart.mono_l : ∀ k, (∀ y0 y1 y2 y3 y4 y5 y6, LeO (variorumlaw10_DemeritApart.j0 k y0 y1 y2 y3 y4 y5 y6) (variorumlaw10_DemeritApart.j0 (k + 1) y0 y1 y2 y3 y4 y5 y6))
 | 0 => fun _ _ _ _ _ _ _ r h => by simp [variorumlaw10_DemeritApart.j0] at h
 | k + 1 => by
  have ih0 := variorumlaw10_DemeritApart.mono_l k
  ·intro y0 y1 y2 y3 y4 y5 y6
   unfold variorumlaw10_DemeritApart.j0
   repeat' first
   | (with_reducible exact ih0 _ _ _ _ _ _ _)
   | (with_reducible exact demerit_Cost.mono _ _ _ _ _ _)
   | (with_reducible exact variorumlaw10_fixed.mono _)
   | (with_reducible exact LeO.refl _)
   | (with_reducible exact LeO.none _)
   | (with_reducible refine LeO.ite ?_ ?_)
   | (with_reducible refine LeO.bind ?_ (fun _ => ?_))
   | exact ih0 _ _ _ _ _ _ _
   | exact demerit_Cost.mono _ _ _ _ _ _
   | exact variorumlaw10_fixed.mono _
   | exact LeO.none _
   | refine LeO.ite ?_ ?_
   | refine LeO.bind ?_ (fun _ => ?_)
theorem variorumlaw10_DemeritApart.mono : ∀ a0 a1 a2 a3 a4 a5 k, LeO (variorumlaw10_DemeritApart.f k a0 a1 a2 a3 a4 a5) (variorumlaw10_DemeritApart.f (k + 1) a0 a1 a2 a3 a4 a5) := by
 intro a0 a1 a2 a3 a4 a5 k
 have ih0 := variorumlaw10_DemeritApart.mono_l k
 unfold variorumlaw10_DemeritApart.f
 repeat' first
   | (with_reducible exact ih0 _ _ _ _ _ _ _)
   | (with_reducible exact demerit_Cost.mono _ _ _ _ _ _)
   | (with_reducible exact variorumlaw10_fixed.mono _)
   | (with_reducible exact LeO.refl _)
   | (with_reducible exact LeO.none _)
   | (with_reducible refine LeO.ite ?_ ?_)
   | (with_reducible refine LeO.bind ?_ (fun _ => ?_))
   | exact ih0 _ _ _ _ _ _ _
   | exact demerit_Cost.mono _ _ _ _ _ _
   | exact variorumlaw10_fixed.mono _
   | exact LeO.none _
   | refine LeO.ite ?_ ?_
   | refine LeO.bind ?_ (fun _ => ?_)
set_option maxHeartbeats 8000000 in
set_option maxRecDepth 100000 in
theorem variorumlaw10_DemeritApart.calls (k : Nat) (A0 : Option Addr) (c0 : Nat) (l0 : List (S47)) (A1 : Option Addr) (c1 : Nat) (l1 : List (S47)) (a2_0 : Int) (a2_1 : Int) (a2_2 : Int) (a2_3 : Int) (r : Bool) (w : World) (hr0 : Kd.C k47 w A0 l0.length l0) (hc0 : l0.length ≤ c0) (hr1 : Kd.C k47 w A1 l1.length l1) (hc1 : l1.length ≤ c1) (h : variorumlaw10_DemeritApart.f k l0 l1 a2_0 a2_1 a2_2 a2_3 = some r) :
  Calls Try.prog 4 #[.slice A0 l0.length c0, .slice A1 l1.length c1, .agg #[.int .i64 a2_0, .int .i64 a2_1, .int .i64 a2_2, .int .i64 a2_3]] w fun e w' => e = .returned (.bool r) ∧ Below w.heap.size w w' := by
 have hu25 := Try.underlying25
 have HR0 := Aside0.mk hr0
 have HC0 := Aside0.mk hc0
 clear hr0 hc0
 have HR1 := Aside0.mk hr1
 have HC1 := Aside0.mk hc1
 clear hr1 hc1
 have HB := Aside0.mk (Below.refl w.heap.size w)
 have H : ((variorumlaw10_fixed.f k).bind fun t254 => (if t254 = true then (if (l0.length : Int) > 1000 then (variorumlaw10_DemeritApart.j0 k l0 l1 true a2_0 a2_1 a2_2 a2_3) else (if (l1.length : Int) > 1000 then (variorumlaw10_DemeritApart.j0 k l0 l1 true a2_0 a2_1 a2_2 a2_3) else (if a2_1 < 0 then (variorumlaw10_DemeritApart.j0 k l0 l1 true a2_0 a2_1 a2_2 a2_3) else (variorumlaw10_DemeritApart.j0 k l0 l1 (decide (a2_1 ≥ (l0.length : Int))) a2_0 a2_1 a2_2 a2_3)))) else (variorumlaw10_DemeritApart.j0 k l0 l1 true a2_0 a2_1 a2_2 a2_3))) = some r := h
 clear h
 have HC4 := Aside0.mk H
 clear H
 go_enter Try.func4, Try.ntmps4
 go_upto_region 1 with (first | ((with_reducible refine gate_dst (N := 5) rfl ?_); (try (refine gate_guard (by rfl) ?_; dsimp only)); refine box_event ?hg (N := 5) ?hd (cs := #[.int .i64 a2_0, .int .i64 a2_1, .int .i64 a2_2, .int .i64 a2_3]) (t := 25) ?hr ?_; (case hd => rfl); (case hg => rfl); (case hr => first | (go_simp; done) | (go_simp; rfl)); intro gb253 hg w5 hbox hb; have n0_ := Aside0.mk (below_step (by repeat (first | (with_reducible first | exact HB.out | apply below_alloc | apply pw_below_drewN | apply below_drew1) | exact HB.out)) hb); have n1_ := Aside0.mk (hbox); have n2_ := Aside0.mk ((by rw [hg]; exact (below_size (by repeat (first | (with_reducible first | exact HB.out | apply below_alloc | apply pw_below_drewN | apply below_drew1) | exact HB.out))) : w.heap.size ≤ gb253)); have n3_ := Aside0.mk ((by rw [hg]; exact (below_size (by repeat (first | (with_reducible first | exact HB.out | apply below_alloc | apply pw_below_drewN | apply below_drew1) | exact HB.out))) : w.heap.size ≤ gb253)); clear HB; have HB := n0_; have BK253 := n1_; have GW253 := n2_; have GE253 := n3_; clear n0_ n1_ n2_ n3_; clear hb hbox hg))
 (try simp only [Act.put, List.setIfInBounds_toArray, List.set_cons_zero, List.set_cons_succ])
 go_cut [40] (fun v40 wc => ∃ (kq : Nat) (x40_3 : Bool), v40 = .bool x40_3 ∧ Aside0 (variorumlaw10_DemeritApart.j0 kq l0 l1 x40_3 a2_0 a2_1 a2_2 a2_3 = some r) ∧ Aside0 (kq ≤ k) ∧ Aside0 (wc.heap[gb253]? = some (.cells #[.int .i64 a2_0, .int .i64 a2_1, .int .i64 a2_2, .int .i64 a2_3] 25 (0, 0))) ∧ Aside0 (Below w.heap.size w wc))
 case first =>
  have H := HC4.out
  clear HC4
  replace H := Option.bind_eq_some_iff.mp H
  obtain ⟨t254, A60, H⟩ := H
  replace H : (if t254 = true then (if (l0.length : Int) > 1000 then (variorumlaw10_DemeritApart.j0 k l0 l1 true a2_0 a2_1 a2_2 a2_3) else (if (l1.length : Int) > 1000 then (variorumlaw10_DemeritApart.j0 k l0 l1 true a2_0 a2_1 a2_2 a2_3) else (if a2_1 < 0 then (variorumlaw10_DemeritApart.j0 k l0 l1 true a2_0 a2_1 a2_2 a2_3) else (variorumlaw10_DemeritApart.j0 k l0 l1 (decide (a2_1 ≥ (l0.length : Int))) a2_0 a2_1 a2_2 a2_3)))) else (variorumlaw10_DemeritApart.j0 k l0 l1 true a2_0 a2_1 a2_2 a2_3)) = some r := H
  have A6 := Aside0.mk A60
  clear A60
  by_cases c7 : t254 = true
  ·subst c7
   have H1 : (if (l0.length : Int) > 1000 then (variorumlaw10_DemeritApart.j0 k l0 l1 true a2_0 a2_1 a2_2 a2_3) else (if (l1.length : Int) > 1000 then (variorumlaw10_DemeritApart.j0 k l0 l1 true a2_0 a2_1 a2_2 a2_3) else (if a2_1 < 0 then (variorumlaw10_DemeritApart.j0 k l0 l1 true a2_0 a2_1 a2_2 a2_3) else (variorumlaw10_DemeritApart.j0 k l0 l1 (decide (a2_1 ≥ (l0.length : Int))) a2_0 a2_1 a2_2 a2_3)))) = some r := by rw [if_pos rfl] at H; exact H
   clear H
   have H := H1
   clear H1
   by_cases c8 : (l0.length : Int) > 1000
   ·rw [if_pos c8] at H
    have c8b0 : decide (1000 < (l0.length : Int)) = true := decide_eq_true c8
    have c8b1 : decide (1000 < l0.length) = true := decide_eq_true (by omega)
    clear c8
    (first | rw [c8b0] | (simp only [i64_w, i32_w]; rw [c8b0]) | skip)
    have H' := Aside0.mk H
    clear H
    go_wp2_with (first | ((with_reducible refine gate_callee (f := 6) rfl ?_); refine goesL_ (some 17) rfl rfl Try.func6 (by kernel_rfl) rfl #[] rfl (by (try simp only [List.map_toArray, List.map_cons, List.map_nil]); first | done | rfl | (simp only [List.length_drop, List.length_take]; rfl) | (simp only [*]; first | done | rfl)) ?_; (with_reducible refine (variorumlaw10_fixed.calls k  true _ A6.out).mono ?_); rintro e w9 ⟨rfl, hb⟩; refine ⟨_, rfl, ?_⟩; have n0_ := Aside0.mk (blk_below (g := gb253) (o := .cells #[.int .i64 a2_0, .int .i64 a2_1, .int .i64 a2_2, .int .i64 a2_3] 25 (0, 0)) (by (with_reducible repeat (first | refine blk_drewN ?_ _ | refine blk_drew ?_ | refine blk_alloc ?_ _)); exact BK253.out) hb); have n1_ := Aside0.mk (below_step (by repeat (first | (with_reducible first | exact HB.out | apply below_alloc | apply pw_below_drewN | apply below_drew1 | refine below_set ?_ GE253.out) | exact HB.out)) hb); clear BK253; clear HB; have BK253 := n0_; have HB := n1_; clear n0_ n1_; (try clear hb); (try clear hb2); (try clear hk); (try clear hi)))
    go_meet
    case rel => exact ⟨_, (true), (by first | rfl | (simp; done) | (simp [*]; done)), H', ⟨by first | omega | exact Nat.le_refl _⟩, ⟨by (with_reducible repeat (first | refine blk_drewN ?_ _ | refine blk_drew ?_ | refine blk_alloc ?_ _)); exact BK253.out⟩, ⟨by repeat (first | (with_reducible first | exact HB.out | apply below_alloc | apply pw_below_drewN | apply below_drew1 | refine below_set ?_ GE253.out) | exact HB.out)⟩⟩
   ·rw [if_neg c8] at H
    have c8b0 : decide (1000 < (l0.length : Int)) = false := decide_eq_false c8
    have c8b1 : decide (1000 < l0.length) = false := decide_eq_false (by omega)
    clear c8
    (first | rw [c8b0] | (simp only [i64_w, i32_w]; rw [c8b0]) | skip)
    by_cases c10 : (l1.length : Int) > 1000
    ·rw [if_pos c10] at H
     have c10b0 : decide (1000 < (l1.length : Int)) = true := decide_eq_true c10
     have c10b1 : decide (1000 < l1.length) = true := decide_eq_true (by omega)
     clear c10
     have H' := Aside0.mk H
     clear H
     go_wp2_with (first | ((with_reducible refine gate_callee (f := 6) rfl ?_); refine goesL_ (some 17) rfl rfl Try.func6 (by kernel_rfl) rfl #[] rfl (by (try simp only [List.map_toArray, List.map_cons, List.map_nil]); first | done | rfl | (simp only [List.length_drop, List.length_take]; rfl) | (simp only [*]; first | done | rfl)) ?_; (with_reducible refine (variorumlaw10_fixed.calls k  true _ A6.out).mono ?_); rintro e w11 ⟨rfl, hb⟩; refine ⟨_, rfl, ?_⟩; have n0_ := Aside0.mk (blk_below (g := gb253) (o := .cells #[.int .i64 a2_0, .int .i64 a2_1, .int .i64 a2_2, .int .i64 a2_3] 25 (0, 0)) (by (with_reducible repeat (first | refine blk_drewN ?_ _ | refine blk_drew ?_ | refine blk_alloc ?_ _)); exact BK253.out) hb); have n1_ := Aside0.mk (below_step (by repeat (first | (with_reducible first | exact HB.out | apply below_alloc | apply pw_below_drewN | apply below_drew1 | refine below_set ?_ GE253.out) | exact HB.out)) hb); clear BK253; clear HB; have BK253 := n0_; have HB := n1_; clear n0_ n1_; (try clear hb); (try clear hb2); (try clear hk); (try clear hi)))
     go_meet
     case rel => exact ⟨_, (true), (by first | rfl | (simp; done) | (simp [*]; done)), H', ⟨by first | omega | exact Nat.le_refl _⟩, ⟨by (with_reducible repeat (first | refine blk_drewN ?_ _ | refine blk_drew ?_ | refine blk_alloc ?_ _)); exact BK253.out⟩, ⟨by repeat (first | (with_reducible first | exact HB.out | apply below_alloc | apply pw_below_drewN | apply below_drew1 | refine below_set ?_ GE253.out) | exact HB.out)⟩⟩
    ·rw [if_neg c10] at H
     have c10b0 : decide (1000 < (l1.length : Int)) = false := decide_eq_false c10
     have c10b1 : decide (1000 < l1.length) = false := decide_eq_false (by omega)
     clear c10
     by_cases c12 : a2_1 < 0
     ·rw [if_pos c12] at H
      have c12b0 : decide (a2_1 < 0) = true := decide_eq_true c12
      clear c12
      have H' := Aside0.mk H
      clear H
      go_wp2_with (first | ((with_reducible refine gate_callee (f := 6) rfl ?_); refine goesL_ (some 17) rfl rfl Try.func6 (by kernel_rfl) rfl #[] rfl (by (try simp only [List.map_toArray, List.map_cons, List.map_nil]); first | done | rfl | (simp only [List.length_drop, List.length_take]; rfl) | (simp only [*]; first | done | rfl)) ?_; (with_reducible refine (variorumlaw10_fixed.calls k  true _ A6.out).mono ?_); rintro e w13 ⟨rfl, hb⟩; refine ⟨_, rfl, ?_⟩; have n0_ := Aside0.mk (blk_below (g := gb253) (o := .cells #[.int .i64 a2_0, .int .i64 a2_1, .int .i64 a2_2, .int .i64 a2_3] 25 (0, 0)) (by (with_reducible repeat (first | refine blk_drewN ?_ _ | refine blk_drew ?_ | refine blk_alloc ?_ _)); exact BK253.out) hb); have n1_ := Aside0.mk (below_step (by repeat (first | (with_reducible first | exact HB.out | apply below_alloc | apply pw_below_drewN | apply below_drew1 | refine below_set ?_ GE253.out) | exact HB.out)) hb); clear BK253; clear HB; have BK253 := n0_; have HB := n1_; clear n0_ n1_; (try clear hb); (try clear hb2); (try clear hk); (try clear hi); have hcz14_0 : w13.cell? ⟨gb253, 0, none⟩ = some (.int .i64 a2_0) := (blk_cell BK253.out 0).trans rfl; have hcz14_1 : w13.cell? ⟨gb253, 1, none⟩ = some (.int .i64 a2_1) := (blk_cell BK253.out 1).trans rfl; have hcz14_2 : w13.cell? ⟨gb253, 2, none⟩ = some (.int .i64 a2_2) := (blk_cell BK253.out 2).trans rfl; have hcz14_3 : w13.cell? ⟨gb253, 3, none⟩ = some (.int .i64 a2_3) := (blk_cell BK253.out 3).trans rfl; have hfz14_0 := blk_frozen BK253.out 0; have hfz14_1 := blk_frozen BK253.out 1; have hfz14_2 := blk_frozen BK253.out 2; have hfz14_3 := blk_frozen BK253.out 3))
      go_meet
      case rel => exact ⟨_, (true), (by first | rfl | (simp; done) | (simp [*]; done)), H', ⟨by first | omega | exact Nat.le_refl _⟩, ⟨by (with_reducible repeat (first | refine blk_drewN ?_ _ | refine blk_drew ?_ | refine blk_alloc ?_ _)); exact BK253.out⟩, ⟨by repeat (first | (with_reducible first | exact HB.out | apply below_alloc | apply pw_below_drewN | apply below_drew1 | refine below_set ?_ GE253.out) | exact HB.out)⟩⟩
     ·rw [if_neg c12] at H
      have c12b0 : decide (a2_1 < 0) = false := decide_eq_false c12
      clear c12
      have H' := Aside0.mk H
      clear H
      go_wp2_with (first | ((with_reducible refine gate_callee (f := 6) rfl ?_); refine goesL_ (some 17) rfl rfl Try.func6 (by kernel_rfl) rfl #[] rfl (by (try simp only [List.map_toArray, List.map_cons, List.map_nil]); first | done | rfl | (simp only [List.length_drop, List.length_take]; rfl) | (simp only [*]; first | done | rfl)) ?_; (with_reducible refine (variorumlaw10_fixed.calls k  true _ A6.out).mono ?_); rintro e w15 ⟨rfl, hb⟩; refine ⟨_, rfl, ?_⟩; have n0_ := Aside0.mk (blk_below (g := gb253) (o := .cells #[.int .i64 a2_0, .int .i64 a2_1, .int .i64 a2_2, .int .i64 a2_3] 25 (0, 0)) (by (with_reducible repeat (first | refine blk_drewN ?_ _ | refine blk_drew ?_ | refine blk_alloc ?_ _)); exact BK253.out) hb); have n1_ := Aside0.mk (below_step (by repeat (first | (with_reducible first | exact HB.out | apply below_alloc | apply pw_below_drewN | apply below_drew1 | refine below_set ?_ GE253.out) | exact HB.out)) hb); clear BK253; clear HB; have BK253 := n0_; have HB := n1_; clear n0_ n1_; (try clear hb); (try clear hb2); (try clear hk); (try clear hi); have hcz16_0 : w15.cell? ⟨gb253, 0, none⟩ = some (.int .i64 a2_0) := (blk_cell BK253.out 0).trans rfl; have hcz16_1 : w15.cell? ⟨gb253, 1, none⟩ = some (.int .i64 a2_1) := (blk_cell BK253.out 1).trans rfl; have hcz16_2 : w15.cell? ⟨gb253, 2, none⟩ = some (.int .i64 a2_2) := (blk_cell BK253.out 2).trans rfl; have hcz16_3 : w15.cell? ⟨gb253, 3, none⟩ = some (.int .i64 a2_3) := (blk_cell BK253.out 3).trans rfl; have hfz16_0 := blk_frozen BK253.out 0; have hfz16_1 := blk_frozen BK253.out 1; have hfz16_2 := blk_frozen BK253.out 2; have hfz16_3 := blk_frozen BK253.out 3))
      go_meet
      case rel => exact ⟨_, (decide (a2_1 ≥ (l0.length : Int))), (by first | rfl | (simp; done) | (simp [*]; done)), H', ⟨by first | omega | exact Nat.le_refl _⟩, ⟨by (with_reducible repeat (first | refine blk_drewN ?_ _ | refine blk_drew ?_ | refine blk_alloc ?_ _)); exact BK253.out⟩, ⟨by repeat (first | (with_reducible first | exact HB.out | apply below_alloc | apply pw_below_drewN | apply below_drew1 | refine below_set ?_ GE253.out) | exact HB.out)⟩⟩
  ·replace c7 := Bool.eq_false_iff.mpr c7
   subst c7
   have H1 : (variorumlaw10_DemeritApart.j0 k l0 l1 true a2_0 a2_1 a2_2 a2_3) = some r := by rw [if_neg (show ¬ (false = true) by decide)] at H; exact H
   clear H
   have H := H1
   clear H1
   have H' := Aside0.mk H
   clear H
   go_wp2_with (first | ((with_reducible refine gate_callee (f := 6) rfl ?_); refine goesL_ (some 17) rfl rfl Try.func6 (by kernel_rfl) rfl #[] rfl (by (try simp only [List.map_toArray, List.map_cons, List.map_nil]); first | done | rfl | (simp only [List.length_drop, List.length_take]; rfl) | (simp only [*]; first | done | rfl)) ?_; (with_reducible refine (variorumlaw10_fixed.calls k  false _ A6.out).mono ?_); rintro e w17 ⟨rfl, hb⟩; refine ⟨_, rfl, ?_⟩; have n0_ := Aside0.mk (blk_below (g := gb253) (o := .cells #[.int .i64 a2_0, .int .i64 a2_1, .int .i64 a2_2, .int .i64 a2_3] 25 (0, 0)) (by (with_reducible repeat (first | refine blk_drewN ?_ _ | refine blk_drew ?_ | refine blk_alloc ?_ _)); exact BK253.out) hb); have n1_ := Aside0.mk (below_step (by repeat (first | (with_reducible first | exact HB.out | apply below_alloc | apply pw_below_drewN | apply below_drew1 | refine below_set ?_ GE253.out) | exact HB.out)) hb); clear BK253; clear HB; have BK253 := n0_; have HB := n1_; clear n0_ n1_; (try clear hb); (try clear hb2); (try clear hk); (try clear hi)))
   go_meet
   case rel => exact ⟨_, (true), (by first | rfl | (simp; done) | (simp [*]; done)), H', ⟨by first | omega | exact Nat.le_refl _⟩, ⟨by (with_reducible repeat (first | refine blk_drewN ?_ _ | refine blk_drew ?_ | refine blk_alloc ?_ _)); exact BK253.out⟩, ⟨by repeat (first | (with_reducible first | exact HB.out | apply below_alloc | apply pw_below_drewN | apply below_drew1 | refine below_set ?_ GE253.out) | exact HB.out)⟩⟩
 case rest =>
  clear HC4
  try clear c1
  try clear p2
  try clear c4
  try clear c6
  try clear c7
  try clear c8
  try clear c8b0
  try clear c8b1
  try clear c10
  try clear c10b0
  try clear c10b1
  try clear c12
  try clear c12b0
  try clear hcz14_0
  try clear hcz14_1
  try clear hcz14_2
  try clear hcz14_3
  try clear hcz16_0
  try clear hcz16_1
  try clear hcz16_2
  try clear hcz16_3
  try clear hfz14_0
  try clear hfz14_1
  try clear hfz14_2
  try clear hfz14_3
  try clear hfz16_0
  try clear hfz16_1
  try clear hfz16_2
  try clear hfz16_3
  obtain ⟨kq, x40_3, rfl, HA, HJ3, BK253, HB⟩ := hcut
  cases kq with
  | zero => exact absurd HA.out (by simp [variorumlaw10_DemeritApart.j0])
  | succ kj3 =>
   have H := HA.out
   clear HA
   simp only [variorumlaw10_DemeritApart.j0] at H
   by_cases c18 : x40_3 = true
   ·subst c18
    have H1 : ((variorumlaw10_fixed.f kj3).bind fun t255 => (some t255)) = some r := by rw [if_pos rfl] at H; exact H
    clear H
    have H := H1
    clear H1
    replace H := Option.bind_eq_some_iff.mp H
    obtain ⟨t255, A190, H⟩ := H
    replace H : (some t255) = some r := H
    have A19 := Aside0.mk A190
    clear A190
    obtain rfl := Option.some.inj H
    go_wp2_with (first | ((with_reducible refine gate_callee (f := 6) rfl ?_); refine goesL_ (some 41) rfl rfl Try.func6 (by kernel_rfl) rfl #[] rfl (by (try simp only [List.map_toArray, List.map_cons, List.map_nil]); first | done | rfl | (simp only [List.length_drop, List.length_take]; rfl) | (simp only [*]; first | done | rfl)) ?_; (with_reducible refine (variorumlaw10_fixed.calls kj3  t255 _ A19.out).mono ?_); rintro e w20 ⟨rfl, hb⟩; refine ⟨_, rfl, ?_⟩; have n0_ := Aside0.mk (blk_below (g := gb253) (o := .cells #[.int .i64 a2_0, .int .i64 a2_1, .int .i64 a2_2, .int .i64 a2_3] 25 (0, 0)) (by (with_reducible repeat (first | refine blk_drewN ?_ _ | refine blk_drew ?_ | refine blk_alloc ?_ _)); exact BK253.out) hb); have n1_ := Aside0.mk (below_step (by repeat (first | (with_reducible first | exact HB.out | apply below_alloc | apply pw_below_drewN | apply below_drew1 | refine below_set ?_ GE253.out) | exact HB.out)) hb); clear BK253; clear HB; have BK253 := n0_; have HB := n1_; clear n0_ n1_; (try clear hb); (try clear hb2); (try clear hk); (try clear hi)))
    go_ret
    exact ⟨by first | rfl | (simp [errW_none, errW_some] <;> rfl) | (simp [*, errW_none, errW_some] <;> rfl), by repeat (first | (with_reducible first | exact HB.out | apply below_alloc | apply pw_below_drewN | apply below_drew1 | refine below_set ?_ GE253.out) | exact HB.out)⟩
   ·replace c18 := Bool.eq_false_iff.mpr c18
    subst c18
    have H1 : ((demerit_Cost.f kj3 l0 a2_0 a2_1 a2_2 a2_3).bind fun bt256 => ((some (([] : List (S47)) : List (S47))).bind fun y259 => (if 0 ≤ (wrap64 (a2_1 + 1)) then (if (wrap64 (a2_1 + 1)) ≤ (l0.length : Int) then ((some (l0.take ((wrap64 (a2_1 + 1)) : Int).toNat : List (S47))).bind fun y262 => (if y259.length + y262.length < 1954687338268 then ((some (y259 ++ y262 : List (S47))).bind fun y266 => (if y266.length + l1.length < 1954687338268 then ((demerit_Cost.f kj3 (y266 ++ l1) a2_0 a2_1 a2_2 a2_3).bind fun bt272 => (if bt256.1 = bt272.1 then (if bt256.2.1 = bt272.2.1 then (if (bt256.2.2 != bt272.2.2) = true then (none) else ((demerit_Cost.f kj3 l0 a2_0 a2_1 a2_2 10000).bind fun bt275 => (if bt256.2.2 = true then (if bt275.2.2 = true then (if bt275.1 = bt256.1 then (if bt275.2.1 = bt256.2.1 then (if bt256.2.1 ≥ 0 then (some (decide (bt256.2.1 ≤ 3))) else (none)) else (none)) else (none)) else (none)) else (some true)))) else (none)) else (none))) else (none))) else (none))) else (none)) else (none)))) = some r := by rw [if_neg (show ¬ (false = true) by decide)] at H; exact H
    clear H
    have H := H1
    clear H1
    replace H := Option.bind_eq_some_iff.mp H
    obtain ⟨⟨t256, t257, t258⟩, A210, H⟩ := H
    replace H : ((some (([] : List (S47)) : List (S47))).bind fun y259 => (if 0 ≤ (wrap64 (a2_1 + 1)) then (if (wrap64 (a2_1 + 1)) ≤ (l0.length : Int) then ((some (l0.take ((wrap64 (a2_1 + 1)) : Int).toNat : List (S47))).bind fun y262 => (if y259.length + y262.length < 1954687338268 then ((some (y259 ++ y262 : List (S47))).bind fun y266 => (if y266.length + l1.length < 1954687338268 then ((demerit_Cost.f kj3 (y266 ++ l1) a2_0 a2_1 a2_2 a2_3).bind fun bt272 => (if t256 = bt272.1 then (if t257 = bt272.2.1 then (if (t258 != bt272.2.2) = true then (none) else ((demerit_Cost.f kj3 l0 a2_0 a2_1 a2_2 10000).bind fun bt275 => (if t258 = true then (if bt275.2.2 = true then (if bt275.1 = t256 then (if bt275.2.1 = t257 then (if t257 ≥ 0 then (some (decide (t257 ≤ 3))) else (none)) else (none)) else (none)) else (none)) else (some true)))) else (none)) else (none))) else (none))) else (none))) else (none)) else (none))) = some r := H
    have A21 := Aside0.mk A210
    clear A210
    obtain ⟨y259, hy259⟩ : ∃ y_ : List (S47), y_ = (([] : List (S47))) := ⟨_, rfl⟩
    replace H : (if 0 ≤ (wrap64 (a2_1 + 1)) then (if (wrap64 (a2_1 + 1)) ≤ (l0.length : Int) then ((some (l0.take ((wrap64 (a2_1 + 1)) : Int).toNat : List (S47))).bind fun y262 => (if y259.length + y262.length < 1954687338268 then ((some (y259 ++ y262 : List (S47))).bind fun y266 => (if y266.length + l1.length < 1954687338268 then ((demerit_Cost.f kj3 (y266 ++ l1) a2_0 a2_1 a2_2 a2_3).bind fun bt272 => (if t256 = bt272.1 then (if t257 = bt272.2.1 then (if (t258 != bt272.2.2) = true then (none) else ((demerit_Cost.f kj3 l0 a2_0 a2_1 a2_2 10000).bind fun bt275 => (if t258 = true then (if bt275.2.2 = true then (if bt275.1 = t256 then (if bt275.2.1 = t257 then (if t257 ≥ 0 then (some (decide (t257 ≤ 3))) else (none)) else (none)) else (none)) else (none)) else (some true)))) else (none)) else (none))) else (none))) else (none))) else (none)) else (none)) = some r := by first | (rw [hy259]; with_reducible exact H) | (have H2_ := (Option.bind_some _ _).symm.trans H; rw [hy259]; with_reducible exact H2_) | (have H2_ := (Option.bind_some _ _).symm.trans H; with_reducible exact H2_) | with_reducible exact H | (rw [hy259]; exact H) | exact H
    have Ny259 := Aside0.mk hy259
    clear hy259
    obtain ⟨ji22, hji22⟩ : ∃ j_ : Int, (wrap64 (a2_1 + 1)) = j_ := ⟨_, rfl⟩
    replace H : (if 0 ≤ (ji22) then (if (ji22) ≤ (l0.length : Int) then ((some (l0.take ((ji22) : Int).toNat : List (S47))).bind fun y262 => (if y259.length + y262.length < 1954687338268 then ((some (y259 ++ y262 : List (S47))).bind fun y266 => (if y266.length + l1.length < 1954687338268 then ((demerit_Cost.f kj3 (y266 ++ l1) a2_0 a2_1 a2_2 a2_3).bind fun bt272 => (if t256 = bt272.1 then (if t257 = bt272.2.1 then (if (t258 != bt272.2.2) = true then (none) else ((demerit_Cost.f kj3 l0 a2_0 a2_1 a2_2 10000).bind fun bt275 => (if t258 = true then (if bt275.2.2 = true then (if bt275.1 = t256 then (if bt275.2.1 = t257 then (if t257 ≥ 0 then (some (decide (t257 ≤ 3))) else (none)) else (none)) else (none)) else (none)) else (some true)))) else (none)) else (none))) else (none))) else (none))) else (none)) else (none)) = some r := by first | (rw [hji22] at H; exact H) | (simp only [hji22] at H ⊢; exact H)
    (try rw [hji22] at A21)
    have hji22w : (IntKind.i64.wrap (a2_1 + 1)) = ji22 := (i64_w _).trans hji22
    by_cases c23 : 0 ≤ (ji22)
    ·rw [if_pos c23] at H
     have c23b0 := eq_true c23
     have c23b1 : decide (0 ≤ (ji22)) = true := decide_eq_true c23
     clear c23
     by_cases c24 : (ji22) ≤ (l0.length : Int)
     ·rw [if_pos c24] at H
      have c24b0 := eq_true c24
      have c24b1 : decide ((ji22) ≤ (l0.length : Int)) = true := decide_eq_true c24
      clear c24
      obtain ⟨y262, hy262⟩ : ∃ y_ : List (S47), y_ = (l0.take ((ji22) : Int).toNat) := ⟨_, rfl⟩
      replace H : (if y259.length + y262.length < 1954687338268 then ((some (y259 ++ y262 : List (S47))).bind fun y266 => (if y266.length + l1.length < 1954687338268 then ((demerit_Cost.f kj3 (y266 ++ l1) a2_0 a2_1 a2_2 a2_3).bind fun bt272 => (if t256 = bt272.1 then (if t257 = bt272.2.1 then (if (t258 != bt272.2.2) = true then (none) else ((demerit_Cost.f kj3 l0 a2_0 a2_1 a2_2 10000).bind fun bt275 => (if t258 = true then (if bt275.2.2 = true then (if bt275.1 = t256 then (if bt275.2.1 = t257 then (if t257 ≥ 0 then (some (decide (t257 ≤ 3))) else (none)) else (none)) else (none)) else (none)) else (some true)))) else (none)) else (none))) else (none))) else (none)) = some r := by first | (rw [hy262]; with_reducible exact H) | (have H2_ := (Option.bind_some _ _).symm.trans H; rw [hy262]; with_reducible exact H2_) | (have H2_ := (Option.bind_some _ _).symm.trans H; with_reducible exact H2_) | with_reducible exact H | (rw [hy262]; exact H) | exact H
      have Ny262 := Aside0.mk hy262
      clear hy262
      by_cases c25 : y259.length + y262.length < 1954687338268
      ·rw [if_pos c25] at H
       have LMc25 := Aside0.mk c25
       clear c25
       obtain ⟨y266, hy266⟩ : ∃ y_ : List (S47), y_ = (y259 ++ y262) := ⟨_, rfl⟩
       replace H : (if y266.length + l1.length < 1954687338268 then ((demerit_Cost.f kj3 (y266 ++ l1) a2_0 a2_1 a2_2 a2_3).bind fun bt272 => (if t256 = bt272.1 then (if t257 = bt272.2.1 then (if (t258 != bt272.2.2) = true then (none) else ((demerit_Cost.f kj3 l0 a2_0 a2_1 a2_2 10000).bind fun bt275 => (if t258 = true then (if bt275.2.2 = true then (if bt275.1 = t256 then (if bt275.2.1 = t257 then (if t257 ≥ 0 then (some (decide (t257 ≤ 3))) else (none)) else (none)) else (none)) else (none)) else (some true)))) else (none)) else (none))) else (none)) = some r := by first | (rw [hy266]; with_reducible exact H) | (have H2_ := (Option.bind_some _ _).symm.trans H; rw [hy266]; with_reducible exact H2_) | (have H2_ := (Option.bind_some _ _).symm.trans H; with_reducible exact H2_) | with_reducible exact H | (rw [hy266]; exact H) | exact H
       have Ny266 := Aside0.mk hy266
       clear hy266
       by_cases c26 : y266.length + l1.length < 1954687338268
       ·rw [if_pos c26] at H
        have LMc26 := Aside0.mk c26
        clear c26
        obtain ⟨y269, hy269⟩ : ∃ y_ : List (S47), y_ = (y266 ++ l1) := ⟨_, rfl⟩
        replace H : ((demerit_Cost.f kj3 y269 a2_0 a2_1 a2_2 a2_3).bind fun bt272 => (if t256 = bt272.1 then (if t257 = bt272.2.1 then (if (t258 != bt272.2.2) = true then (none) else ((demerit_Cost.f kj3 l0 a2_0 a2_1 a2_2 10000).bind fun bt275 => (if t258 = true then (if bt275.2.2 = true then (if bt275.1 = t256 then (if bt275.2.1 = t257 then (if t257 ≥ 0 then (some (decide (t257 ≤ 3))) else (none)) else (none)) else (none)) else (none)) else (some true)))) else (none)) else (none))) = some r := by first | (rw [hy269]; with_reducible exact H) | (have H2_ := (Option.bind_some _ _).symm.trans H; rw [hy269]; with_reducible exact H2_) | (have H2_ := (Option.bind_some _ _).symm.trans H; with_reducible exact H2_) | with_reducible exact H | (rw [hy269]; exact H) | exact H
        have Ny269 := Aside0.mk hy269
        clear hy269
        replace H := Option.bind_eq_some_iff.mp H
        obtain ⟨⟨t272, t273, t274⟩, A270, H⟩ := H
        replace H : (if t256 = t272 then (if t257 = t273 then (if (t258 != t274) = true then (none) else ((demerit_Cost.f kj3 l0 a2_0 a2_1 a2_2 10000).bind fun bt275 => (if t258 = true then (if bt275.2.2 = true then (if bt275.1 = t256 then (if bt275.2.1 = t257 then (if t257 ≥ 0 then (some (decide (t257 ≤ 3))) else (none)) else (none)) else (none)) else (none)) else (some true)))) else (none)) else (none)) = some r := H
        have A27 := Aside0.mk A270
        clear A270
        by_cases c28 : t256 = t272
        ·rw [if_pos c28] at H
         have c28b0 : (t256 == t272) = true := beq_iff_eq.mpr c28
         have c28b1 : (t256 != t272) = false := bne_eq_false_iff_eq.mpr c28
         clear c28
         by_cases c29 : t257 = t273
         ·rw [if_pos c29] at H
          have c29b0 : (t257 == t273) = true := beq_iff_eq.mpr c29
          have c29b1 : (t257 != t273) = false := bne_eq_false_iff_eq.mpr c29
          clear c29
          by_cases c30 : (t258 != t274) = true
          ·rw [if_pos c30] at H
           exact absurd H (by simp)
          ·rw [if_neg c30] at H
           have c30b0 : (t258 != t274) = false := by simpa using c30
           (try (have c30b1 : decide (t258 = t274) = true := by simpa using c30))
           (try (have c30b2 : (t258 == t274) = true := by simpa using c30))
           clear c30
           replace H := Option.bind_eq_some_iff.mp H
           obtain ⟨⟨t275, t276, t277⟩, A310, H⟩ := H
           replace H : (if t258 = true then (if t277 = true then (if t275 = t256 then (if t276 = t257 then (if t257 ≥ 0 then (some (decide (t257 ≤ 3))) else (none)) else (none)) else (none)) else (none)) else (some true)) = some r := H
           have A31 := Aside0.mk A310
           clear A310
           by_cases c32 : t258 = true
           ·subst c32
            have H1 : (if t277 = true then (if t275 = t256 then (if t276 = t257 then (if t257 ≥ 0 then (some (decide (t257 ≤ 3))) else (none)) else (none)) else (none)) else (none)) = some r := by rw [if_pos rfl] at H; exact H
            clear H
            have H := H1
            clear H1
            by_cases c33 : t277 = true
            ·subst c33
             have H1 : (if t275 = t256 then (if t276 = t257 then (if t257 ≥ 0 then (some (decide (t257 ≤ 3))) else (none)) else (none)) else (none)) = some r := by rw [if_pos rfl] at H; exact H
             clear H
             have H := H1
             clear H1
             by_cases c34 : t275 = t256
             ·rw [if_pos c34] at H
              have c34b0 : (t275 == t256) = true := beq_iff_eq.mpr c34
              have c34b1 : (t275 != t256) = false := bne_eq_false_iff_eq.mpr c34
              clear c34
              by_cases c35 : t276 = t257
              ·rw [if_pos c35] at H
               have c35b0 : (t276 == t257) = true := beq_iff_eq.mpr c35
               have c35b1 : (t276 != t257) = false := bne_eq_false_iff_eq.mpr c35
               clear c35
               by_cases c36 : t257 ≥ 0
               ·rw [if_pos c36] at H
                have c36b0 : decide (0 ≤ t257) = true := decide_eq_true c36
                clear c36
                obtain rfl := Option.some.inj H
                have hcz37_0 : wc.cell? ⟨gb253, 0, none⟩ = some (.int .i64 a2_0) := (blk_cell BK253.out 0).trans rfl
                have hcz37_1 : wc.cell? ⟨gb253, 1, none⟩ = some (.int .i64 a2_1) := (blk_cell BK253.out 1).trans rfl
                have hcz37_2 : wc.cell? ⟨gb253, 2, none⟩ = some (.int .i64 a2_2) := (blk_cell BK253.out 2).trans rfl
                have hcz37_3 : wc.cell? ⟨gb253, 3, none⟩ = some (.int .i64 a2_3) := (blk_cell BK253.out 3).trans rfl
                have hfz37_0 := blk_frozen BK253.out 0
                have hfz37_1 := blk_frozen BK253.out 1
                have hfz37_2 := blk_frozen BK253.out 2
                have hfz37_3 := blk_frozen BK253.out 3
                go_wp2_with (first | ((with_reducible refine gate_callee (f := 9) rfl ?_); refine goesL_ (some 52) rfl rfl Try.func9 (by kernel_rfl) rfl #[.slice A0 l0.length c0, .int .i64 a2_0, .int .i64 a2_1, .int .i64 a2_2, .int .i64 a2_3] rfl (by (try simp only [List.map_toArray, List.map_cons, List.map_nil]); first | done | rfl | (simp only [List.length_drop, List.length_take]; rfl) | (simp only [*]; first | done | rfl)) ?_; (with_reducible refine (demerit_Cost.calls kj3 _ _ l0 a2_0 a2_1 a2_2 a2_3 t256 t257 true _ ?side1 ?side2 A21.out).mono ?_); (case side1 => repeat (first | exact (Kd.C_below HR0.out HB.out) | (with_reducible refine Kd.C_alloc ?_ _) | (with_reducible refine Kd.C_drewN ?_ _) | (with_reducible refine Kd.C_drew ?_))); (case side2 => exact HC0.out); rintro e w38 ⟨rfl, hb⟩; refine ⟨_, rfl, ?_⟩; have n0_ := Aside0.mk (blk_below (g := gb253) (o := .cells #[.int .i64 a2_0, .int .i64 a2_1, .int .i64 a2_2, .int .i64 a2_3] 25 (0, 0)) (by (with_reducible repeat (first | refine blk_drewN ?_ _ | refine blk_drew ?_ | refine blk_alloc ?_ _)); exact BK253.out) hb); have n1_ := Aside0.mk (below_step (by repeat (first | (with_reducible first | exact HB.out | apply below_alloc | apply pw_below_drewN | apply below_drew1 | refine below_set ?_ GE253.out) | exact HB.out)) hb); clear BK253; clear HB; have BK253 := n0_; have HB := n1_; clear n0_ n1_; (try clear hb); (try clear hb2); (try clear hk); (try clear hi)) | ((with_reducible refine gate_dst (N := 56) rfl ?_); (try (refine gate_guard (by rfl) ?_; dsimp only)); refine Kd.R_lit k47 _ 47 ?hg (N := 56) ?hd (xs := ([] : List (S47))) (inner := []) (ok := fun _ => True) (okp := fun _ => True) ?hr ?hp (fun _ hk => hk) trivial (Below.refl _ _) (Nat.le_refl _) (by simp) ?_; (case hd => rfl); (case hg => rfl); (case hr => first | (go_simp; done) | (go_simp; rfl)); (case hp => exact (Reps.none _ _)); intro v260 w39 ho40 hb hg_ hnew_; clear hg_ hnew_; (first | rw [← Ny259.out] at ho40 | (simp only [Int.reduceToNat] at ho40; rw [← Ny259.out] at ho40)); have n0_ := Aside0.mk (Kd.R_lower ho40 (below_size (by repeat (first | (with_reducible first | exact HB.out | apply below_alloc | apply pw_below_drewN | apply below_drew1 | refine below_set ?_ GE253.out) | exact HB.out)))); have n1_ := Aside0.mk (blk_below (g := gb253) (o := .cells #[.int .i64 a2_0, .int .i64 a2_1, .int .i64 a2_2, .int .i64 a2_3] 25 (0, 0)) (by (with_reducible repeat (first | refine blk_drewN ?_ _ | refine blk_drew ?_ | refine blk_alloc ?_ _)); exact BK253.out) hb); have n2_ := Aside0.mk (below_step (by repeat (first | (with_reducible first | exact HB.out | apply below_alloc | apply pw_below_drewN | apply below_drew1 | refine below_set ?_ GE253.out) | exact HB.out)) hb); clear BK253; clear HB; have HO261 := n0_; have BK253 := n1_; have HB := n2_; clear n0_ n1_ n2_; clear hb ho40; have hcz41_0 : w39.cell? ⟨gb253, 0, none⟩ = some (.int .i64 a2_0) := (blk_cell BK253.out 0).trans rfl; have hcz41_1 : w39.cell? ⟨gb253, 1, none⟩ = some (.int .i64 a2_1) := (blk_cell BK253.out 1).trans rfl; have hcz41_2 : w39.cell? ⟨gb253, 2, none⟩ = some (.int .i64 a2_2) := (blk_cell BK253.out 2).trans rfl; have hcz41_3 : w39.cell? ⟨gb253, 3, none⟩ = some (.int .i64 a2_3) := (blk_cell BK253.out 3).trans rfl; have hfz41_0 := blk_frozen BK253.out 0; have hfz41_1 := blk_frozen BK253.out 1; have hfz41_2 := blk_frozen BK253.out 2; have hfz41_3 := blk_frozen BK253.out 3; have q42 : ((ji22) : Int) ≤ ((l0.length : Int) : Int) := of_decide_eq_true (by first | (with_reducible assumption) | assumption); obtain ⟨i042, hi042, _, hsz42, _⟩ := info_parts info47; have hroom42 : l0.length ≤ c0 := HC0.out; have hC42 : Kd.C k47 _ A0 l0.length l0 := HR0.out; have hcut42 := cut_to (P := Try.prog) 22 47 .i64 Try.underlying22 hi042 A0 l0.length c0 (ji22) (of_decide_eq_true (by first | (with_reducible assumption) | assumption)) q42 hroom42; have hr42 := Kd.C_take (m := ((ji22) : Int).toNat) hC42 (by omega); have hy42 : y262.length = ((ji22) : Int).toNat := (by rw [Ny262.out, List.length_take]; omega); rw [← Ny262.out] at hr42; rw [← hy42] at hcut42; have HR265 := Aside0.mk hr42; have HC265 := Aside0.mk (show y262.length ≤ c0 from by omega); clear hr42 hC42 hroom42 hi042 hsz42; have KY42 := Aside0.mk hy42; clear hy42; replace q42 := eq_true q42) | ((with_reducible refine gate_builtin (b := .append) (xs := #[.tmp 56, .tmp 61]) rfl ?_); (try (refine gate_guard (by rfl) ?_; dsimp only)); at_builtin; refine Kd.R_append_rows k47 (w0 := w) w.heap.size rfl (.tmp 56) (.tmp 61) 22 47 (.agg #[(.int .i64 0), (.int .i64 0), (.int .i64 0), (.int .i64 0), (.int .i64 0), (.int .i64 0), (.bool false), (.int .i64 0), (.int .i64 0)]) 72 rfl Try.underlying22 info47 rfl (by decide) (by omega) v260 y259 y262 _ _ _ (fun _ => True) (fun _ => False) rfl rfl ?aO ?aR (fun _ _ h => h) (fun _ h => h.elim) ?aF ?aB ?aS ?aL ?_; (case aR => repeat (first | exact (Kd.C_below HR265.out HB.out) | (with_reducible refine Kd.C_alloc ?_ _) | (with_reducible refine Kd.C_drewN ?_ _) | (with_reducible refine Kd.C_drew ?_))); (case aB => exact (by repeat (first | (with_reducible first | exact HB.out | apply below_alloc | apply pw_below_drewN | apply below_drew1 | refine below_set ?_ GE253.out) | exact HB.out))); (case aF => exact (fun _ _ => trivial)); (case aO => exact (by (with_reducible repeat (first | apply Kd.R_alloc | apply Kd.R_drewN | apply Kd.R_drew)); exact HO261.out)); (case aS => exact (below_size (by repeat (first | (with_reducible first | exact HB.out | apply below_alloc | apply pw_below_drewN | apply below_drew1 | refine below_set ?_ GE253.out) | exact HB.out)))); (case aL => have := LMc25.out; omega); intro v267 w43 ho hb hg hat; rw [← Ny266.out] at ho; have n0_ := Aside0.mk (blk_grown (g := gb253) (o := .cells #[.int .i64 a2_0, .int .i64 a2_1, .int .i64 a2_2, .int .i64 a2_3] 25 (0, 0)) (by (with_reducible repeat (first | refine blk_drewN ?_ _ | refine blk_drew ?_ | refine blk_alloc ?_ _)); exact BK253.out) hg (Kd.R_ne HO261.out BK253.out (by decide))); have n1_ := Aside0.mk (hb); have n2_ := Aside0.mk (ho); clear BK253; clear HB; clear HO261; have BK253 := n0_; have HB := n1_; have HO268 := n2_; clear n0_ n1_ n2_; clear ho hb hg hat) | ((with_reducible refine gate_builtin (b := .append) (xs := #[.tmp 62, .tmp 63]) rfl ?_); (try (refine gate_guard (by rfl) ?_; dsimp only)); at_builtin; refine Kd.R_append_rows k47 (w0 := w) w.heap.size rfl (.tmp 62) (.tmp 63) 22 47 (.agg #[(.int .i64 0), (.int .i64 0), (.int .i64 0), (.int .i64 0), (.int .i64 0), (.int .i64 0), (.bool false), (.int .i64 0), (.int .i64 0)]) 72 rfl Try.underlying22 info47 rfl (by decide) (by omega) v267 y266 l1 _ _ _ (fun _ => True) (fun _ => False) rfl rfl ?aO ?aR (fun _ _ h => h) (fun _ h => h.elim) ?aF ?aB ?aS ?aL ?_; (case aR => repeat (first | exact (Kd.C_below HR1.out HB.out) | (with_reducible refine Kd.C_alloc ?_ _) | (with_reducible refine Kd.C_drewN ?_ _) | (with_reducible refine Kd.C_drew ?_))); (case aB => exact (by repeat (first | (with_reducible first | exact HB.out | apply below_alloc | apply pw_below_drewN | apply below_drew1 | refine below_set ?_ GE253.out) | exact HB.out))); (case aF => exact (fun _ _ => trivial)); (case aO => exact (by (with_reducible repeat (first | apply Kd.R_alloc | apply Kd.R_drewN | apply Kd.R_drew)); exact HO268.out)); (case aS => exact (below_size (by repeat (first | (with_reducible first | exact HB.out | apply below_alloc | apply pw_below_drewN | apply below_drew1 | refine below_set ?_ GE253.out) | exact HB.out)))); (case aL => have := LMc26.out; omega); intro v270 w44 ho hb hg hat; rw [← Ny269.out] at ho; have n0_ := Aside0.mk (blk_grown (g := gb253) (o := .cells #[.int .i64 a2_0, .int .i64 a2_1, .int .i64 a2_2, .int .i64 a2_3] 25 (0, 0)) (by (with_reducible repeat (first | refine blk_drewN ?_ _ | refine blk_drew ?_ | refine blk_alloc ?_ _)); exact BK253.out) hg (Kd.R_ne HO268.out BK253.out (by decide))); have n1_ := Aside0.mk (hb); have n2_ := Aside0.mk (ho); clear BK253; clear HB; clear HO268; have BK253 := n0_; have HB := n1_; have HO271 := n2_; clear n0_ n1_ n2_; clear ho hb hg hat; have hcz45_0 : w44.cell? ⟨gb253, 0, none⟩ = some (.int .i64 a2_0) := (blk_cell BK253.out 0).trans rfl; have hcz45_1 : w44.cell? ⟨gb253, 1, none⟩ = some (.int .i64 a2_1) := (blk_cell BK253.out 1).trans rfl; have hcz45_2 : w44.cell? ⟨gb253, 2, none⟩ = some (.int .i64 a2_2) := (blk_cell BK253.out 2).trans rfl; have hcz45_3 : w44.cell? ⟨gb253, 3, none⟩ = some (.int .i64 a2_3) := (blk_cell BK253.out 3).trans rfl; have hfz45_0 := blk_frozen BK253.out 0; have hfz45_1 := blk_frozen BK253.out 1; have hfz45_2 := blk_frozen BK253.out 2; have hfz45_3 := blk_frozen BK253.out 3; obtain ⟨Ao46, co46, eo46⟩ := Kd.R_slice HO271.out; subst eo46) | ((with_reducible refine gate_callee (f := 9) rfl ?_); refine goesL_ (some 75) rfl rfl Try.func9 (by kernel_rfl) rfl #[.slice Ao46 y269.length co46, .int .i64 a2_0, .int .i64 a2_1, .int .i64 a2_2, .int .i64 a2_3] rfl (by (try simp only [List.map_toArray, List.map_cons, List.map_nil]); first | done | rfl | (simp only [List.length_drop, List.length_take]; rfl) | (simp only [*]; first | done | rfl)) ?_; (with_reducible refine (demerit_Cost.calls kj3 _ _ y269 a2_0 a2_1 a2_2 a2_3 t272 t273 t274 _ ?side1 ?side2 A27.out).mono ?_); (case side1 => repeat (first | exact (Kd.R_reads' HO271.out).2.2 | (with_reducible refine Kd.C_alloc ?_ _) | (with_reducible refine Kd.C_drewN ?_ _) | (with_reducible refine Kd.C_drew ?_))); (case side2 => exact (Kd.R_reads' HO271.out).2.1); rintro e w47 ⟨rfl, hb⟩; refine ⟨_, rfl, ?_⟩; have n0_ := Aside0.mk (Kd.R_below (by (with_reducible repeat (first | apply Kd.R_alloc | apply Kd.R_drewN | apply Kd.R_drew)); exact HO271.out) hb); have n1_ := Aside0.mk (blk_below (g := gb253) (o := .cells #[.int .i64 a2_0, .int .i64 a2_1, .int .i64 a2_2, .int .i64 a2_3] 25 (0, 0)) (by (with_reducible repeat (first | refine blk_drewN ?_ _ | refine blk_drew ?_ | refine blk_alloc ?_ _)); exact BK253.out) hb); have n2_ := Aside0.mk (below_step (by repeat (first | (with_reducible first | exact HB.out | apply below_alloc | apply pw_below_drewN | apply below_drew1 | refine below_set ?_ GE253.out) | exact HB.out)) hb); clear HO271; clear BK253; clear HB; have HO271 := n0_; have BK253 := n1_; have HB := n2_; clear n0_ n1_ n2_; (try clear hb); (try clear hb2); (try clear hk); (try clear hi); have hcz48_0 : w47.cell? ⟨gb253, 0, none⟩ = some (.int .i64 a2_0) := (blk_cell BK253.out 0).trans rfl; have hcz48_1 : w47.cell? ⟨gb253, 1, none⟩ = some (.int .i64 a2_1) := (blk_cell BK253.out 1).trans rfl; have hcz48_2 : w47.cell? ⟨gb253, 2, none⟩ = some (.int .i64 a2_2) := (blk_cell BK253.out 2).trans rfl; have hcz48_3 : w47.cell? ⟨gb253, 3, none⟩ = some (.int .i64 a2_3) := (blk_cell BK253.out 3).trans rfl; have hfz48_0 := blk_frozen BK253.out 0; have hfz48_1 := blk_frozen BK253.out 1; have hfz48_2 := blk_frozen BK253.out 2; have hfz48_3 := blk_frozen BK253.out 3) | ((with_reducible refine gate_callee (f := 9) rfl ?_); refine goesL_ (some 100) rfl rfl Try.func9 (by kernel_rfl) rfl #[.slice A0 l0.length c0, .int .i64 a2_0, .int .i64 a2_1, .int .i64 a2_2, .int .i64 10000] rfl (by (try simp only [List.map_toArray, List.map_cons, List.map_nil]); first | done | rfl | (simp only [List.length_drop, List.length_take]; rfl) | (simp only [*]; first | done | rfl)) ?_; (with_reducible refine (demerit_Cost.calls kj3 _ _ l0 a2_0 a2_1 a2_2 10000 t275 t276 true _ ?side1 ?side2 A31.out).mono ?_); (case side1 => repeat (first | exact (Kd.C_below HR0.out HB.out) | (with_reducible refine Kd.C_alloc ?_ _) | (with_reducible refine Kd.C_drewN ?_ _) | (with_reducible refine Kd.C_drew ?_))); (case side2 => exact HC0.out); rintro e w49 ⟨rfl, hb⟩; refine ⟨_, rfl, ?_⟩; have n0_ := Aside0.mk (Kd.R_below (by (with_reducible repeat (first | apply Kd.R_alloc | apply Kd.R_drewN | apply Kd.R_drew)); exact HO271.out) hb); have n1_ := Aside0.mk (blk_below (g := gb253) (o := .cells #[.int .i64 a2_0, .int .i64 a2_1, .int .i64 a2_2, .int .i64 a2_3] 25 (0, 0)) (by (with_reducible repeat (first | refine blk_drewN ?_ _ | refine blk_drew ?_ | refine blk_alloc ?_ _)); exact BK253.out) hb); have n2_ := Aside0.mk (below_step (by repeat (first | (with_reducible first | exact HB.out | apply below_alloc | apply pw_below_drewN | apply below_drew1 | refine below_set ?_ GE253.out) | exact HB.out)) hb); clear HO271; clear BK253; clear HB; have HO271 := n0_; have BK253 := n1_; have HB := n2_; clear n0_ n1_ n2_; (try clear hb); (try clear hb2); (try clear hk); (try clear hi)))
                go_ret
                exact ⟨by first | rfl | (simp [errW_none, errW_some] <;> rfl) | (simp only [← hji22]; first | rfl | (simp [errW_none, errW_some] <;> rfl)) | (simp [*, errW_none, errW_some] <;> rfl), by repeat (first | (with_reducible first | exact HB.out | apply below_alloc | apply pw_below_drewN | apply below_drew1 | refine below_set ?_ GE253.out) | exact HB.out)⟩
               ·rw [if_neg c36] at H
                exact absurd H (by simp)
              ·rw [if_neg c35] at H
               exact absurd H (by simp)
             ·rw [if_neg c34] at H
              exact absurd H (by simp)
            ·replace c33 := Bool.eq_false_iff.mpr c33
             subst c33
             have H1 : (none) = some r := by rw [if_neg (show ¬ (false = true) by decide)] at H; exact H
             clear H
             have H := H1
             clear H1
             exact absurd H (by simp)
           ·replace c32 := Bool.eq_false_iff.mpr c32
            subst c32
            have H1 : (some true) = some r := by rw [if_neg (show ¬ (false = true) by decide)] at H; exact H
            clear H
            have H := H1
            clear H1
            obtain rfl := Option.some.inj H
            have hcz50_0 : wc.cell? ⟨gb253, 0, none⟩ = some (.int .i64 a2_0) := (blk_cell BK253.out 0).trans rfl
            have hcz50_1 : wc.cell? ⟨gb253, 1, none⟩ = some (.int .i64 a2_1) := (blk_cell BK253.out 1).trans rfl
            have hcz50_2 : wc.cell? ⟨gb253, 2, none⟩ = some (.int .i64 a2_2) := (blk_cell BK253.out 2).trans rfl
            have hcz50_3 : wc.cell? ⟨gb253, 3, none⟩ = some (.int .i64 a2_3) := (blk_cell BK253.out 3).trans rfl
            have hfz50_0 := blk_frozen BK253.out 0
            have hfz50_1 := blk_frozen BK253.out 1
            have hfz50_2 := blk_frozen BK253.out 2
            have hfz50_3 := blk_frozen BK253.out 3
            go_wp2_with (first | ((with_reducible refine gate_callee (f := 9) rfl ?_); refine goesL_ (some 52) rfl rfl Try.func9 (by kernel_rfl) rfl #[.slice A0 l0.length c0, .int .i64 a2_0, .int .i64 a2_1, .int .i64 a2_2, .int .i64 a2_3] rfl (by (try simp only [List.map_toArray, List.map_cons, List.map_nil]); first | done | rfl | (simp only [List.length_drop, List.length_take]; rfl) | (simp only [*]; first | done | rfl)) ?_; (with_reducible refine (demerit_Cost.calls kj3 _ _ l0 a2_0 a2_1 a2_2 a2_3 t256 t257 false _ ?side1 ?side2 A21.out).mono ?_); (case side1 => repeat (first | exact (Kd.C_below HR0.out HB.out) | (with_reducible refine Kd.C_alloc ?_ _) | (with_reducible refine Kd.C_drewN ?_ _) | (with_reducible refine Kd.C_drew ?_))); (case side2 => exact HC0.out); rintro e w51 ⟨rfl, hb⟩; refine ⟨_, rfl, ?_⟩; have n0_ := Aside0.mk (blk_below (g := gb253) (o := .cells #[.int .i64 a2_0, .int .i64 a2_1, .int .i64 a2_2, .int .i64 a2_3] 25 (0, 0)) (by (with_reducible repeat (first | refine blk_drewN ?_ _ | refine blk_drew ?_ | refine blk_alloc ?_ _)); exact BK253.out) hb); have n1_ := Aside0.mk (below_step (by repeat (first | (with_reducible first | exact HB.out | apply below_alloc | apply pw_below_drewN | apply below_drew1 | refine below_set ?_ GE253.out) | exact HB.out)) hb); clear BK253; clear HB; have BK253 := n0_; have HB := n1_; clear n0_ n1_; (try clear hb); (try clear hb2); (try clear hk); (try clear hi)) | ((with_reducible refine gate_dst (N := 56) rfl ?_); (try (refine gate_guard (by rfl) ?_; dsimp only)); refine Kd.R_lit k47 _ 47 ?hg (N := 56) ?hd (xs := ([] : List (S47))) (inner := []) (ok := fun _ => True) (okp := fun _ => True) ?hr ?hp (fun _ hk => hk) trivial (Below.refl _ _) (Nat.le_refl _) (by simp) ?_; (case hd => rfl); (case hg => rfl); (case hr => first | (go_simp; done) | (go_simp; rfl)); (case hp => exact (Reps.none _ _)); intro v260 w52 ho53 hb hg_ hnew_; clear hg_ hnew_; (first | rw [← Ny259.out] at ho53 | (simp only [Int.reduceToNat] at ho53; rw [← Ny259.out] at ho53)); have n0_ := Aside0.mk (Kd.R_lower ho53 (below_size (by repeat (first | (with_reducible first | exact HB.out | apply below_alloc | apply pw_below_drewN | apply below_drew1 | refine below_set ?_ GE253.out) | exact HB.out)))); have n1_ := Aside0.mk (blk_below (g := gb253) (o := .cells #[.int .i64 a2_0, .int .i64 a2_1, .int .i64 a2_2, .int .i64 a2_3] 25 (0, 0)) (by (with_reducible repeat (first | refine blk_drewN ?_ _ | refine blk_drew ?_ | refine blk_alloc ?_ _)); exact BK253.out) hb); have n2_ := Aside0.mk (below_step (by repeat (first | (with_reducible first | exact HB.out | apply below_alloc | apply pw_below_drewN | apply below_drew1 | refine below_set ?_ GE253.out) | exact HB.out)) hb); clear BK253; clear HB; have HO261 := n0_; have BK253 := n1_; have HB := n2_; clear n0_ n1_ n2_; clear hb ho53; have hcz54_0 : w52.cell? ⟨gb253, 0, none⟩ = some (.int .i64 a2_0) := (blk_cell BK253.out 0).trans rfl; have hcz54_1 : w52.cell? ⟨gb253, 1, none⟩ = some (.int .i64 a2_1) := (blk_cell BK253.out 1).trans rfl; have hcz54_2 : w52.cell? ⟨gb253, 2, none⟩ = some (.int .i64 a2_2) := (blk_cell BK253.out 2).trans rfl; have hcz54_3 : w52.cell? ⟨gb253, 3, none⟩ = some (.int .i64 a2_3) := (blk_cell BK253.out 3).trans rfl; have hfz54_0 := blk_frozen BK253.out 0; have hfz54_1 := blk_frozen BK253.out 1; have hfz54_2 := blk_frozen BK253.out 2; have hfz54_3 := blk_frozen BK253.out 3; have q55 : ((ji22) : Int) ≤ ((l0.length : Int) : Int) := of_decide_eq_true (by first | (with_reducible assumption) | assumption); obtain ⟨i055, hi055, _, hsz55, _⟩ := info_parts info47; have hroom55 : l0.length ≤ c0 := HC0.out; have hC55 : Kd.C k47 _ A0 l0.length l0 := HR0.out; have hcut55 := cut_to (P := Try.prog) 22 47 .i64 Try.underlying22 hi055 A0 l0.length c0 (ji22) (of_decide_eq_true (by first | (with_reducible assumption) | assumption)) q55 hroom55; have hr55 := Kd.C_take (m := ((ji22) : Int).toNat) hC55 (by omega); have hy55 : y262.length = ((ji22) : Int).toNat := (by rw [Ny262.out, List.length_take]; omega); rw [← Ny262.out] at hr55; rw [← hy55] at hcut55; have HR265 := Aside0.mk hr55; have HC265 := Aside0.mk (show y262.length ≤ c0 from by omega); clear hr55 hC55 hroom55 hi055 hsz55; have KY55 := Aside0.mk hy55; clear hy55; replace q55 := eq_true q55) | ((with_reducible refine gate_builtin (b := .append) (xs := #[.tmp 56, .tmp 61]) rfl ?_); (try (refine gate_guard (by rfl) ?_; dsimp only)); at_builtin; refine Kd.R_append_rows k47 (w0 := w) w.heap.size rfl (.tmp 56) (.tmp 61) 22 47 (.agg #[(.int .i64 0), (.int .i64 0), (.int .i64 0), (.int .i64 0), (.int .i64 0), (.int .i64 0), (.bool false), (.int .i64 0), (.int .i64 0)]) 72 rfl Try.underlying22 info47 rfl (by decide) (by omega) v260 y259 y262 _ _ _ (fun _ => True) (fun _ => False) rfl rfl ?aO ?aR (fun _ _ h => h) (fun _ h => h.elim) ?aF ?aB ?aS ?aL ?_; (case aR => repeat (first | exact (Kd.C_below HR265.out HB.out) | (with_reducible refine Kd.C_alloc ?_ _) | (with_reducible refine Kd.C_drewN ?_ _) | (with_reducible refine Kd.C_drew ?_))); (case aB => exact (by repeat (first | (with_reducible first | exact HB.out | apply below_alloc | apply pw_below_drewN | apply below_drew1 | refine below_set ?_ GE253.out) | exact HB.out))); (case aF => exact (fun _ _ => trivial)); (case aO => exact (by (with_reducible repeat (first | apply Kd.R_alloc | apply Kd.R_drewN | apply Kd.R_drew)); exact HO261.out)); (case aS => exact (below_size (by repeat (first | (with_reducible first | exact HB.out | apply below_alloc | apply pw_below_drewN | apply below_drew1 | refine below_set ?_ GE253.out) | exact HB.out)))); (case aL => have := LMc25.out; omega); intro v267 w56 ho hb hg hat; rw [← Ny266.out] at ho; have n0_ := Aside0.mk (blk_grown (g := gb253) (o := .cells #[.int .i64 a2_0, .int .i64 a2_1, .int .i64 a2_2, .int .i64 a2_3] 25 (0, 0)) (by (with_reducible repeat (first | refine blk_drewN ?_ _ | refine blk_drew ?_ | refine blk_alloc ?_ _)); exact BK253.out) hg (Kd.R_ne HO261.out BK253.out (by decide))); have n1_ := Aside0.mk (hb); have n2_ := Aside0.mk (ho); clear BK253; clear HB; clear HO261; have BK253 := n0_; have HB := n1_; have HO268 := n2_; clear n0_ n1_ n2_; clear ho hb hg hat) | ((with_reducible refine gate_builtin (b := .append) (xs := #[.tmp 62, .tmp 63]) rfl ?_); (try (refine gate_guard (by rfl) ?_; dsimp only)); at_builtin; refine Kd.R_append_rows k47 (w0 := w) w.heap.size rfl (.tmp 62) (.tmp 63) 22 47 (.agg #[(.int .i64 0), (.int .i64 0), (.int .i64 0), (.int .i64 0), (.int .i64 0), (.int .i64 0), (.bool false), (.int .i64 0), (.int .i64 0)]) 72 rfl Try.underlying22 info47 rfl (by decide) (by omega) v267 y266 l1 _ _ _ (fun _ => True) (fun _ => False) rfl rfl ?aO ?aR (fun _ _ h => h) (fun _ h => h.elim) ?aF ?aB ?aS ?aL ?_; (case aR => repeat (first | exact (Kd.C_below HR1.out HB.out) | (with_reducible refine Kd.C_alloc ?_ _) | (with_reducible refine Kd.C_drewN ?_ _) | (with_reducible refine Kd.C_drew ?_))); (case aB => exact (by repeat (first | (with_reducible first | exact HB.out | apply below_alloc | apply pw_below_drewN | apply below_drew1 | refine below_set ?_ GE253.out) | exact HB.out))); (case aF => exact (fun _ _ => trivial)); (case aO => exact (by (with_reducible repeat (first | apply Kd.R_alloc | apply Kd.R_drewN | apply Kd.R_drew)); exact HO268.out)); (case aS => exact (below_size (by repeat (first | (with_reducible first | exact HB.out | apply below_alloc | apply pw_below_drewN | apply below_drew1 | refine below_set ?_ GE253.out) | exact HB.out)))); (case aL => have := LMc26.out; omega); intro v270 w57 ho hb hg hat; rw [← Ny269.out] at ho; have n0_ := Aside0.mk (blk_grown (g := gb253) (o := .cells #[.int .i64 a2_0, .int .i64 a2_1, .int .i64 a2_2, .int .i64 a2_3] 25 (0, 0)) (by (with_reducible repeat (first | refine blk_drewN ?_ _ | refine blk_drew ?_ | refine blk_alloc ?_ _)); exact BK253.out) hg (Kd.R_ne HO268.out BK253.out (by decide))); have n1_ := Aside0.mk (hb); have n2_ := Aside0.mk (ho); clear BK253; clear HB; clear HO268; have BK253 := n0_; have HB := n1_; have HO271 := n2_; clear n0_ n1_ n2_; clear ho hb hg hat; have hcz58_0 : w57.cell? ⟨gb253, 0, none⟩ = some (.int .i64 a2_0) := (blk_cell BK253.out 0).trans rfl; have hcz58_1 : w57.cell? ⟨gb253, 1, none⟩ = some (.int .i64 a2_1) := (blk_cell BK253.out 1).trans rfl; have hcz58_2 : w57.cell? ⟨gb253, 2, none⟩ = some (.int .i64 a2_2) := (blk_cell BK253.out 2).trans rfl; have hcz58_3 : w57.cell? ⟨gb253, 3, none⟩ = some (.int .i64 a2_3) := (blk_cell BK253.out 3).trans rfl; have hfz58_0 := blk_frozen BK253.out 0; have hfz58_1 := blk_frozen BK253.out 1; have hfz58_2 := blk_frozen BK253.out 2; have hfz58_3 := blk_frozen BK253.out 3; obtain ⟨Ao59, co59, eo59⟩ := Kd.R_slice HO271.out; subst eo59) | ((with_reducible refine gate_callee (f := 9) rfl ?_); refine goesL_ (some 75) rfl rfl Try.func9 (by kernel_rfl) rfl #[.slice Ao59 y269.length co59, .int .i64 a2_0, .int .i64 a2_1, .int .i64 a2_2, .int .i64 a2_3] rfl (by (try simp only [List.map_toArray, List.map_cons, List.map_nil]); first | done | rfl | (simp only [List.length_drop, List.length_take]; rfl) | (simp only [*]; first | done | rfl)) ?_; (with_reducible refine (demerit_Cost.calls kj3 _ _ y269 a2_0 a2_1 a2_2 a2_3 t272 t273 t274 _ ?side1 ?side2 A27.out).mono ?_); (case side1 => repeat (first | exact (Kd.R_reads' HO271.out).2.2 | (with_reducible refine Kd.C_alloc ?_ _) | (with_reducible refine Kd.C_drewN ?_ _) | (with_reducible refine Kd.C_drew ?_))); (case side2 => exact (Kd.R_reads' HO271.out).2.1); rintro e w60 ⟨rfl, hb⟩; refine ⟨_, rfl, ?_⟩; have n0_ := Aside0.mk (Kd.R_below (by (with_reducible repeat (first | apply Kd.R_alloc | apply Kd.R_drewN | apply Kd.R_drew)); exact HO271.out) hb); have n1_ := Aside0.mk (blk_below (g := gb253) (o := .cells #[.int .i64 a2_0, .int .i64 a2_1, .int .i64 a2_2, .int .i64 a2_3] 25 (0, 0)) (by (with_reducible repeat (first | refine blk_drewN ?_ _ | refine blk_drew ?_ | refine blk_alloc ?_ _)); exact BK253.out) hb); have n2_ := Aside0.mk (below_step (by repeat (first | (with_reducible first | exact HB.out | apply below_alloc | apply pw_below_drewN | apply below_drew1 | refine below_set ?_ GE253.out) | exact HB.out)) hb); clear HO271; clear BK253; clear HB; have HO271 := n0_; have BK253 := n1_; have HB := n2_; clear n0_ n1_ n2_; (try clear hb); (try clear hb2); (try clear hk); (try clear hi); have hcz61_0 : w60.cell? ⟨gb253, 0, none⟩ = some (.int .i64 a2_0) := (blk_cell BK253.out 0).trans rfl; have hcz61_1 : w60.cell? ⟨gb253, 1, none⟩ = some (.int .i64 a2_1) := (blk_cell BK253.out 1).trans rfl; have hcz61_2 : w60.cell? ⟨gb253, 2, none⟩ = some (.int .i64 a2_2) := (blk_cell BK253.out 2).trans rfl; have hcz61_3 : w60.cell? ⟨gb253, 3, none⟩ = some (.int .i64 a2_3) := (blk_cell BK253.out 3).trans rfl; have hfz61_0 := blk_frozen BK253.out 0; have hfz61_1 := blk_frozen BK253.out 1; have hfz61_2 := blk_frozen BK253.out 2; have hfz61_3 := blk_frozen BK253.out 3) | ((with_reducible refine gate_callee (f := 9) rfl ?_); refine goesL_ (some 100) rfl rfl Try.func9 (by kernel_rfl) rfl #[.slice A0 l0.length c0, .int .i64 a2_0, .int .i64 a2_1, .int .i64 a2_2, .int .i64 10000] rfl (by (try simp only [List.map_toArray, List.map_cons, List.map_nil]); first | done | rfl | (simp only [List.length_drop, List.length_take]; rfl) | (simp only [*]; first | done | rfl)) ?_; (with_reducible refine (demerit_Cost.calls kj3 _ _ l0 a2_0 a2_1 a2_2 10000 t275 t276 t277 _ ?side1 ?side2 A31.out).mono ?_); (case side1 => repeat (first | exact (Kd.C_below HR0.out HB.out) | (with_reducible refine Kd.C_alloc ?_ _) | (with_reducible refine Kd.C_drewN ?_ _) | (with_reducible refine Kd.C_drew ?_))); (case side2 => exact HC0.out); rintro e w62 ⟨rfl, hb⟩; refine ⟨_, rfl, ?_⟩; have n0_ := Aside0.mk (Kd.R_below (by (with_reducible repeat (first | apply Kd.R_alloc | apply Kd.R_drewN | apply Kd.R_drew)); exact HO271.out) hb); have n1_ := Aside0.mk (blk_below (g := gb253) (o := .cells #[.int .i64 a2_0, .int .i64 a2_1, .int .i64 a2_2, .int .i64 a2_3] 25 (0, 0)) (by (with_reducible repeat (first | refine blk_drewN ?_ _ | refine blk_drew ?_ | refine blk_alloc ?_ _)); exact BK253.out) hb); have n2_ := Aside0.mk (below_step (by repeat (first | (with_reducible first | exact HB.out | apply below_alloc | apply pw_below_drewN | apply below_drew1 | refine below_set ?_ GE253.out) | exact HB.out)) hb); clear HO271; clear BK253; clear HB; have HO271 := n0_; have BK253 := n1_; have HB := n2_; clear n0_ n1_ n2_; (try clear hb); (try clear hb2); (try clear hk); (try clear hi)))
            go_ret
            exact ⟨by first | rfl | (simp [errW_none, errW_some] <;> rfl) | (simp only [← hji22]; first | rfl | (simp [errW_none, errW_some] <;> rfl)) | (simp [*, errW_none, errW_some] <;> rfl), by repeat (first | (with_reducible first | exact HB.out | apply below_alloc | apply pw_below_drewN | apply below_drew1 | refine below_set ?_ GE253.out) | exact HB.out)⟩
         ·rw [if_neg c29] at H
          exact absurd H (by simp)
        ·rw [if_neg c28] at H
         exact absurd H (by simp)
       ·rw [if_neg c26] at H
        exact absurd H (by simp)
      ·rw [if_neg c25] at H
       exact absurd H (by simp)
     ·rw [if_neg c24] at H
      exact absurd H (by simp)
    ·rw [if_neg c23] at H
     exact absurd H (by simp)

/-- The one statement about numbers and lists that is left of the law. -/
def variorumlaw10_DemeritApart.Pure : Prop := ∀ (x0 : List (S47)) (x1 : List (S47)) (x2 : S25), (x0.length * 72 ≤ 140737488351232 ∧ ∀ y0 ∈ x0, ((Lit.int .i64 y0.f0).wf = true ∧ (((Lit.int .i64 y0.f1.f0).wf = true ∧ ((Lit.int .i64 y0.f1.f1).wf = true ∧ ((Lit.int .i64 y0.f1.f2).wf = true ∧ ((Lit.int .i64 y0.f1.f3).wf = true)))) ∧ ((Lit.int .i64 y0.f2).wf = true ∧ (True ∧ ((Lit.int .i64 y0.f4).wf = true ∧ ((Lit.int .i64 y0.f5).wf = true))))))) → (x1.length * 72 ≤ 140737488351232 ∧ ∀ y0 ∈ x1, ((Lit.int .i64 y0.f0).wf = true ∧ (((Lit.int .i64 y0.f1.f0).wf = true ∧ ((Lit.int .i64 y0.f1.f1).wf = true ∧ ((Lit.int .i64 y0.f1.f2).wf = true ∧ ((Lit.int .i64 y0.f1.f3).wf = true)))) ∧ ((Lit.int .i64 y0.f2).wf = true ∧ (True ∧ ((Lit.int .i64 y0.f4).wf = true ∧ ((Lit.int .i64 y0.f5).wf = true))))))) → ((Lit.int .i64 x2.f0).wf = true ∧ ((Lit.int .i64 x2.f1).wf = true ∧ ((Lit.int .i64 x2.f2).wf = true ∧ ((Lit.int .i64 x2.f3).wf = true)))) → ∃ k, variorumlaw10_DemeritApart.f k x0 x1 x2.f0 x2.f1 x2.f2 x2.f3 = some true

end Go.Proofs.Ytagpdpcodcmgkaa.PDm

/- Written by a program of this session: functions of the given program as plain Lean functions, the walks that show it, and the row of each law, for every input that its statement speaks of. -/
import Derived.Test.YtbdaaiagpknaoaaPUbx0
import Derived.Test.YtbdaaiagpknaoaaPUbx1
import Derived.Test.YtbdaaiagpknaoaaPUbx4
namespace Go.Proofs.Ytbdaaiagpknaoaa.PUb
open Go.RowKit Go.Proofs.YtbdaaiagpknaoaaW.PrintWords Go.Proofs.YtbdaaiagpknaoaaW.PrintLast Go.Proofs.YtbdaaiagpknaoaaW.PrintMore
attribute [local go_sem] max2_int min2_int max_two min_two max_three min_three max_four min_four   -- for this text's walks alone
set_option linter.unusedVariables false
set_option linter.unusedSimpArgs false

attribute [local go_sem high] eqA23
/-! ### item_right: function 21 -/
def item_right.j0 : Nat → Bool → Int → Int → Int → Int → Int → Int → Bool → Int → Int → Option (Bool)
 | 0, _, _, _, _, _, _, _, _, _, _ => none
 | k + 1, x3, x112000, x112001, x112002, x112003, x112004, x112005, x112006, x112007, x112008 => if x112000 = 0 then (if x3 = true then (if x112005 = 0 then (if x112006 = true then (some false) else (if x112007 ≥ 0 then (some (decide (x112008 ≥ 0))) else (some false))) else (some false)) else (some false)) else (if x112000 = 1 then ((glue_May.f k (([(⟨x112001, x112002, x112003, x112004⟩ : S23)] : List (S23)))).bind fun t116 => (if t116 = true then (if x112001 ≥ x112003 then (if x112005 = 0 then (if x112006 = true then (some false) else (if x112005 ≥ (-10000) then (if x112005 ≤ 10000 then (if x112007 = 0 then (some (x112008 == 0)) else (some false)) else (some false)) else (some false))) else (some false)) else (some false)) else (some false))) else (if x112000 = 2 then (if x3 = true then (if x112005 ≥ (-10000) then (if x112005 ≤ 10000 then (if x112007 = 0 then (some (x112008 == 0)) else (some false)) else (some false)) else (some false)) else (some false)) else (some false)))
def item_right.f (k : Nat) (a0_0 : Int) (a0_1 : Int) (a0_2 : Int) (a0_3 : Int) (a0_4 : Int) (a0_5 : Int) (a0_6 : Bool) (a0_7 : Int) (a0_8 : Int) : Option (Bool) := if (a0_2 == 0 && (a0_3 == 0 && (a0_4 == 0))) = true then (if a0_1 ≥ 0 then ((scaled_Fits.f a0_1).bind fun t112 => (item_right.j0 k t112 a0_0 a0_1 a0_2 a0_3 a0_4 a0_5 a0_6 a0_7 a0_8)) else (item_right.j0 k false a0_0 a0_1 a0_2 a0_3 a0_4 a0_5 a0_6 a0_7 a0_8)) else (item_right.j0 k false a0_0 a0_1 a0_2 a0_3 a0_4 a0_5 a0_6 a0_7 a0_8)
theorem item_right.mono_l : ∀ k, (∀ y0 y1 y2 y3 y4 y5 y6 y7 y8 y9, LeO (item_right.j0 k y0 y1 y2 y3 y4 y5 y6 y7 y8 y9) (item_right.j0 (k + 1) y0 y1 y2 y3 y4 y5 y6 y7 y8 y9))
 | 0 => fun _ _ _ _ _ _ _ _ _ _ r h => by simp [item_right.j0] at h
 | k + 1 => by
  have ih0 := item_right.mono_l k
  ·intro y0 y1 y2 y3 y4 y5 y6 y7 y8 y9
   unfold item_right.j0
   repeat' first
   | (with_reducible exact ih0 _ _ _ _ _ _ _ _ _ _)
   | (with_reducible exact glue_May.mono _ _)
   | (with_reducible exact LeO.refl _)
   | (with_reducible exact LeO.none _)
   | (with_reducible refine LeO.ite ?_ ?_)
   | (with_reducible refine LeO.bind ?_ (fun _ => ?_))
   | exact ih0 _ _ _ _ _ _ _ _ _ _
   | exact glue_May.mono _ _
   | exact LeO.none _
   | refine LeO.ite ?_ ?_
   | refine LeO.bind ?_ (fun _ => ?_)
theorem item_right.mono : ∀ a0 a1 a2 a3 a4 a5 a6 a7 a8 k, LeO (item_right.f k a0 a1 a2 a3 a4 a5 a6 a7 a8) (item_right.f (k + 1) a0 a1 a2 a3 a4 a5 a6 a7 a8) := by
 intro a0 a1 a2 a3 a4 a5 a6 a7 a8 k
 have ih0 := item_right.mono_l k
 unfold item_right.f
 repeat' first
   | (with_reducible exact ih0 _ _ _ _ _ _ _ _ _ _)
   | (with_reducible exact glue_May.mono _ _)
   | (with_reducible exact LeO.refl _)
   | (with_reducible exact LeO.none _)
   | (with_reducible refine LeO.ite ?_ ?_)
   | (with_reducible refine LeO.bind ?_ (fun _ => ?_))
   | exact ih0 _ _ _ _ _ _ _ _ _ _
   | exact glue_May.mono _ _
   | exact LeO.none _
   | refine LeO.ite ?_ ?_
   | refine LeO.bind ?_ (fun _ => ?_)
set_option maxHeartbeats 8000000 in
set_option maxRecDepth 100000 in
theorem item_right.calls (k : Nat) (a0_0 : Int) (a0_1 : Int) (a0_2 : Int) (a0_3 : Int) (a0_4 : Int) (a0_5 : Int) (a0_6 : Bool) (a0_7 : Int) (a0_8 : Int) (r : Bool) (w : World) (h : item_right.f k a0_0 a0_1 a0_2 a0_3 a0_4 a0_5 a0_6 a0_7 a0_8 = some r) :
  Calls Try.prog 21 #[.agg #[.int .i64 a0_0, .int .i64 a0_1, .int .i64 a0_2, .int .i64 a0_3, .int .i64 a0_4, .int .i64 a0_5, .bool a0_6, .int .i64 a0_7, .int .i64 a0_8]] w fun e w' => e = .returned (.bool r) ∧ Below w.heap.size w w' := by
 have hu45 := Try.underlying45
 have hu23 := Try.underlying23
 have HB := Aside0.mk (Below.refl w.heap.size w)
 have H : (if (a0_2 == 0 && (a0_3 == 0 && (a0_4 == 0))) = true then (if a0_1 ≥ 0 then ((scaled_Fits.f a0_1).bind fun t112 => (item_right.j0 k t112 a0_0 a0_1 a0_2 a0_3 a0_4 a0_5 a0_6 a0_7 a0_8)) else (item_right.j0 k false a0_0 a0_1 a0_2 a0_3 a0_4 a0_5 a0_6 a0_7 a0_8)) else (item_right.j0 k false a0_0 a0_1 a0_2 a0_3 a0_4 a0_5 a0_6 a0_7 a0_8)) = some r := h
 clear h
 have HC2 := Aside0.mk H
 clear H
 go_enter Try.func21, Try.ntmps21
 go_upto_region 1 with (first | ((with_reducible refine gate_dst (N := 1) rfl ?_); refine box_event ?hg (N := 1) ?hd (cs := #[.int .i64 a0_0, .int .i64 a0_1, .int .i64 a0_2, .int .i64 a0_3, .int .i64 a0_4, .int .i64 a0_5, .bool a0_6, .int .i64 a0_7, .int .i64 a0_8]) (t := 45) ?hr ?_; (case hd => rfl); (case hg => rfl); (case hr => first | (go_simp; done) | (go_simp; rfl)); intro gb111 hg w3 hbox hb; have n0_ := Aside0.mk (below_step (by repeat (first | (with_reducible first | exact HB.out | apply below_alloc | apply pw_below_drewN | apply below_drew1) | exact HB.out)) hb); have n1_ := Aside0.mk (hbox); have n2_ := Aside0.mk ((by rw [hg]; exact (below_size (by repeat (first | (with_reducible first | exact HB.out | apply below_alloc | apply pw_below_drewN | apply below_drew1) | exact HB.out))) : w.heap.size ≤ gb111)); have n3_ := Aside0.mk ((by rw [hg]; exact (below_size (by repeat (first | (with_reducible first | exact HB.out | apply below_alloc | apply pw_below_drewN | apply below_drew1) | exact HB.out))) : w.heap.size ≤ gb111)); clear HB; have HB := n0_; have BK111 := n1_; have GW111 := n2_; have GE111 := n3_; clear n0_ n1_ n2_ n3_; clear hb hbox hg))
 (try simp only [Act.put, List.setIfInBounds_toArray, List.set_cons_zero, List.set_cons_succ])
 go_cut [3] (fun v3 wc => ∃ (kq : Nat) (x3_1 : Bool), v3 = .bool x3_1 ∧ Aside0 (item_right.j0 kq x3_1 a0_0 a0_1 a0_2 a0_3 a0_4 a0_5 a0_6 a0_7 a0_8 = some r) ∧ Aside0 (kq ≤ k) ∧ Aside0 (wc.heap[gb111]? = some (.cells #[.int .i64 a0_0, .int .i64 a0_1, .int .i64 a0_2, .int .i64 a0_3, .int .i64 a0_4, .int .i64 a0_5, .bool a0_6, .int .i64 a0_7, .int .i64 a0_8] 45 (0, 0))) ∧ Aside0 (Below w.heap.size w wc))
 case first =>
  have H := HC2.out
  clear HC2
  by_cases c4 : (a0_2 == 0 && (a0_3 == 0 && (a0_4 == 0))) = true
  ·rw [if_pos c4] at H
   have c4b0 : (a0_2 == 0 && (a0_3 == 0 && (a0_4 == 0))) = true := c4
   (try (have c4b1 : decide (a0_2 = 0 && (a0_3 == 0 && (a0_4 == 0))) = true := by simpa using c4))
   (try (have c4b2 : (a0_2 == 0 && (a0_3 == 0 && (a0_4 == 0))) = true := by simpa using c4))
   clear c4
   (first | rw [c4b0] | (simp only [i64_w, i32_w]; rw [c4b0]) | skip)
   by_cases c5 : a0_1 ≥ 0
   ·rw [if_pos c5] at H
    have c5b0 : decide (0 ≤ a0_1) = true := decide_eq_true c5
    clear c5
    replace H := Option.bind_eq_some_iff.mp H
    obtain ⟨t112, A60, H⟩ := H
    replace H : (item_right.j0 k t112 a0_0 a0_1 a0_2 a0_3 a0_4 a0_5 a0_6 a0_7 a0_8) = some r := H
    have A6 := Aside0.mk A60
    clear A60
    have H' := Aside0.mk H
    clear H
    have hcz7_0 : w3.cell? ⟨gb111, 0, none⟩ = some (.int .i64 a0_0) := (blk_cell BK111.out 0).trans rfl
    have hcz7_1 : w3.cell? ⟨gb111, 1, none⟩ = some (.int .i64 a0_1) := (blk_cell BK111.out 1).trans rfl
    have hcz7_2 : w3.cell? ⟨gb111, 2, none⟩ = some (.int .i64 a0_2) := (blk_cell BK111.out 2).trans rfl
    have hcz7_3 : w3.cell? ⟨gb111, 3, none⟩ = some (.int .i64 a0_3) := (blk_cell BK111.out 3).trans rfl
    have hcz7_4 : w3.cell? ⟨gb111, 4, none⟩ = some (.int .i64 a0_4) := (blk_cell BK111.out 4).trans rfl
    have hcz7_5 : w3.cell? ⟨gb111, 5, none⟩ = some (.int .i64 a0_5) := (blk_cell BK111.out 5).trans rfl
    have hcz7_6 : w3.cell? ⟨gb111, 6, none⟩ = some (.bool a0_6) := (blk_cell BK111.out 6).trans rfl
    have hcz7_7 : w3.cell? ⟨gb111, 7, none⟩ = some (.int .i64 a0_7) := (blk_cell BK111.out 7).trans rfl
    have hcz7_8 : w3.cell? ⟨gb111, 8, none⟩ = some (.int .i64 a0_8) := (blk_cell BK111.out 8).trans rfl
    have hfz7_0 := blk_frozen BK111.out 0
    have hfz7_1 := blk_frozen BK111.out 1
    have hfz7_2 := blk_frozen BK111.out 2
    have hfz7_3 := blk_frozen BK111.out 3
    have hfz7_4 := blk_frozen BK111.out 4
    have hfz7_5 := blk_frozen BK111.out 5
    have hfz7_6 := blk_frozen BK111.out 6
    have hfz7_7 := blk_frozen BK111.out 7
    have hfz7_8 := blk_frozen BK111.out 8
    go_wp2_with (first | (go_at_call 27; (with_reducible refine (scaled_Fits.calls a0_1 t112 _ A6.out).mono ?_); rintro e w' ⟨rfl, ⟨nd, rfl⟩⟩))
    go_meet
    case rel => exact ⟨_, (t112), (by first | rfl | (simp; done) | (simp [*]; done)), H', ⟨by first | omega | exact Nat.le_refl _⟩, ⟨by (with_reducible repeat (first | refine blk_drewN ?_ _ | refine blk_drew ?_ | refine blk_alloc ?_ _)); exact BK111.out⟩, ⟨by repeat (first | (with_reducible first | exact HB.out | apply below_alloc | apply pw_below_drewN | apply below_drew1 | refine below_set ?_ GE111.out) | exact HB.out)⟩⟩
   ·rw [if_neg c5] at H
    have c5b0 : decide (0 ≤ a0_1) = false := decide_eq_false c5
    clear c5
    have H' := Aside0.mk H
    clear H
    have hcz8_0 : w3.cell? ⟨gb111, 0, none⟩ = some (.int .i64 a0_0) := (blk_cell BK111.out 0).trans rfl
    have hcz8_1 : w3.cell? ⟨gb111, 1, none⟩ = some (.int .i64 a0_1) := (blk_cell BK111.out 1).trans rfl
    have hcz8_2 : w3.cell? ⟨gb111, 2, none⟩ = some (.int .i64 a0_2) := (blk_cell BK111.out 2).trans rfl
    have hcz8_3 : w3.cell? ⟨gb111, 3, none⟩ = some (.int .i64 a0_3) := (blk_cell BK111.out 3).trans rfl
    have hcz8_4 : w3.cell? ⟨gb111, 4, none⟩ = some (.int .i64 a0_4) := (blk_cell BK111.out 4).trans rfl
    have hcz8_5 : w3.cell? ⟨gb111, 5, none⟩ = some (.int .i64 a0_5) := (blk_cell BK111.out 5).trans rfl
    have hcz8_6 : w3.cell? ⟨gb111, 6, none⟩ = some (.bool a0_6) := (blk_cell BK111.out 6).trans rfl
    have hcz8_7 : w3.cell? ⟨gb111, 7, none⟩ = some (.int .i64 a0_7) := (blk_cell BK111.out 7).trans rfl
    have hcz8_8 : w3.cell? ⟨gb111, 8, none⟩ = some (.int .i64 a0_8) := (blk_cell BK111.out 8).trans rfl
    have hfz8_0 := blk_frozen BK111.out 0
    have hfz8_1 := blk_frozen BK111.out 1
    have hfz8_2 := blk_frozen BK111.out 2
    have hfz8_3 := blk_frozen BK111.out 3
    have hfz8_4 := blk_frozen BK111.out 4
    have hfz8_5 := blk_frozen BK111.out 5
    have hfz8_6 := blk_frozen BK111.out 6
    have hfz8_7 := blk_frozen BK111.out 7
    have hfz8_8 := blk_frozen BK111.out 8
    go_wp2
    go_meet
    case rel => exact ⟨_, (false), (by first | rfl | (simp; done) | (simp [*]; done)), H', ⟨by first | omega | exact Nat.le_refl _⟩, ⟨by (with_reducible repeat (first | refine blk_drewN ?_ _ | refine blk_drew ?_ | refine blk_alloc ?_ _)); exact BK111.out⟩, ⟨by repeat (first | (with_reducible first | exact HB.out | apply below_alloc | apply pw_below_drewN | apply below_drew1 | refine below_set ?_ GE111.out) | exact HB.out)⟩⟩
  ·rw [if_neg c4] at H
   have c4b0 : (a0_2 == 0 && (a0_3 == 0 && (a0_4 == 0))) = false := by simpa using c4
   (try (have c4b1 : decide (a0_2 = 0 && (a0_3 == 0 && (a0_4 == 0))) = false := by simpa using c4))
   (try (have c4b2 : (a0_2 == 0 && (a0_3 == 0 && (a0_4 == 0))) = false := by simpa using c4))
   (try (have c4b3 : ¬ (a0_2 = 0 && (a0_3 == 0 && (a0_4 == 0))) := by simpa using c4))
   clear c4
   (first | rw [c4b0] | (simp only [i64_w, i32_w]; rw [c4b0]) | skip)
   have H' := Aside0.mk H
   clear H
   have hcz9_0 : w3.cell? ⟨gb111, 0, none⟩ = some (.int .i64 a0_0) := (blk_cell BK111.out 0).trans rfl
   have hcz9_1 : w3.cell? ⟨gb111, 1, none⟩ = some (.int .i64 a0_1) := (blk_cell BK111.out 1).trans rfl
   have hcz9_2 : w3.cell? ⟨gb111, 2, none⟩ = some (.int .i64 a0_2) := (blk_cell BK111.out 2).trans rfl
   have hcz9_3 : w3.cell? ⟨gb111, 3, none⟩ = some (.int .i64 a0_3) := (blk_cell BK111.out 3).trans rfl
   have hcz9_4 : w3.cell? ⟨gb111, 4, none⟩ = some (.int .i64 a0_4) := (blk_cell BK111.out 4).trans rfl
   have hcz9_5 : w3.cell? ⟨gb111, 5, none⟩ = some (.int .i64 a0_5) := (blk_cell BK111.out 5).trans rfl
   have hcz9_6 : w3.cell? ⟨gb111, 6, none⟩ = some (.bool a0_6) := (blk_cell BK111.out 6).trans rfl
   have hcz9_7 : w3.cell? ⟨gb111, 7, none⟩ = some (.int .i64 a0_7) := (blk_cell BK111.out 7).trans rfl
   have hcz9_8 : w3.cell? ⟨gb111, 8, none⟩ = some (.int .i64 a0_8) := (blk_cell BK111.out 8).trans rfl
   have hfz9_0 := blk_frozen BK111.out 0
   have hfz9_1 := blk_frozen BK111.out 1
   have hfz9_2 := blk_frozen BK111.out 2
   have hfz9_3 := blk_frozen BK111.out 3
   have hfz9_4 := blk_frozen BK111.out 4
   have hfz9_5 := blk_frozen BK111.out 5
   have hfz9_6 := blk_frozen BK111.out 6
   have hfz9_7 := blk_frozen BK111.out 7
   have hfz9_8 := blk_frozen BK111.out 8
   go_wp2
   go_meet
   case rel => exact ⟨_, (false), (by first | rfl | (simp; done) | (simp [*]; done)), H', ⟨by first | omega | exact Nat.le_refl _⟩, ⟨by (with_reducible repeat (first | refine blk_drewN ?_ _ | refine blk_drew ?_ | refine blk_alloc ?_ _)); exact BK111.out⟩, ⟨by repeat (first | (with_reducible first | exact HB.out | apply below_alloc | apply pw_below_drewN | apply below_drew1 | refine below_set ?_ GE111.out) | exact HB.out)⟩⟩
 case rest =>
  clear HC2
  try clear c2
  try clear p2
  try clear c4
  try clear c4b0
  try clear c4b1
  try clear c4b2
  try clear c5
  try clear c5b0
  try clear hcz7_0
  try clear hcz7_1
  try clear hcz7_2
  try clear hcz7_3
  try clear hcz7_4
  try clear hcz7_5
  try clear hcz7_6
  try clear hcz7_7
  try clear hcz7_8
  try clear hcz8_0
  try clear hcz8_1
  try clear hcz8_2
  try clear hcz8_3
  try clear hcz8_4
  try clear hcz8_5
  try clear hcz8_6
  try clear hcz8_7
  try clear hcz8_8
  try clear hcz9_0
  try clear hcz9_1
  try clear hcz9_2
  try clear hcz9_3
  try clear hcz9_4
  try clear hcz9_5
  try clear hcz9_6
  try clear hcz9_7
  try clear hcz9_8
  try clear hfz7_0
  try clear hfz7_1
  try clear hfz7_2
  try clear hfz7_3
  try clear hfz7_4
  try clear hfz7_5
  try clear hfz7_6
  try clear hfz7_7
  try clear hfz7_8
  try clear hfz8_0
  try clear hfz8_1
  try clear hfz8_2
  try clear hfz8_3
  try clear hfz8_4
  try clear hfz8_5
  try clear hfz8_6
  try clear hfz8_7
  try clear hfz8_8
  try clear hfz9_0
  try clear hfz9_1
  try clear hfz9_2
  try clear hfz9_3
  try clear hfz9_4
  try clear hfz9_5
  try clear hfz9_6
  try clear hfz9_7
  try clear hfz9_8
  obtain ⟨kq, x3_1, rfl, HA, HJ1, BK111, HB⟩ := hcut
  cases kq with
  | zero => exact absurd HA.out (by simp [item_right.j0])
  | succ kj1 =>
   have H := HA.out
   clear HA
   simp only [item_right.j0] at H
   by_cases c10 : a0_0 = 0
   ·rw [if_pos c10] at H
    have c10b0 : (a0_0 == 0) = true := beq_iff_eq.mpr c10
    have c10b1 : (a0_0 != 0) = false := bne_eq_false_iff_eq.mpr c10
    clear c10
    by_cases c11 : x3_1 = true
    ·subst c11
     have H1 : (if a0_5 = 0 then (if a0_6 = true then (some false) else (if a0_7 ≥ 0 then (some (decide (a0_8 ≥ 0))) else (some false))) else (some false)) = some r := by rw [if_pos rfl] at H; exact H
     clear H
     have H := H1
     clear H1
     by_cases c12 : a0_5 = 0
     ·rw [if_pos c12] at H
      have c12b0 : (a0_5 == 0) = true := beq_iff_eq.mpr c12
      have c12b1 : (a0_5 != 0) = false := bne_eq_false_iff_eq.mpr c12
      clear c12
      by_cases c13 : a0_6 = true
      ·subst c13
       have H1 : (some false) = some r := by rw [if_pos rfl] at H; exact H
       clear H
       have H := H1
       clear H1
       obtain rfl := Option.some.inj H
       have hcz14_0 : wc.cell? ⟨gb111, 0, none⟩ = some (.int .i64 a0_0) := (blk_cell BK111.out 0).trans rfl
       have hcz14_1 : wc.cell? ⟨gb111, 1, none⟩ = some (.int .i64 a0_1) := (blk_cell BK111.out 1).trans rfl
       have hcz14_2 : wc.cell? ⟨gb111, 2, none⟩ = some (.int .i64 a0_2) := (blk_cell BK111.out 2).trans rfl
       have hcz14_3 : wc.cell? ⟨gb111, 3, none⟩ = some (.int .i64 a0_3) := (blk_cell BK111.out 3).trans rfl
       have hcz14_4 : wc.cell? ⟨gb111, 4, none⟩ = some (.int .i64 a0_4) := (blk_cell BK111.out 4).trans rfl
       have hcz14_5 : wc.cell? ⟨gb111, 5, none⟩ = some (.int .i64 a0_5) := (blk_cell BK111.out 5).trans rfl
       have hcz14_6 : wc.cell? ⟨gb111, 6, none⟩ = some (.bool true) := (blk_cell BK111.out 6).trans rfl
       have hcz14_7 : wc.cell? ⟨gb111, 7, none⟩ = some (.int .i64 a0_7) := (blk_cell BK111.out 7).trans rfl
       have hcz14_8 : wc.cell? ⟨gb111, 8, none⟩ = some (.int .i64 a0_8) := (blk_cell BK111.out 8).trans rfl
       have hfz14_0 := blk_frozen BK111.out 0
       have hfz14_1 := blk_frozen BK111.out 1
       have hfz14_2 := blk_frozen BK111.out 2
       have hfz14_3 := blk_frozen BK111.out 3
       have hfz14_4 := blk_frozen BK111.out 4
       have hfz14_5 := blk_frozen BK111.out 5
       have hfz14_6 := blk_frozen BK111.out 6
       have hfz14_7 := blk_frozen BK111.out 7
       have hfz14_8 := blk_frozen BK111.out 8
       go_wp2
       go_ret
       exact ⟨by first | rfl | (simp [errW_none, errW_some] <;> rfl) | (simp [*, errW_none, errW_some] <;> rfl), by repeat (first | (with_reducible first | exact HB.out | apply below_alloc | apply pw_below_drewN | apply below_drew1 | refine below_set ?_ GE111.out) | exact HB.out)⟩
      ·replace c13 := Bool.eq_false_iff.mpr c13
       subst c13
       have H1 : (if a0_7 ≥ 0 then (some (decide (a0_8 ≥ 0))) else (some false)) = some r := by rw [if_neg (show ¬ (false = true) by decide)] at H; exact H
       clear H
       have H := H1
       clear H1
       by_cases c15 : a0_7 ≥ 0
       ·rw [if_pos c15] at H
        have c15b0 : decide (0 ≤ a0_7) = true := decide_eq_true c15
        clear c15
        obtain rfl := Option.some.inj H
        have hcz16_0 : wc.cell? ⟨gb111, 0, none⟩ = some (.int .i64 a0_0) := (blk_cell BK111.out 0).trans rfl
        have hcz16_1 : wc.cell? ⟨gb111, 1, none⟩ = some (.int .i64 a0_1) := (blk_cell BK111.out 1).trans rfl
        have hcz16_2 : wc.cell? ⟨gb111, 2, none⟩ = some (.int .i64 a0_2) := (blk_cell BK111.out 2).trans rfl
        have hcz16_3 : wc.cell? ⟨gb111, 3, none⟩ = some (.int .i64 a0_3) := (blk_cell BK111.out 3).trans rfl
        have hcz16_4 : wc.cell? ⟨gb111, 4, none⟩ = some (.int .i64 a0_4) := (blk_cell BK111.out 4).trans rfl
        have hcz16_5 : wc.cell? ⟨gb111, 5, none⟩ = some (.int .i64 a0_5) := (blk_cell BK111.out 5).trans rfl
        have hcz16_6 : wc.cell? ⟨gb111, 6, none⟩ = some (.bool false) := (blk_cell BK111.out 6).trans rfl
        have hcz16_7 : wc.cell? ⟨gb111, 7, none⟩ = some (.int .i64 a0_7) := (blk_cell BK111.out 7).trans rfl
        have hcz16_8 : wc.cell? ⟨gb111, 8, none⟩ = some (.int .i64 a0_8) := (blk_cell BK111.out 8).trans rfl
        have hfz16_0 := blk_frozen BK111.out 0
        have hfz16_1 := blk_frozen BK111.out 1
        have hfz16_2 := blk_frozen BK111.out 2
        have hfz16_3 := blk_frozen BK111.out 3
        have hfz16_4 := blk_frozen BK111.out 4
        have hfz16_5 := blk_frozen BK111.out 5
        have hfz16_6 := blk_frozen BK111.out 6
        have hfz16_7 := blk_frozen BK111.out 7
        have hfz16_8 := blk_frozen BK111.out 8
        go_wp2
        go_ret
        exact ⟨by first | rfl | (simp [errW_none, errW_some] <;> rfl) | (simp [*, errW_none, errW_some] <;> rfl), by repeat (first | (with_reducible first | exact HB.out | apply below_alloc | apply pw_below_drewN | apply below_drew1 | refine below_set ?_ GE111.out) | exact HB.out)⟩
       ·rw [if_neg c15] at H
        have c15b0 : decide (0 ≤ a0_7) = false := decide_eq_false c15
        clear c15
        obtain rfl := Option.some.inj H
        have hcz17_0 : wc.cell? ⟨gb111, 0, none⟩ = some (.int .i64 a0_0) := (blk_cell BK111.out 0).trans rfl
        have hcz17_1 : wc.cell? ⟨gb111, 1, none⟩ = some (.int .i64 a0_1) := (blk_cell BK111.out 1).trans rfl
        have hcz17_2 : wc.cell? ⟨gb111, 2, none⟩ = some (.int .i64 a0_2) := (blk_cell BK111.out 2).trans rfl
        have hcz17_3 : wc.cell? ⟨gb111, 3, none⟩ = some (.int .i64 a0_3) := (blk_cell BK111.out 3).trans rfl
        have hcz17_4 : wc.cell? ⟨gb111, 4, none⟩ = some (.int .i64 a0_4) := (blk_cell BK111.out 4).trans rfl
        have hcz17_5 : wc.cell? ⟨gb111, 5, none⟩ = some (.int .i64 a0_5) := (blk_cell BK111.out 5).trans rfl
        have hcz17_6 : wc.cell? ⟨gb111, 6, none⟩ = some (.bool false) := (blk_cell BK111.out 6).trans rfl
        have hcz17_7 : wc.cell? ⟨gb111, 7, none⟩ = some (.int .i64 a0_7) := (blk_cell BK111.out 7).trans rfl
        have hcz17_8 : wc.cell? ⟨gb111, 8, none⟩ = some (.int .i64 a0_8) := (blk_cell BK111.out 8).trans rfl
        have hfz17_0 := blk_frozen BK111.out 0
        have hfz17_1 := blk_frozen BK111.out 1
        have hfz17_2 := blk_frozen BK111.out 2
        have hfz17_3 := blk_frozen BK111.out 3
        have hfz17_4 := blk_frozen BK111.out 4
        have hfz17_5 := blk_frozen BK111.out 5
        have hfz17_6 := blk_frozen BK111.out 6
        have hfz17_7 := blk_frozen BK111.out 7
        have hfz17_8 := blk_frozen BK111.out 8
        go_wp2
        go_ret
        exact ⟨by first | rfl | (simp [errW_none, errW_some] <;> rfl) | (simp [*, errW_none, errW_some] <;> rfl), by repeat (first | (with_reducible first | exact HB.out | apply below_alloc | apply pw_below_drewN | apply below_drew1 | refine below_set ?_ GE111.out) | exact HB.out)⟩
     ·rw [if_neg c12] at H
      have c12b0 : (a0_5 == 0) = false := beq_eq_false_iff_ne.mpr c12
      have c12b1 : (a0_5 != 0) = true := bne_iff_ne.mpr c12
      obtain rfl := Option.some.inj H
      have hcz18_0 : wc.cell? ⟨gb111, 0, none⟩ = some (.int .i64 a0_0) := (blk_cell BK111.out 0).trans rfl
      have hcz18_1 : wc.cell? ⟨gb111, 1, none⟩ = some (.int .i64 a0_1) := (blk_cell BK111.out 1).trans rfl
      have hcz18_2 : wc.cell? ⟨gb111, 2, none⟩ = some (.int .i64 a0_2) := (blk_cell BK111.out 2).trans rfl
      have hcz18_3 : wc.cell? ⟨gb111, 3, none⟩ = some (.int .i64 a0_3) := (blk_cell BK111.out 3).trans rfl
      have hcz18_4 : wc.cell? ⟨gb111, 4, none⟩ = some (.int .i64 a0_4) := (blk_cell BK111.out 4).trans rfl
      have hcz18_5 : wc.cell? ⟨gb111, 5, none⟩ = some (.int .i64 a0_5) := (blk_cell BK111.out 5).trans rfl
      have hcz18_6 : wc.cell? ⟨gb111, 6, none⟩ = some (.bool a0_6) := (blk_cell BK111.out 6).trans rfl
      have hcz18_7 : wc.cell? ⟨gb111, 7, none⟩ = some (.int .i64 a0_7) := (blk_cell BK111.out 7).trans rfl
      have hcz18_8 : wc.cell? ⟨gb111, 8, none⟩ = some (.int .i64 a0_8) := (blk_cell BK111.out 8).trans rfl
      have hfz18_0 := blk_frozen BK111.out 0
      have hfz18_1 := blk_frozen BK111.out 1
      have hfz18_2 := blk_frozen BK111.out 2
      have hfz18_3 := blk_frozen BK111.out 3
      have hfz18_4 := blk_frozen BK111.out 4
      have hfz18_5 := blk_frozen BK111.out 5
      have hfz18_6 := blk_frozen BK111.out 6
      have hfz18_7 := blk_frozen BK111.out 7
      have hfz18_8 := blk_frozen BK111.out 8
      go_wp2
      go_ret
      exact ⟨by first | rfl | (simp [errW_none, errW_some] <;> rfl) | (simp [*, errW_none, errW_some] <;> rfl), by repeat (first | (with_reducible first | exact HB.out | apply below_alloc | apply pw_below_drewN | apply below_drew1 | refine below_set ?_ GE111.out) | exact HB.out)⟩
    ·replace c11 := Bool.eq_false_iff.mpr c11
     subst c11
     have H1 : (some false) = some r := by rw [if_neg (show ¬ (false = true) by decide)] at H; exact H
     clear H
     have H := H1
     clear H1
     obtain rfl := Option.some.inj H
     have hcz19_0 : wc.cell? ⟨gb111, 0, none⟩ = some (.int .i64 a0_0) := (blk_cell BK111.out 0).trans rfl
     have hcz19_1 : wc.cell? ⟨gb111, 1, none⟩ = some (.int .i64 a0_1) := (blk_cell BK111.out 1).trans rfl
     have hcz19_2 : wc.cell? ⟨gb111, 2, none⟩ = some (.int .i64 a0_2) := (blk_cell BK111.out 2).trans rfl
     have hcz19_3 : wc.cell? ⟨gb111, 3, none⟩ = some (.int .i64 a0_3) := (blk_cell BK111.out 3).trans rfl
     have hcz19_4 : wc.cell? ⟨gb111, 4, none⟩ = some (.int .i64 a0_4) := (blk_cell BK111.out 4).trans rfl
     have hcz19_5 : wc.cell? ⟨gb111, 5, none⟩ = some (.int .i64 a0_5) := (blk_cell BK111.out 5).trans rfl
     have hcz19_6 : wc.cell? ⟨gb111, 6, none⟩ = some (.bool a0_6) := (blk_cell BK111.out 6).trans rfl
     have hcz19_7 : wc.cell? ⟨gb111, 7, none⟩ = some (.int .i64 a0_7) := (blk_cell BK111.out 7).trans rfl
     have hcz19_8 : wc.cell? ⟨gb111, 8, none⟩ = some (.int .i64 a0_8) := (blk_cell BK111.out 8).trans rfl
     have hfz19_0 := blk_frozen BK111.out 0
     have hfz19_1 := blk_frozen BK111.out 1
     have hfz19_2 := blk_frozen BK111.out 2
     have hfz19_3 := blk_frozen BK111.out 3
     have hfz19_4 := blk_frozen BK111.out 4
     have hfz19_5 := blk_frozen BK111.out 5
     have hfz19_6 := blk_frozen BK111.out 6
     have hfz19_7 := blk_frozen BK111.out 7
     have hfz19_8 := blk_frozen BK111.out 8
     go_wp2
     go_ret
     exact ⟨by first | rfl | (simp [errW_none, errW_some] <;> rfl) | (simp [*, errW_none, errW_some] <;> rfl), by repeat (first | (with_reducible first | exact HB.out | apply below_alloc | apply pw_below_drewN | apply below_drew1 | refine below_set ?_ GE111.out) | exact HB.out)⟩
   ·rw [if_neg c10] at H
    have c10b0 : (a0_0 == 0) = false := beq_eq_false_iff_ne.mpr c10
    have c10b1 : (a0_0 != 0) = true := bne_iff_ne.mpr c10
    by_cases c20 : a0_0 = 1
    ·rw [if_pos c20] at H
     have c20b0 : (a0_0 == 1) = true := beq_iff_eq.mpr c20
     have c20b1 : (a0_0 != 1) = false := bne_eq_false_iff_eq.mpr c20
     clear c20
     obtain ⟨y113, hy113⟩ : ∃ y_ : List (S23), y_ = (([(⟨a0_1, a0_2, a0_3, a0_4⟩ : S23)] : List (S23))) := ⟨_, rfl⟩
     replace H : ((glue_May.f kj1 y113).bind fun t116 => (if t116 = true then (if a0_1 ≥ a0_3 then (if a0_5 = 0 then (if a0_6 = true then (some false) else (if a0_5 ≥ (-10000) then (if a0_5 ≤ 10000 then (if a0_7 = 0 then (some (a0_8 == 0)) else (some false)) else (some false)) else (some false))) else (some false)) else (some false)) else (some false))) = some r := by first | (rw [hy113]; with_reducible exact H) | (have H2_ := (Option.bind_some _ _).symm.trans H; rw [hy113]; with_reducible exact H2_) | (have H2_ := (Option.bind_some _ _).symm.trans H; with_reducible exact H2_) | with_reducible exact H | (rw [hy113]; exact H) | exact H
     have Ny113 := Aside0.mk hy113
     clear hy113
     replace H := Option.bind_eq_some_iff.mp H
     obtain ⟨t116, A210, H⟩ := H
     replace H : (if t116 = true then (if a0_1 ≥ a0_3 then (if a0_5 = 0 then (if a0_6 = true then (some false) else (if a0_5 ≥ (-10000) then (if a0_5 ≤ 10000 then (if a0_7 = 0 then (some (a0_8 == 0)) else (some false)) else (some false)) else (some false))) else (some false)) else (some false)) else (some false)) = some r := H
     have A21 := Aside0.mk A210
     clear A210
     by_cases c22 : t116 = true
     ·subst c22
      have H1 : (if a0_1 ≥ a0_3 then (if a0_5 = 0 then (if a0_6 = true then (some false) else (if a0_5 ≥ (-10000) then (if a0_5 ≤ 10000 then (if a0_7 = 0 then (some (a0_8 == 0)) else (some false)) else (some false)) else (some false))) else (some false)) else (some false)) = some r := by rw [if_pos rfl] at H; exact H
      clear H
      have H := H1
      clear H1
      by_cases c23 : a0_1 ≥ a0_3
      ·rw [if_pos c23] at H
       have c23b0 : decide (a0_3 ≤ a0_1) = true := decide_eq_true c23
       clear c23
       by_cases c24 : a0_5 = 0
       ·rw [if_pos c24] at H
        have c24b0 : (a0_5 == 0) = true := beq_iff_eq.mpr c24
        have c24b1 : (a0_5 != 0) = false := bne_eq_false_iff_eq.mpr c24
        clear c24
        by_cases c25 : a0_6 = true
        ·subst c25
         have H1 : (some false) = some r := by rw [if_pos rfl] at H; exact H
         clear H
         have H := H1
         clear H1
         obtain rfl := Option.some.inj H
         have hcz26_0 : wc.cell? ⟨gb111, 0, none⟩ = some (.int .i64 a0_0) := (blk_cell BK111.out 0).trans rfl
         have hcz26_1 : wc.cell? ⟨gb111, 1, none⟩ = some (.int .i64 a0_1) := (blk_cell BK111.out 1).trans rfl
         have hcz26_2 : wc.cell? ⟨gb111, 2, none⟩ = some (.int .i64 a0_2) := (blk_cell BK111.out 2).trans rfl
         have hcz26_3 : wc.cell? ⟨gb111, 3, none⟩ = some (.int .i64 a0_3) := (blk_cell BK111.out 3).trans rfl
         have hcz26_4 : wc.cell? ⟨gb111, 4, none⟩ = some (.int .i64 a0_4) := (blk_cell BK111.out 4).trans rfl
         have hcz26_5 : wc.cell? ⟨gb111, 5, none⟩ = some (.int .i64 a0_5) := (blk_cell BK111.out 5).trans rfl
         have hcz26_6 : wc.cell? ⟨gb111, 6, none⟩ = some (.bool true) := (blk_cell BK111.out 6).trans rfl
         have hcz26_7 : wc.cell? ⟨gb111, 7, none⟩ = some (.int .i64 a0_7) := (blk_cell BK111.out 7).trans rfl
         have hcz26_8 : wc.cell? ⟨gb111, 8, none⟩ = some (.int .i64 a0_8) := (blk_cell BK111.out 8).trans rfl
         have hfz26_0 := blk_frozen BK111.out 0
         have hfz26_1 := blk_frozen BK111.out 1
         have hfz26_2 := blk_frozen BK111.out 2
         have hfz26_3 := blk_frozen BK111.out 3
         have hfz26_4 := blk_frozen BK111.out 4
         have hfz26_5 := blk_frozen BK111.out 5
         have hfz26_6 := blk_frozen BK111.out 6
         have hfz26_7 := blk_frozen BK111.out 7
         have hfz26_8 := blk_frozen BK111.out 8
         go_wp2_with (first | ((with_reducible refine gate_dst (N := 54) rfl ?_); refine Kd.R_lit k23 _ 23 ?hg (N := 54) ?hd (xs := ([(⟨a0_1, a0_2, a0_3, a0_4⟩ : S23)] : List (S23))) (inner := [.int .i64 a0_1, .int .i64 a0_2, .int .i64 a0_3, .int .i64 a0_4]) (ok := fun _ => True) (okp := fun _ => True) ?hr ?hp (fun _ hk => hk) trivial (Below.refl _ _) (Nat.le_refl _) (by simp) ?_; (case hd => rfl); (case hg => rfl); (case hr => first | (go_simp; done) | (go_simp; rfl)); (case hp => exact (Reps.c4 (show Kd.M k23 _ _ _ (⟨a0_1, a0_2, a0_3, a0_4⟩ : S23) [.int .i64 a0_1, .int .i64 a0_2, .int .i64 a0_3, .int .i64 a0_4] from (k23_mkM _ _ _ (⟨a0_1, a0_2, a0_3, a0_4⟩ : S23) )) (Reps.none _ _))); intro v114 w27 ho28 hb hg_ hnew_; clear hg_ hnew_; (first | rw [← Ny113.out] at ho28 | (simp only [Int.reduceToNat] at ho28; rw [← Ny113.out] at ho28)); have n0_ := Aside0.mk (Kd.R_lower ho28 (below_size (by repeat (first | (with_reducible first | exact HB.out | apply below_alloc | apply pw_below_drewN | apply below_drew1 | refine below_set ?_ GE111.out) | exact HB.out)))); have n1_ := Aside0.mk (blk_below (g := gb111) (o := .cells #[.int .i64 a0_0, .int .i64 a0_1, .int .i64 a0_2, .int .i64 a0_3, .int .i64 a0_4, .int .i64 a0_5, .bool true, .int .i64 a0_7, .int .i64 a0_8] 45 (0, 0)) (by (with_reducible repeat (first | refine blk_drewN ?_ _ | refine blk_drew ?_ | refine blk_alloc ?_ _)); exact BK111.out) hb); have n2_ := Aside0.mk (below_step (by repeat (first | (with_reducible first | exact HB.out | apply below_alloc | apply pw_below_drewN | apply below_drew1 | refine below_set ?_ GE111.out) | exact HB.out)) hb); clear BK111; clear HB; have HO115 := n0_; have BK111 := n1_; have HB := n2_; clear n0_ n1_ n2_; clear hb ho28; obtain ⟨Ao29, co29, eo29⟩ := Kd.R_slice HO115.out; subst eo29) | ((with_reducible refine gate_callee (f := 22) rfl ?_); refine goesL_ (some 55) rfl rfl Try.func22 (by kernel_rfl) rfl #[.slice Ao29 y113.length co29] rfl (by (try simp only [List.map_toArray, List.map_cons, List.map_nil]); first | done | rfl | (simp only [List.length_drop, List.length_take]; rfl) | (simp only [*]; first | done | rfl)) ?_; (with_reducible refine (glue_May.calls kj1 _ _ y113 true _ ?side1 ?side2 A21.out).mono ?_); (case side1 => repeat (first | exact (Kd.R_reads' HO115.out).2.2 | (with_reducible refine Kd.C_alloc ?_ _) | (with_reducible refine Kd.C_drewN ?_ _) | (with_reducible refine Kd.C_drew ?_))); (case side2 => exact (Kd.R_reads' HO115.out).2.1); rintro e w30 ⟨rfl, hb⟩; refine ⟨_, rfl, ?_⟩; have n0_ := Aside0.mk (Kd.R_below (by (with_reducible repeat (first | apply Kd.R_alloc | apply Kd.R_drewN | apply Kd.R_drew)); exact HO115.out) hb); have n1_ := Aside0.mk (blk_below (g := gb111) (o := .cells #[.int .i64 a0_0, .int .i64 a0_1, .int .i64 a0_2, .int .i64 a0_3, .int .i64 a0_4, .int .i64 a0_5, .bool true, .int .i64 a0_7, .int .i64 a0_8] 45 (0, 0)) (by (with_reducible repeat (first | refine blk_drewN ?_ _ | refine blk_drew ?_ | refine blk_alloc ?_ _)); exact BK111.out) hb); have n2_ := Aside0.mk (below_step (by repeat (first | (with_reducible first | exact HB.out | apply below_alloc | apply pw_below_drewN | apply below_drew1 | refine below_set ?_ GE111.out) | exact HB.out)) hb); clear HO115; clear BK111; clear HB; have HO115 := n0_; have BK111 := n1_; have HB := n2_; clear n0_ n1_ n2_; (try clear hb); (try clear hb2); (try clear hk); (try clear hi); have hcz31_0 : w30.cell? ⟨gb111, 0, none⟩ = some (.int .i64 a0_0) := (blk_cell BK111.out 0).trans rfl; have hcz31_1 : w30.cell? ⟨gb111, 1, none⟩ = some (.int .i64 a0_1) := (blk_cell BK111.out 1).trans rfl; have hcz31_2 : w30.cell? ⟨gb111, 2, none⟩ = some (.int .i64 a0_2) := (blk_cell BK111.out 2).trans rfl; have hcz31_3 : w30.cell? ⟨gb111, 3, none⟩ = some (.int .i64 a0_3) := (blk_cell BK111.out 3).trans rfl; have hcz31_4 : w30.cell? ⟨gb111, 4, none⟩ = some (.int .i64 a0_4) := (blk_cell BK111.out 4).trans rfl; have hcz31_5 : w30.cell? ⟨gb111, 5, none⟩ = some (.int .i64 a0_5) := (blk_cell BK111.out 5).trans rfl; have hcz31_6 : w30.cell? ⟨gb111, 6, none⟩ = some (.bool true) := (blk_cell BK111.out 6).trans rfl; have hcz31_7 : w30.cell? ⟨gb111, 7, none⟩ = some (.int .i64 a0_7) := (blk_cell BK111.out 7).trans rfl; have hcz31_8 : w30.cell? ⟨gb111, 8, none⟩ = some (.int .i64 a0_8) := (blk_cell BK111.out 8).trans rfl; have hfz31_0 := blk_frozen BK111.out 0; have hfz31_1 := blk_frozen BK111.out 1; have hfz31_2 := blk_frozen BK111.out 2; have hfz31_3 := blk_frozen BK111.out 3; have hfz31_4 := blk_frozen BK111.out 4; have hfz31_5 := blk_frozen BK111.out 5; have hfz31_6 := blk_frozen BK111.out 6; have hfz31_7 := blk_frozen BK111.out 7; have hfz31_8 := blk_frozen BK111.out 8))
         go_ret
         exact ⟨by first | rfl | (simp [errW_none, errW_some] <;> rfl) | (simp [*, errW_none, errW_some] <;> rfl), by repeat (first | (with_reducible first | exact HB.out | apply below_alloc | apply pw_below_drewN | apply below_drew1 | refine below_set ?_ GE111.out) | exact HB.out)⟩
        ·replace c25 := Bool.eq_false_iff.mpr c25
         subst c25
         have H1 : (if a0_5 ≥ (-10000) then (if a0_5 ≤ 10000 then (if a0_7 = 0 then (some (a0_8 == 0)) else (some false)) else (some false)) else (some false)) = some r := by rw [if_neg (show ¬ (false = true) by decide)] at H; exact H
         clear H
         have H := H1
         clear H1
         by_cases c32 : a0_5 ≥ (-10000)
         ·rw [if_pos c32] at H
          have c32b0 : decide ((-10000) ≤ a0_5) = true := decide_eq_true c32
          clear c32
          by_cases c33 : a0_5 ≤ 10000
          ·rw [if_pos c33] at H
           have c33b0 : decide (a0_5 ≤ 10000) = true := decide_eq_true c33
           clear c33
           by_cases c34 : a0_7 = 0
           ·rw [if_pos c34] at H
            have c34b0 : (a0_7 == 0) = true := beq_iff_eq.mpr c34
            have c34b1 : (a0_7 != 0) = false := bne_eq_false_iff_eq.mpr c34
            clear c34
            obtain rfl := Option.some.inj H
            have hcz35_0 : wc.cell? ⟨gb111, 0, none⟩ = some (.int .i64 a0_0) := (blk_cell BK111.out 0).trans rfl
            have hcz35_1 : wc.cell? ⟨gb111, 1, none⟩ = some (.int .i64 a0_1) := (blk_cell BK111.out 1).trans rfl
            have hcz35_2 : wc.cell? ⟨gb111, 2, none⟩ = some (.int .i64 a0_2) := (blk_cell BK111.out 2).trans rfl
            have hcz35_3 : wc.cell? ⟨gb111, 3, none⟩ = some (.int .i64 a0_3) := (blk_cell BK111.out 3).trans rfl
            have hcz35_4 : wc.cell? ⟨gb111, 4, none⟩ = some (.int .i64 a0_4) := (blk_cell BK111.out 4).trans rfl
            have hcz35_5 : wc.cell? ⟨gb111, 5, none⟩ = some (.int .i64 a0_5) := (blk_cell BK111.out 5).trans rfl
            have hcz35_6 : wc.cell? ⟨gb111, 6, none⟩ = some (.bool false) := (blk_cell BK111.out 6).trans rfl
            have hcz35_7 : wc.cell? ⟨gb111, 7, none⟩ = some (.int .i64 a0_7) := (blk_cell BK111.out 7).trans rfl
            have hcz35_8 : wc.cell? ⟨gb111, 8, none⟩ = some (.int .i64 a0_8) := (blk_cell BK111.out 8).trans rfl
            have hfz35_0 := blk_frozen BK111.out 0
            have hfz35_1 := blk_frozen BK111.out 1
            have hfz35_2 := blk_frozen BK111.out 2
            have hfz35_3 := blk_frozen BK111.out 3
            have hfz35_4 := blk_frozen BK111.out 4
            have hfz35_5 := blk_frozen BK111.out 5
            have hfz35_6 := blk_frozen BK111.out 6
            have hfz35_7 := blk_frozen BK111.out 7
            have hfz35_8 := blk_frozen BK111.out 8
            go_wp2_with (first | ((with_reducible refine gate_dst (N := 54) rfl ?_); refine Kd.R_lit k23 _ 23 ?hg (N := 54) ?hd (xs := ([(⟨a0_1, a0_2, a0_3, a0_4⟩ : S23)] : List (S23))) (inner := [.int .i64 a0_1, .int .i64 a0_2, .int .i64 a0_3, .int .i64 a0_4]) (ok := fun _ => True) (okp := fun _ => True) ?hr ?hp (fun _ hk => hk) trivial (Below.refl _ _) (Nat.le_refl _) (by simp) ?_; (case hd => rfl); (case hg => rfl); (case hr => first | (go_simp; done) | (go_simp; rfl)); (case hp => exact (Reps.c4 (show Kd.M k23 _ _ _ (⟨a0_1, a0_2, a0_3, a0_4⟩ : S23) [.int .i64 a0_1, .int .i64 a0_2, .int .i64 a0_3, .int .i64 a0_4] from (k23_mkM _ _ _ (⟨a0_1, a0_2, a0_3, a0_4⟩ : S23) )) (Reps.none _ _))); intro v114 w36 ho37 hb hg_ hnew_; clear hg_ hnew_; (first | rw [← Ny113.out] at ho37 | (simp only [Int.reduceToNat] at ho37; rw [← Ny113.out] at ho37)); have n0_ := Aside0.mk (Kd.R_lower ho37 (below_size (by repeat (first | (with_reducible first | exact HB.out | apply below_alloc | apply pw_below_drewN | apply below_drew1 | refine below_set ?_ GE111.out) | exact HB.out)))); have n1_ := Aside0.mk (blk_below (g := gb111) (o := .cells #[.int .i64 a0_0, .int .i64 a0_1, .int .i64 a0_2, .int .i64 a0_3, .int .i64 a0_4, .int .i64 a0_5, .bool false, .int .i64 a0_7, .int .i64 a0_8] 45 (0, 0)) (by (with_reducible repeat (first | refine blk_drewN ?_ _ | refine blk_drew ?_ | refine blk_alloc ?_ _)); exact BK111.out) hb); have n2_ := Aside0.mk (below_step (by repeat (first | (with_reducible first | exact HB.out | apply below_alloc | apply pw_below_drewN | apply below_drew1 | refine below_set ?_ GE111.out) | exact HB.out)) hb); clear BK111; clear HB; have HO115 := n0_; have BK111 := n1_; have HB := n2_; clear n0_ n1_ n2_; clear hb ho37; obtain ⟨Ao38, co38, eo38⟩ := Kd.R_slice HO115.out; subst eo38) | ((with_reducible refine gate_callee (f := 22) rfl ?_); refine goesL_ (some 55) rfl rfl Try.func22 (by kernel_rfl) rfl #[.slice Ao38 y113.length co38] rfl (by (try simp only [List.map_toArray, List.map_cons, List.map_nil]); first | done | rfl | (simp only [List.length_drop, List.length_take]; rfl) | (simp only [*]; first | done | rfl)) ?_; (with_reducible refine (glue_May.calls kj1 _ _ y113 true _ ?side1 ?side2 A21.out).mono ?_); (case side1 => repeat (first | exact (Kd.R_reads' HO115.out).2.2 | (with_reducible refine Kd.C_alloc ?_ _) | (with_reducible refine Kd.C_drewN ?_ _) | (with_reducible refine Kd.C_drew ?_))); (case side2 => exact (Kd.R_reads' HO115.out).2.1); rintro e w39 ⟨rfl, hb⟩; refine ⟨_, rfl, ?_⟩; have n0_ := Aside0.mk (Kd.R_below (by (with_reducible repeat (first | apply Kd.R_alloc | apply Kd.R_drewN | apply Kd.R_drew)); exact HO115.out) hb); have n1_ := Aside0.mk (blk_below (g := gb111) (o := .cells #[.int .i64 a0_0, .int .i64 a0_1, .int .i64 a0_2, .int .i64 a0_3, .int .i64 a0_4, .int .i64 a0_5, .bool false, .int .i64 a0_7, .int .i64 a0_8] 45 (0, 0)) (by (with_reducible repeat (first | refine blk_drewN ?_ _ | refine blk_drew ?_ | refine blk_alloc ?_ _)); exact BK111.out) hb); have n2_ := Aside0.mk (below_step (by repeat (first | (with_reducible first | exact HB.out | apply below_alloc | apply pw_below_drewN | apply below_drew1 | refine below_set ?_ GE111.out) | exact HB.out)) hb); clear HO115; clear BK111; clear HB; have HO115 := n0_; have BK111 := n1_; have HB := n2_; clear n0_ n1_ n2_; (try clear hb); (try clear hb2); (try clear hk); (try clear hi); have hcz40_0 : w39.cell? ⟨gb111, 0, none⟩ = some (.int .i64 a0_0) := (blk_cell BK111.out 0).trans rfl; have hcz40_1 : w39.cell? ⟨gb111, 1, none⟩ = some (.int .i64 a0_1) := (blk_cell BK111.out 1).trans rfl; have hcz40_2 : w39.cell? ⟨gb111, 2, none⟩ = some (.int .i64 a0_2) := (blk_cell BK111.out 2).trans rfl; have hcz40_3 : w39.cell? ⟨gb111, 3, none⟩ = some (.int .i64 a0_3) := (blk_cell BK111.out 3).trans rfl; have hcz40_4 : w39.cell? ⟨gb111, 4, none⟩ = some (.int .i64 a0_4) := (blk_cell BK111.out 4).trans rfl; have hcz40_5 : w39.cell? ⟨gb111, 5, none⟩ = some (.int .i64 a0_5) := (blk_cell BK111.out 5).trans rfl; have hcz40_6 : w39.cell? ⟨gb111, 6, none⟩ = some (.bool false) := (blk_cell BK111.out 6).trans rfl; have hcz40_7 : w39.cell? ⟨gb111, 7, none⟩ = some (.int .i64 a0_7) := (blk_cell BK111.out 7).trans rfl; have hcz40_8 : w39.cell? ⟨gb111, 8, none⟩ = some (.int .i64 a0_8) := (blk_cell BK111.out 8).trans rfl; have hfz40_0 := blk_frozen BK111.out 0; have hfz40_1 := blk_frozen BK111.out 1; have hfz40_2 := blk_frozen BK111.out 2; have hfz40_3 := blk_frozen BK111.out 3; have hfz40_4 := blk_frozen BK111.out 4; have hfz40_5 := blk_frozen BK111.out 5; have hfz40_6 := blk_frozen BK111.out 6; have hfz40_7 := blk_frozen BK111.out 7; have hfz40_8 := blk_frozen BK111.out 8))
            go_ret
            exact ⟨by first | rfl | (simp [errW_none, errW_some] <;> rfl) | (simp [*, errW_none, errW_some] <;> rfl), by repeat (first | (with_reducible first | exact HB.out | apply below_alloc | apply pw_below_drewN | apply below_drew1 | refine below_set ?_ GE111.out) | exact HB.out)⟩
           ·rw [if_neg c34] at H
            have c34b0 : (a0_7 == 0) = false := beq_eq_false_iff_ne.mpr c34
            have c34b1 : (a0_7 != 0) = true := bne_iff_ne.mpr c34
            obtain rfl := Option.some.inj H
            have hcz41_0 : wc.cell? ⟨gb111, 0, none⟩ = some (.int .i64 a0_0) := (blk_cell BK111.out 0).trans rfl
            have hcz41_1 : wc.cell? ⟨gb111, 1, none⟩ = some (.int .i64 a0_1) := (blk_cell BK111.out 1).trans rfl
            have hcz41_2 : wc.cell? ⟨gb111, 2, none⟩ = some (.int .i64 a0_2) := (blk_cell BK111.out 2).trans rfl
            have hcz41_3 : wc.cell? ⟨gb111, 3, none⟩ = some (.int .i64 a0_3) := (blk_cell BK111.out 3).trans rfl
            have hcz41_4 : wc.cell? ⟨gb111, 4, none⟩ = some (.int .i64 a0_4) := (blk_cell BK111.out 4).trans rfl
            have hcz41_5 : wc.cell? ⟨gb111, 5, none⟩ = some (.int .i64 a0_5) := (blk_cell BK111.out 5).trans rfl
            have hcz41_6 : wc.cell? ⟨gb111, 6, none⟩ = some (.bool false) := (blk_cell BK111.out 6).trans rfl
            have hcz41_7 : wc.cell? ⟨gb111, 7, none⟩ = some (.int .i64 a0_7) := (blk_cell BK111.out 7).trans rfl
            have hcz41_8 : wc.cell? ⟨gb111, 8, none⟩ = some (.int .i64 a0_8) := (blk_cell BK111.out 8).trans rfl
            have hfz41_0 := blk_frozen BK111.out 0
            have hfz41_1 := blk_frozen BK111.out 1
            have hfz41_2 := blk_frozen BK111.out 2
            have hfz41_3 := blk_frozen BK111.out 3
            have hfz41_4 := blk_frozen BK111.out 4
            have hfz41_5 := blk_frozen BK111.out 5
            have hfz41_6 := blk_frozen BK111.out 6
            have hfz41_7 := blk_frozen BK111.out 7
            have hfz41_8 := blk_frozen BK111.out 8
            go_wp2_with (first | ((with_reducible refine gate_dst (N := 54) rfl ?_); refine Kd.R_lit k23 _ 23 ?hg (N := 54) ?hd (xs := ([(⟨a0_1, a0_2, a0_3, a0_4⟩ : S23)] : List (S23))) (inner := [.int .i64 a0_1, .int .i64 a0_2, .int .i64 a0_3, .int .i64 a0_4]) (ok := fun _ => True) (okp := fun _ => True) ?hr ?hp (fun _ hk => hk) trivial (Below.refl _ _) (Nat.le_refl _) (by simp) ?_; (case hd => rfl); (case hg => rfl); (case hr => first | (go_simp; done) | (go_simp; rfl)); (case hp => exact (Reps.c4 (show Kd.M k23 _ _ _ (⟨a0_1, a0_2, a0_3, a0_4⟩ : S23) [.int .i64 a0_1, .int .i64 a0_2, .int .i64 a0_3, .int .i64 a0_4] from (k23_mkM _ _ _ (⟨a0_1, a0_2, a0_3, a0_4⟩ : S23) )) (Reps.none _ _))); intro v114 w42 ho43 hb hg_ hnew_; clear hg_ hnew_; (first | rw [← Ny113.out] at ho43 | (simp only [Int.reduceToNat] at ho43; rw [← Ny113.out] at ho43)); have n0_ := Aside0.mk (Kd.R_lower ho43 (below_size (by repeat (first | (with_reducible first | exact HB.out | apply below_alloc | apply pw_below_drewN | apply below_drew1 | refine below_set ?_ GE111.out) | exact HB.out)))); have n1_ := Aside0.mk (blk_below (g := gb111) (o := .cells #[.int .i64 a0_0, .int .i64 a0_1, .int .i64 a0_2, .int .i64 a0_3, .int .i64 a0_4, .int .i64 a0_5, .bool false, .int .i64 a0_7, .int .i64 a0_8] 45 (0, 0)) (by (with_reducible repeat (first | refine blk_drewN ?_ _ | refine blk_drew ?_ | refine blk_alloc ?_ _)); exact BK111.out) hb); have n2_ := Aside0.mk (below_step (by repeat (first | (with_reducible first | exact HB.out | apply below_alloc | apply pw_below_drewN | apply below_drew1 | refine below_set ?_ GE111.out) | exact HB.out)) hb); clear BK111; clear HB; have HO115 := n0_; have BK111 := n1_; have HB := n2_; clear n0_ n1_ n2_; clear hb ho43; obtain ⟨Ao44, co44, eo44⟩ := Kd.R_slice HO115.out; subst eo44) | ((with_reducible refine gate_callee (f := 22) rfl ?_); refine goesL_ (some 55) rfl rfl Try.func22 (by kernel_rfl) rfl #[.slice Ao44 y113.length co44] rfl (by (try simp only [List.map_toArray, List.map_cons, List.map_nil]); first | done | rfl | (simp only [List.length_drop, List.length_take]; rfl) | (simp only [*]; first | done | rfl)) ?_; (with_reducible refine (glue_May.calls kj1 _ _ y113 true _ ?side1 ?side2 A21.out).mono ?_); (case side1 => repeat (first | exact (Kd.R_reads' HO115.out).2.2 | (with_reducible refine Kd.C_alloc ?_ _) | (with_reducible refine Kd.C_drewN ?_ _) | (with_reducible refine Kd.C_drew ?_))); (case side2 => exact (Kd.R_reads' HO115.out).2.1); rintro e w45 ⟨rfl, hb⟩; refine ⟨_, rfl, ?_⟩; have n0_ := Aside0.mk (Kd.R_below (by (with_reducible repeat (first | apply Kd.R_alloc | apply Kd.R_drewN | apply Kd.R_drew)); exact HO115.out) hb); have n1_ := Aside0.mk (blk_below (g := gb111) (o := .cells #[.int .i64 a0_0, .int .i64 a0_1, .int .i64 a0_2, .int .i64 a0_3, .int .i64 a0_4, .int .i64 a0_5, .bool false, .int .i64 a0_7, .int .i64 a0_8] 45 (0, 0)) (by (with_reducible repeat (first | refine blk_drewN ?_ _ | refine blk_drew ?_ | refine blk_alloc ?_ _)); exact BK111.out) hb); have n2_ := Aside0.mk (below_step (by repeat (first | (with_reducible first | exact HB.out | apply below_alloc | apply pw_below_drewN | apply below_drew1 | refine below_set ?_ GE111.out) | exact HB.out)) hb); clear HO115; clear BK111; clear HB; have HO115 := n0_; have BK111 := n1_; have HB := n2_; clear n0_ n1_ n2_; (try clear hb); (try clear hb2); (try clear hk); (try clear hi); have hcz46_0 : w45.cell? ⟨gb111, 0, none⟩ = some (.int .i64 a0_0) := (blk_cell BK111.out 0).trans rfl; have hcz46_1 : w45.cell? ⟨gb111, 1, none⟩ = some (.int .i64 a0_1) := (blk_cell BK111.out 1).trans rfl; have hcz46_2 : w45.cell? ⟨gb111, 2, none⟩ = some (.int .i64 a0_2) := (blk_cell BK111.out 2).trans rfl; have hcz46_3 : w45.cell? ⟨gb111, 3, none⟩ = some (.int .i64 a0_3) := (blk_cell BK111.out 3).trans rfl; have hcz46_4 : w45.cell? ⟨gb111, 4, none⟩ = some (.int .i64 a0_4) := (blk_cell BK111.out 4).trans rfl; have hcz46_5 : w45.cell? ⟨gb111, 5, none⟩ = some (.int .i64 a0_5) := (blk_cell BK111.out 5).trans rfl; have hcz46_6 : w45.cell? ⟨gb111, 6, none⟩ = some (.bool false) := (blk_cell BK111.out 6).trans rfl; have hcz46_7 : w45.cell? ⟨gb111, 7, none⟩ = some (.int .i64 a0_7) := (blk_cell BK111.out 7).trans rfl; have hcz46_8 : w45.cell? ⟨gb111, 8, none⟩ = some (.int .i64 a0_8) := (blk_cell BK111.out 8).trans rfl; have hfz46_0 := blk_frozen BK111.out 0; have hfz46_1 := blk_frozen BK111.out 1; have hfz46_2 := blk_frozen BK111.out 2; have hfz46_3 := blk_frozen BK111.out 3; have hfz46_4 := blk_frozen BK111.out 4; have hfz46_5 := blk_frozen BK111.out 5; have hfz46_6 := blk_frozen BK111.out 6; have hfz46_7 := blk_frozen BK111.out 7; have hfz46_8 := blk_frozen BK111.out 8))
            go_ret
            exact ⟨by first | rfl | (simp [errW_none, errW_some] <;> rfl) | (simp [*, errW_none, errW_some] <;> rfl), by repeat (first | (with_reducible first | exact HB.out | apply below_alloc | apply pw_below_drewN | apply below_drew1 | refine below_set ?_ GE111.out) | exact HB.out)⟩
          ·rw [if_neg c33] at H
           have c33b0 : decide (a0_5 ≤ 10000) = false := decide_eq_false c33
           clear c33
           obtain rfl := Option.some.inj H
           have hcz47_0 : wc.cell? ⟨gb111, 0, none⟩ = some (.int .i64 a0_0) := (blk_cell BK111.out 0).trans rfl
           have hcz47_1 : wc.cell? ⟨gb111, 1, none⟩ = some (.int .i64 a0_1) := (blk_cell BK111.out 1).trans rfl
           have hcz47_2 : wc.cell? ⟨gb111, 2, none⟩ = some (.int .i64 a0_2) := (blk_cell BK111.out 2).trans rfl
           have hcz47_3 : wc.cell? ⟨gb111, 3, none⟩ = some (.int .i64 a0_3) := (blk_cell BK111.out 3).trans rfl
           have hcz47_4 : wc.cell? ⟨gb111, 4, none⟩ = some (.int .i64 a0_4) := (blk_cell BK111.out 4).trans rfl
           have hcz47_5 : wc.cell? ⟨gb111, 5, none⟩ = some (.int .i64 a0_5) := (blk_cell BK111.out 5).trans rfl
           have hcz47_6 : wc.cell? ⟨gb111, 6, none⟩ = some (.bool false) := (blk_cell BK111.out 6).trans rfl
           have hcz47_7 : wc.cell? ⟨gb111, 7, none⟩ = some (.int .i64 a0_7) := (blk_cell BK111.out 7).trans rfl
           have hcz47_8 : wc.cell? ⟨gb111, 8, none⟩ = some (.int .i64 a0_8) := (blk_cell BK111.out 8).trans rfl
           have hfz47_0 := blk_frozen BK111.out 0
           have hfz47_1 := blk_frozen BK111.out 1
           have hfz47_2 := blk_frozen BK111.out 2
           have hfz47_3 := blk_frozen BK111.out 3
           have hfz47_4 := blk_frozen BK111.out 4
           have hfz47_5 := blk_frozen BK111.out 5
           have hfz47_6 := blk_frozen BK111.out 6
           have hfz47_7 := blk_frozen BK111.out 7
           have hfz47_8 := blk_frozen BK111.out 8
           go_wp2_with (first | ((with_reducible refine gate_dst (N := 54) rfl ?_); refine Kd.R_lit k23 _ 23 ?hg (N := 54) ?hd (xs := ([(⟨a0_1, a0_2, a0_3, a0_4⟩ : S23)] : List (S23))) (inner := [.int .i64 a0_1, .int .i64 a0_2, .int .i64 a0_3, .int .i64 a0_4]) (ok := fun _ => True) (okp := fun _ => True) ?hr ?hp (fun _ hk => hk) trivial (Below.refl _ _) (Nat.le_refl _) (by simp) ?_; (case hd => rfl); (case hg => rfl); (case hr => first | (go_simp; done) | (go_simp; rfl)); (case hp => exact (Reps.c4 (show Kd.M k23 _ _ _ (⟨a0_1, a0_2, a0_3, a0_4⟩ : S23) [.int .i64 a0_1, .int .i64 a0_2, .int .i64 a0_3, .int .i64 a0_4] from (k23_mkM _ _ _ (⟨a0_1, a0_2, a0_3, a0_4⟩ : S23) )) (Reps.none _ _))); intro v114 w48 ho49 hb hg_ hnew_; clear hg_ hnew_; (first | rw [← Ny113.out] at ho49 | (simp only [Int.reduceToNat] at ho49; rw [← Ny113.out] at ho49)); have n0_ := Aside0.mk (Kd.R_lower ho49 (below_size (by repeat (first | (with_reducible first | exact HB.out | apply below_alloc | apply pw_below_drewN | apply below_drew1 | refine below_set ?_ GE111.out) | exact HB.out)))); have n1_ := Aside0.mk (blk_below (g := gb111) (o := .cells #[.int .i64 a0_0, .int .i64 a0_1, .int .i64 a0_2, .int .i64 a0_3, .int .i64 a0_4, .int .i64 a0_5, .bool false, .int .i64 a0_7, .int .i64 a0_8] 45 (0, 0)) (by (with_reducible repeat (first | refine blk_drewN ?_ _ | refine blk_drew ?_ | refine blk_alloc ?_ _)); exact BK111.out) hb); have n2_ := Aside0.mk (below_step (by repeat (first | (with_reducible first | exact HB.out | apply below_alloc | apply pw_below_drewN | apply below_drew1 | refine below_set ?_ GE111.out) | exact HB.out)) hb); clear BK111; clear HB; have HO115 := n0_; have BK111 := n1_; have HB := n2_; clear n0_ n1_ n2_; clear hb ho49; obtain ⟨Ao50, co50, eo50⟩ := Kd.R_slice HO115.out; subst eo50) | ((with_reducible refine gate_callee (f := 22) rfl ?_); refine goesL_ (some 55) rfl rfl Try.func22 (by kernel_rfl) rfl #[.slice Ao50 y113.length co50] rfl (by (try simp only [List.map_toArray, List.map_cons, List.map_nil]); first | done | rfl | (simp only [List.length_drop, List.length_take]; rfl) | (simp only [*]; first | done | rfl)) ?_; (with_reducible refine (glue_May.calls kj1 _ _ y113 true _ ?side1 ?side2 A21.out).mono ?_); (case side1 => repeat (first | exact (Kd.R_reads' HO115.out).2.2 | (with_reducible refine Kd.C_alloc ?_ _) | (with_reducible refine Kd.C_drewN ?_ _) | (with_reducible refine Kd.C_drew ?_))); (case side2 => exact (Kd.R_reads' HO115.out).2.1); rintro e w51 ⟨rfl, hb⟩; refine ⟨_, rfl, ?_⟩; have n0_ := Aside0.mk (Kd.R_below (by (with_reducible repeat (first | apply Kd.R_alloc | apply Kd.R_drewN | apply Kd.R_drew)); exact HO115.out) hb); have n1_ := Aside0.mk (blk_below (g := gb111) (o := .cells #[.int .i64 a0_0, .int .i64 a0_1, .int .i64 a0_2, .int .i64 a0_3, .int .i64 a0_4, .int .i64 a0_5, .bool false, .int .i64 a0_7, .int .i64 a0_8] 45 (0, 0)) (by (with_reducible repeat (first | refine blk_drewN ?_ _ | refine blk_drew ?_ | refine blk_alloc ?_ _)); exact BK111.out) hb); have n2_ := Aside0.mk (below_step (by repeat (first | (with_reducible first | exact HB.out | apply below_alloc | apply pw_below_drewN | apply below_drew1 | refine below_set ?_ GE111.out) | exact HB.out)) hb); clear HO115; clear BK111; clear HB; have HO115 := n0_; have BK111 := n1_; have HB := n2_; clear n0_ n1_ n2_; (try clear hb); (try clear hb2); (try clear hk); (try clear hi); have hcz52_0 : w51.cell? ⟨gb111, 0, none⟩ = some (.int .i64 a0_0) := (blk_cell BK111.out 0).trans rfl; have hcz52_1 : w51.cell? ⟨gb111, 1, none⟩ = some (.int .i64 a0_1) := (blk_cell BK111.out 1).trans rfl; have hcz52_2 : w51.cell? ⟨gb111, 2, none⟩ = some (.int .i64 a0_2) := (blk_cell BK111.out 2).trans rfl; have hcz52_3 : w51.cell? ⟨gb111, 3, none⟩ = some (.int .i64 a0_3) := (blk_cell BK111.out 3).trans rfl; have hcz52_4 : w51.cell? ⟨gb111, 4, none⟩ = some (.int .i64 a0_4) := (blk_cell BK111.out 4).trans rfl; have hcz52_5 : w51.cell? ⟨gb111, 5, none⟩ = some (.int .i64 a0_5) := (blk_cell BK111.out 5).trans rfl; have hcz52_6 : w51.cell? ⟨gb111, 6, none⟩ = some (.bool false) := (blk_cell BK111.out 6).trans rfl; have hcz52_7 : w51.cell? ⟨gb111, 7, none⟩ = some (.int .i64 a0_7) := (blk_cell BK111.out 7).trans rfl; have hcz52_8 : w51.cell? ⟨gb111, 8, none⟩ = some (.int .i64 a0_8) := (blk_cell BK111.out 8).trans rfl; have hfz52_0 := blk_frozen BK111.out 0; have hfz52_1 := blk_frozen BK111.out 1; have hfz52_2 := blk_frozen BK111.out 2; have hfz52_3 := blk_frozen BK111.out 3; have hfz52_4 := blk_frozen BK111.out 4; have hfz52_5 := blk_frozen BK111.out 5; have hfz52_6 := blk_frozen BK111.out 6; have hfz52_7 := blk_frozen BK111.out 7; have hfz52_8 := blk_frozen BK111.out 8))
           go_ret
           exact ⟨by first | rfl | (simp [errW_none, errW_some] <;> rfl) | (simp [*, errW_none, errW_some] <;> rfl), by repeat (first | (with_reducible first | exact HB.out | apply below_alloc | apply pw_below_drewN | apply below_drew1 | refine below_set ?_ GE111.out) | exact HB.out)⟩
         ·rw [if_neg c32] at H
          have c32b0 : decide ((-10000) ≤ a0_5) = false := decide_eq_false c32
          clear c32
          obtain rfl := Option.some.inj H
          have hcz53_0 : wc.cell? ⟨gb111, 0, none⟩ = some (.int .i64 a0_0) := (blk_cell BK111.out 0).trans rfl
          have hcz53_1 : wc.cell? ⟨gb111, 1, none⟩ = some (.int .i64 a0_1) := (blk_cell BK111.out 1).trans rfl
          have hcz53_2 : wc.cell? ⟨gb111, 2, none⟩ = some (.int .i64 a0_2) := (blk_cell BK111.out 2).trans rfl
          have hcz53_3 : wc.cell? ⟨gb111, 3, none⟩ = some (.int .i64 a0_3) := (blk_cell BK111.out 3).trans rfl
          have hcz53_4 : wc.cell? ⟨gb111, 4, none⟩ = some (.int .i64 a0_4) := (blk_cell BK111.out 4).trans rfl
          have hcz53_5 : wc.cell? ⟨gb111, 5, none⟩ = some (.int .i64 a0_5) := (blk_cell BK111.out 5).trans rfl
          have hcz53_6 : wc.cell? ⟨gb111, 6, none⟩ = some (.bool false) := (blk_cell BK111.out 6).trans rfl
          have hcz53_7 : wc.cell? ⟨gb111, 7, none⟩ = some (.int .i64 a0_7) := (blk_cell BK111.out 7).trans rfl
          have hcz53_8 : wc.cell? ⟨gb111, 8, none⟩ = some (.int .i64 a0_8) := (blk_cell BK111.out 8).trans rfl
          have hfz53_0 := blk_frozen BK111.out 0
          have hfz53_1 := blk_frozen BK111.out 1
          have hfz53_2 := blk_frozen BK111.out 2
          have hfz53_3 := blk_frozen BK111.out 3
          have hfz53_4 := blk_frozen BK111.out 4
          have hfz53_5 := blk_frozen BK111.out 5
          have hfz53_6 := blk_frozen BK111.out 6
          have hfz53_7 := blk_frozen BK111.out 7
          have hfz53_8 := blk_frozen BK111.out 8
          go_wp2_with (first | ((with_reducible refine gate_dst (N := 54) rfl ?_); refine Kd.R_lit k23 _ 23 ?hg (N := 54) ?hd (xs := ([(⟨a0_1, a0_2, a0_3, a0_4⟩ : S23)] : List (S23))) (inner := [.int .i64 a0_1, .int .i64 a0_2, .int .i64 a0_3, .int .i64 a0_4]) (ok := fun _ => True) (okp := fun _ => True) ?hr ?hp (fun _ hk => hk) trivial (Below.refl _ _) (Nat.le_refl _) (by simp) ?_; (case hd => rfl); (case hg => rfl); (case hr => first | (go_simp; done) | (go_simp; rfl)); (case hp => exact (Reps.c4 (show Kd.M k23 _ _ _ (⟨a0_1, a0_2, a0_3, a0_4⟩ : S23) [.int .i64 a0_1, .int .i64 a0_2, .int .i64 a0_3, .int .i64 a0_4] from (k23_mkM _ _ _ (⟨a0_1, a0_2, a0_3, a0_4⟩ : S23) )) (Reps.none _ _))); intro v114 w54 ho55 hb hg_ hnew_; clear hg_ hnew_; (first | rw [← Ny113.out] at ho55 | (simp only [Int.reduceToNat] at ho55; rw [← Ny113.out] at ho55)); have n0_ := Aside0.mk (Kd.R_lower ho55 (below_size (by repeat (first | (with_reducible first | exact HB.out | apply below_alloc | apply pw_below_drewN | apply below_drew1 | refine below_set ?_ GE111.out) | exact HB.out)))); have n1_ := Aside0.mk (blk_below (g := gb111) (o := .cells #[.int .i64 a0_0, .int .i64 a0_1, .int .i64 a0_2, .int .i64 a0_3, .int .i64 a0_4, .int .i64 a0_5, .bool false, .int .i64 a0_7, .int .i64 a0_8] 45 (0, 0)) (by (with_reducible repeat (first | refine blk_drewN ?_ _ | refine blk_drew ?_ | refine blk_alloc ?_ _)); exact BK111.out) hb); have n2_ := Aside0.mk (below_step (by repeat (first | (with_reducible first | exact HB.out | apply below_alloc | apply pw_below_drewN | apply below_drew1 | refine below_set ?_ GE111.out) | exact HB.out)) hb); clear BK111; clear HB; have HO115 := n0_; have BK111 := n1_; have HB := n2_; clear n0_ n1_ n2_; clear hb ho55; obtain ⟨Ao56, co56, eo56⟩ := Kd.R_slice HO115.out; subst eo56) | ((with_reducible refine gate_callee (f := 22) rfl ?_); refine goesL_ (some 55) rfl rfl Try.func22 (by kernel_rfl) rfl #[.slice Ao56 y113.length co56] rfl (by (try simp only [List.map_toArray, List.map_cons, List.map_nil]); first | done | rfl | (simp only [List.length_drop, List.length_take]; rfl) | (simp only [*]; first | done | rfl)) ?_; (with_reducible refine (glue_May.calls kj1 _ _ y113 true _ ?side1 ?side2 A21.out).mono ?_); (case side1 => repeat (first | exact (Kd.R_reads' HO115.out).2.2 | (with_reducible refine Kd.C_alloc ?_ _) | (with_reducible refine Kd.C_drewN ?_ _) | (with_reducible refine Kd.C_drew ?_))); (case side2 => exact (Kd.R_reads' HO115.out).2.1); rintro e w57 ⟨rfl, hb⟩; refine ⟨_, rfl, ?_⟩; have n0_ := Aside0.mk (Kd.R_below (by (with_reducible repeat (first | apply Kd.R_alloc | apply Kd.R_drewN | apply Kd.R_drew)); exact HO115.out) hb); have n1_ := Aside0.mk (blk_below (g := gb111) (o := .cells #[.int .i64 a0_0, .int .i64 a0_1, .int .i64 a0_2, .int .i64 a0_3, .int .i64 a0_4, .int .i64 a0_5, .bool false, .int .i64 a0_7, .int .i64 a0_8] 45 (0, 0)) (by (with_reducible repeat (first | refine blk_drewN ?_ _ | refine blk_drew ?_ | refine blk_alloc ?_ _)); exact BK111.out) hb); have n2_ := Aside0.mk (below_step (by repeat (first | (with_reducible first | exact HB.out | apply below_alloc | apply pw_below_drewN | apply below_drew1 | refine below_set ?_ GE111.out) | exact HB.out)) hb); clear HO115; clear BK111; clear HB; have HO115 := n0_; have BK111 := n1_; have HB := n2_; clear n0_ n1_ n2_; (try clear hb); (try clear hb2); (try clear hk); (try clear hi); have hcz58_0 : w57.cell? ⟨gb111, 0, none⟩ = some (.int .i64 a0_0) := (blk_cell BK111.out 0).trans rfl; have hcz58_1 : w57.cell? ⟨gb111, 1, none⟩ = some (.int .i64 a0_1) := (blk_cell BK111.out 1).trans rfl; have hcz58_2 : w57.cell? ⟨gb111, 2, none⟩ = some (.int .i64 a0_2) := (blk_cell BK111.out 2).trans rfl; have hcz58_3 : w57.cell? ⟨gb111, 3, none⟩ = some (.int .i64 a0_3) := (blk_cell BK111.out 3).trans rfl; have hcz58_4 : w57.cell? ⟨gb111, 4, none⟩ = some (.int .i64 a0_4) := (blk_cell BK111.out 4).trans rfl; have hcz58_5 : w57.cell? ⟨gb111, 5, none⟩ = some (.int .i64 a0_5) := (blk_cell BK111.out 5).trans rfl; have hcz58_6 : w57.cell? ⟨gb111, 6, none⟩ = some (.bool false) := (blk_cell BK111.out 6).trans rfl; have hcz58_7 : w57.cell? ⟨gb111, 7, none⟩ = some (.int .i64 a0_7) := (blk_cell BK111.out 7).trans rfl; have hcz58_8 : w57.cell? ⟨gb111, 8, none⟩ = some (.int .i64 a0_8) := (blk_cell BK111.out 8).trans rfl; have hfz58_0 := blk_frozen BK111.out 0; have hfz58_1 := blk_frozen BK111.out 1; have hfz58_2 := blk_frozen BK111.out 2; have hfz58_3 := blk_frozen BK111.out 3; have hfz58_4 := blk_frozen BK111.out 4; have hfz58_5 := blk_frozen BK111.out 5; have hfz58_6 := blk_frozen BK111.out 6; have hfz58_7 := blk_frozen BK111.out 7; have hfz58_8 := blk_frozen BK111.out 8))
          go_ret
          exact ⟨by first | rfl | (simp [errW_none, errW_some] <;> rfl) | (simp [*, errW_none, errW_some] <;> rfl), by repeat (first | (with_reducible first | exact HB.out | apply below_alloc | apply pw_below_drewN | apply below_drew1 | refine below_set ?_ GE111.out) | exact HB.out)⟩
       ·rw [if_neg c24] at H
        have c24b0 : (a0_5 == 0) = false := beq_eq_false_iff_ne.mpr c24
        have c24b1 : (a0_5 != 0) = true := bne_iff_ne.mpr c24
        obtain rfl := Option.some.inj H
        have hcz59_0 : wc.cell? ⟨gb111, 0, none⟩ = some (.int .i64 a0_0) := (blk_cell BK111.out 0).trans rfl
        have hcz59_1 : wc.cell? ⟨gb111, 1, none⟩ = some (.int .i64 a0_1) := (blk_cell BK111.out 1).trans rfl
        have hcz59_2 : wc.cell? ⟨gb111, 2, none⟩ = some (.int .i64 a0_2) := (blk_cell BK111.out 2).trans rfl
        have hcz59_3 : wc.cell? ⟨gb111, 3, none⟩ = some (.int .i64 a0_3) := (blk_cell BK111.out 3).trans rfl
        have hcz59_4 : wc.cell? ⟨gb111, 4, none⟩ = some (.int .i64 a0_4) := (blk_cell BK111.out 4).trans rfl
        have hcz59_5 : wc.cell? ⟨gb111, 5, none⟩ = some (.int .i64 a0_5) := (blk_cell BK111.out 5).trans rfl
        have hcz59_6 : wc.cell? ⟨gb111, 6, none⟩ = some (.bool a0_6) := (blk_cell BK111.out 6).trans rfl
        have hcz59_7 : wc.cell? ⟨gb111, 7, none⟩ = some (.int .i64 a0_7) := (blk_cell BK111.out 7).trans rfl
        have hcz59_8 : wc.cell? ⟨gb111, 8, none⟩ = some (.int .i64 a0_8) := (blk_cell BK111.out 8).trans rfl
        have hfz59_0 := blk_frozen BK111.out 0
        have hfz59_1 := blk_frozen BK111.out 1
        have hfz59_2 := blk_frozen BK111.out 2
        have hfz59_3 := blk_frozen BK111.out 3
        have hfz59_4 := blk_frozen BK111.out 4
        have hfz59_5 := blk_frozen BK111.out 5
        have hfz59_6 := blk_frozen BK111.out 6
        have hfz59_7 := blk_frozen BK111.out 7
        have hfz59_8 := blk_frozen BK111.out 8
        go_wp2_with (first | ((with_reducible refine gate_dst (N := 54) rfl ?_); refine Kd.R_lit k23 _ 23 ?hg (N := 54) ?hd (xs := ([(⟨a0_1, a0_2, a0_3, a0_4⟩ : S23)] : List (S23))) (inner := [.int .i64 a0_1, .int .i64 a0_2, .int .i64 a0_3, .int .i64 a0_4]) (ok := fun _ => True) (okp := fun _ => True) ?hr ?hp (fun _ hk => hk) trivial (Below.refl _ _) (Nat.le_refl _) (by simp) ?_; (case hd => rfl); (case hg => rfl); (case hr => first | (go_simp; done) | (go_simp; rfl)); (case hp => exact (Reps.c4 (show Kd.M k23 _ _ _ (⟨a0_1, a0_2, a0_3, a0_4⟩ : S23) [.int .i64 a0_1, .int .i64 a0_2, .int .i64 a0_3, .int .i64 a0_4] from (k23_mkM _ _ _ (⟨a0_1, a0_2, a0_3, a0_4⟩ : S23) )) (Reps.none _ _))); intro v114 w60 ho61 hb hg_ hnew_; clear hg_ hnew_; (first | rw [← Ny113.out] at ho61 | (simp only [Int.reduceToNat] at ho61; rw [← Ny113.out] at ho61)); have n0_ := Aside0.mk (Kd.R_lower ho61 (below_size (by repeat (first | (with_reducible first | exact HB.out | apply below_alloc | apply pw_below_drewN | apply below_drew1 | refine below_set ?_ GE111.out) | exact HB.out)))); have n1_ := Aside0.mk (blk_below (g := gb111) (o := .cells #[.int .i64 a0_0, .int .i64 a0_1, .int .i64 a0_2, .int .i64 a0_3, .int .i64 a0_4, .int .i64 a0_5, .bool a0_6, .int .i64 a0_7, .int .i64 a0_8] 45 (0, 0)) (by (with_reducible repeat (first | refine blk_drewN ?_ _ | refine blk_drew ?_ | refine blk_alloc ?_ _)); exact BK111.out) hb); have n2_ := Aside0.mk (below_step (by repeat (first | (with_reducible first | exact HB.out | apply below_alloc | apply pw_below_drewN | apply below_drew1 | refine below_set ?_ GE111.out) | exact HB.out)) hb); clear BK111; clear HB; have HO115 := n0_; have BK111 := n1_; have HB := n2_; clear n0_ n1_ n2_; clear hb ho61; obtain ⟨Ao62, co62, eo62⟩ := Kd.R_slice HO115.out; subst eo62) | ((with_reducible refine gate_callee (f := 22) rfl ?_); refine goesL_ (some 55) rfl rfl Try.func22 (by kernel_rfl) rfl #[.slice Ao62 y113.length co62] rfl (by (try simp only [List.map_toArray, List.map_cons, List.map_nil]); first | done | rfl | (simp only [List.length_drop, List.length_take]; rfl) | (simp only [*]; first | done | rfl)) ?_; (with_reducible refine (glue_May.calls kj1 _ _ y113 true _ ?side1 ?side2 A21.out).mono ?_); (case side1 => repeat (first | exact (Kd.R_reads' HO115.out).2.2 | (with_reducible refine Kd.C_alloc ?_ _) | (with_reducible refine Kd.C_drewN ?_ _) | (with_reducible refine Kd.C_drew ?_))); (case side2 => exact (Kd.R_reads' HO115.out).2.1); rintro e w63 ⟨rfl, hb⟩; refine ⟨_, rfl, ?_⟩; have n0_ := Aside0.mk (Kd.R_below (by (with_reducible repeat (first | apply Kd.R_alloc | apply Kd.R_drewN | apply Kd.R_drew)); exact HO115.out) hb); have n1_ := Aside0.mk (blk_below (g := gb111) (o := .cells #[.int .i64 a0_0, .int .i64 a0_1, .int .i64 a0_2, .int .i64 a0_3, .int .i64 a0_4, .int .i64 a0_5, .bool a0_6, .int .i64 a0_7, .int .i64 a0_8] 45 (0, 0)) (by (with_reducible repeat (first | refine blk_drewN ?_ _ | refine blk_drew ?_ | refine blk_alloc ?_ _)); exact BK111.out) hb); have n2_ := Aside0.mk (below_step (by repeat (first | (with_reducible first | exact HB.out | apply below_alloc | apply pw_below_drewN | apply below_drew1 | refine below_set ?_ GE111.out) | exact HB.out)) hb); clear HO115; clear BK111; clear HB; have HO115 := n0_; have BK111 := n1_; have HB := n2_; clear n0_ n1_ n2_; (try clear hb); (try clear hb2); (try clear hk); (try clear hi); have hcz64_0 : w63.cell? ⟨gb111, 0, none⟩ = some (.int .i64 a0_0) := (blk_cell BK111.out 0).trans rfl; have hcz64_1 : w63.cell? ⟨gb111, 1, none⟩ = some (.int .i64 a0_1) := (blk_cell BK111.out 1).trans rfl; have hcz64_2 : w63.cell? ⟨gb111, 2, none⟩ = some (.int .i64 a0_2) := (blk_cell BK111.out 2).trans rfl; have hcz64_3 : w63.cell? ⟨gb111, 3, none⟩ = some (.int .i64 a0_3) := (blk_cell BK111.out 3).trans rfl; have hcz64_4 : w63.cell? ⟨gb111, 4, none⟩ = some (.int .i64 a0_4) := (blk_cell BK111.out 4).trans rfl; have hcz64_5 : w63.cell? ⟨gb111, 5, none⟩ = some (.int .i64 a0_5) := (blk_cell BK111.out 5).trans rfl; have hcz64_6 : w63.cell? ⟨gb111, 6, none⟩ = some (.bool a0_6) := (blk_cell BK111.out 6).trans rfl; have hcz64_7 : w63.cell? ⟨gb111, 7, none⟩ = some (.int .i64 a0_7) := (blk_cell BK111.out 7).trans rfl; have hcz64_8 : w63.cell? ⟨gb111, 8, none⟩ = some (.int .i64 a0_8) := (blk_cell BK111.out 8).trans rfl; have hfz64_0 := blk_frozen BK111.out 0; have hfz64_1 := blk_frozen BK111.out 1; have hfz64_2 := blk_frozen BK111.out 2; have hfz64_3 := blk_frozen BK111.out 3; have hfz64_4 := blk_frozen BK111.out 4; have hfz64_5 := blk_frozen BK111.out 5; have hfz64_6 := blk_frozen BK111.out 6; have hfz64_7 := blk_frozen BK111.out 7; have hfz64_8 := blk_frozen BK111.out 8))
        go_ret
        exact ⟨by first | rfl | (simp [errW_none, errW_some] <;> rfl) | (simp [*, errW_none, errW_some] <;> rfl), by repeat (first | (with_reducible first | exact HB.out | apply below_alloc | apply pw_below_drewN | apply below_drew1 | refine below_set ?_ GE111.out) | exact HB.out)⟩
      ·rw [if_neg c23] at H
       have c23b0 : decide (a0_3 ≤ a0_1) = false := decide_eq_false c23
       clear c23
       obtain rfl := Option.some.inj H
       have hcz65_0 : wc.cell? ⟨gb111, 0, none⟩ = some (.int .i64 a0_0) := (blk_cell BK111.out 0).trans rfl
       have hcz65_1 : wc.cell? ⟨gb111, 1, none⟩ = some (.int .i64 a0_1) := (blk_cell BK111.out 1).trans rfl
       have hcz65_2 : wc.cell? ⟨gb111, 2, none⟩ = some (.int .i64 a0_2) := (blk_cell BK111.out 2).trans rfl
       have hcz65_3 : wc.cell? ⟨gb111, 3, none⟩ = some (.int .i64 a0_3) := (blk_cell BK111.out 3).trans rfl
       have hcz65_4 : wc.cell? ⟨gb111, 4, none⟩ = some (.int .i64 a0_4) := (blk_cell BK111.out 4).trans rfl
       have hcz65_5 : wc.cell? ⟨gb111, 5, none⟩ = some (.int .i64 a0_5) := (blk_cell BK111.out 5).trans rfl
       have hcz65_6 : wc.cell? ⟨gb111, 6, none⟩ = some (.bool a0_6) := (blk_cell BK111.out 6).trans rfl
       have hcz65_7 : wc.cell? ⟨gb111, 7, none⟩ = some (.int .i64 a0_7) := (blk_cell BK111.out 7).trans rfl
       have hcz65_8 : wc.cell? ⟨gb111, 8, none⟩ = some (.int .i64 a0_8) := (blk_cell BK111.out 8).trans rfl
       have hfz65_0 := blk_frozen BK111.out 0
       have hfz65_1 := blk_frozen BK111.out 1
       have hfz65_2 := blk_frozen BK111.out 2
       have hfz65_3 := blk_frozen BK111.out 3
       have hfz65_4 := blk_frozen BK111.out 4
       have hfz65_5 := blk_frozen BK111.out 5
       have hfz65_6 := blk_frozen BK111.out 6
       have hfz65_7 := blk_frozen BK111.out 7
       have hfz65_8 := blk_frozen BK111.out 8
       go_wp2_with (first | ((with_reducible refine gate_dst (N := 54) rfl ?_); refine Kd.R_lit k23 _ 23 ?hg (N := 54) ?hd (xs := ([(⟨a0_1, a0_2, a0_3, a0_4⟩ : S23)] : List (S23))) (inner := [.int .i64 a0_1, .int .i64 a0_2, .int .i64 a0_3, .int .i64 a0_4]) (ok := fun _ => True) (okp := fun _ => True) ?hr ?hp (fun _ hk => hk) trivial (Below.refl _ _) (Nat.le_refl _) (by simp) ?_; (case hd => rfl); (case hg => rfl); (case hr => first | (go_simp; done) | (go_simp; rfl)); (case hp => exact (Reps.c4 (show Kd.M k23 _ _ _ (⟨a0_1, a0_2, a0_3, a0_4⟩ : S23) [.int .i64 a0_1, .int .i64 a0_2, .int .i64 a0_3, .int .i64 a0_4] from (k23_mkM _ _ _ (⟨a0_1, a0_2, a0_3, a0_4⟩ : S23) )) (Reps.none _ _))); intro v114 w66 ho67 hb hg_ hnew_; clear hg_ hnew_; (first | rw [← Ny113.out] at ho67 | (simp only [Int.reduceToNat] at ho67; rw [← Ny113.out] at ho67)); have n0_ := Aside0.mk (Kd.R_lower ho67 (below_size (by repeat (first | (with_reducible first | exact HB.out | apply below_alloc | apply pw_below_drewN | apply below_drew1 | refine below_set ?_ GE111.out) | exact HB.out)))); have n1_ := Aside0.mk (blk_below (g := gb111) (o := .cells #[.int .i64 a0_0, .int .i64 a0_1, .int .i64 a0_2, .int .i64 a0_3, .int .i64 a0_4, .int .i64 a0_5, .bool a0_6, .int .i64 a0_7, .int .i64 a0_8] 45 (0, 0)) (by (with_reducible repeat (first | refine blk_drewN ?_ _ | refine blk_drew ?_ | refine blk_alloc ?_ _)); exact BK111.out) hb); have n2_ := Aside0.mk (below_step (by repeat (first | (with_reducible first | exact HB.out | apply below_alloc | apply pw_below_drewN | apply below_drew1 | refine below_set ?_ GE111.out) | exact HB.out)) hb); clear BK111; clear HB; have HO115 := n0_; have BK111 := n1_; have HB := n2_; clear n0_ n1_ n2_; clear hb ho67; obtain ⟨Ao68, co68, eo68⟩ := Kd.R_slice HO115.out; subst eo68) | ((with_reducible refine gate_callee (f := 22) rfl ?_); refine goesL_ (some 55) rfl rfl Try.func22 (by kernel_rfl) rfl #[.slice Ao68 y113.length co68] rfl (by (try simp only [List.map_toArray, List.map_cons, List.map_nil]); first | done | rfl | (simp only [List.length_drop, List.length_take]; rfl) | (simp only [*]; first | done | rfl)) ?_; (with_reducible refine (glue_May.calls kj1 _ _ y113 true _ ?side1 ?side2 A21.out).mono ?_); (case side1 => repeat (first | exact (Kd.R_reads' HO115.out).2.2 | (with_reducible refine Kd.C_alloc ?_ _) | (with_reducible refine Kd.C_drewN ?_ _) | (with_reducible refine Kd.C_drew ?_))); (case side2 => exact (Kd.R_reads' HO115.out).2.1); rintro e w69 ⟨rfl, hb⟩; refine ⟨_, rfl, ?_⟩; have n0_ := Aside0.mk (Kd.R_below (by (with_reducible repeat (first | apply Kd.R_alloc | apply Kd.R_drewN | apply Kd.R_drew)); exact HO115.out) hb); have n1_ := Aside0.mk (blk_below (g := gb111) (o := .cells #[.int .i64 a0_0, .int .i64 a0_1, .int .i64 a0_2, .int .i64 a0_3, .int .i64 a0_4, .int .i64 a0_5, .bool a0_6, .int .i64 a0_7, .int .i64 a0_8] 45 (0, 0)) (by (with_reducible repeat (first | refine blk_drewN ?_ _ | refine blk_drew ?_ | refine blk_alloc ?_ _)); exact BK111.out) hb); have n2_ := Aside0.mk (below_step (by repeat (first | (with_reducible first | exact HB.out | apply below_alloc | apply pw_below_drewN | apply below_drew1 | refine below_set ?_ GE111.out) | exact HB.out)) hb); clear HO115; clear BK111; clear HB; have HO115 := n0_; have BK111 := n1_; have HB := n2_; clear n0_ n1_ n2_; (try clear hb); (try clear hb2); (try clear hk); (try clear hi); have hcz70_0 : w69.cell? ⟨gb111, 0, none⟩ = some (.int .i64 a0_0) := (blk_cell BK111.out 0).trans rfl; have hcz70_1 : w69.cell? ⟨gb111, 1, none⟩ = some (.int .i64 a0_1) := (blk_cell BK111.out 1).trans rfl; have hcz70_2 : w69.cell? ⟨gb111, 2, none⟩ = some (.int .i64 a0_2) := (blk_cell BK111.out 2).trans rfl; have hcz70_3 : w69.cell? ⟨gb111, 3, none⟩ = some (.int .i64 a0_3) := (blk_cell BK111.out 3).trans rfl; have hcz70_4 : w69.cell? ⟨gb111, 4, none⟩ = some (.int .i64 a0_4) := (blk_cell BK111.out 4).trans rfl; have hcz70_5 : w69.cell? ⟨gb111, 5, none⟩ = some (.int .i64 a0_5) := (blk_cell BK111.out 5).trans rfl; have hcz70_6 : w69.cell? ⟨gb111, 6, none⟩ = some (.bool a0_6) := (blk_cell BK111.out 6).trans rfl; have hcz70_7 : w69.cell? ⟨gb111, 7, none⟩ = some (.int .i64 a0_7) := (blk_cell BK111.out 7).trans rfl; have hcz70_8 : w69.cell? ⟨gb111, 8, none⟩ = some (.int .i64 a0_8) := (blk_cell BK111.out 8).trans rfl; have hfz70_0 := blk_frozen BK111.out 0; have hfz70_1 := blk_frozen BK111.out 1; have hfz70_2 := blk_frozen BK111.out 2; have hfz70_3 := blk_frozen BK111.out 3; have hfz70_4 := blk_frozen BK111.out 4; have hfz70_5 := blk_frozen BK111.out 5; have hfz70_6 := blk_frozen BK111.out 6; have hfz70_7 := blk_frozen BK111.out 7; have hfz70_8 := blk_frozen BK111.out 8))
       go_ret
       exact ⟨by first | rfl | (simp [errW_none, errW_some] <;> rfl) | (simp [*, errW_none, errW_some] <;> rfl), by repeat (first | (with_reducible first | exact HB.out | apply below_alloc | apply pw_below_drewN | apply below_drew1 | refine below_set ?_ GE111.out) | exact HB.out)⟩
     ·replace c22 := Bool.eq_false_iff.mpr c22
      subst c22
      have H1 : (some false) = some r := by rw [if_neg (show ¬ (false = true) by decide)] at H; exact H
      clear H
      have H := H1
      clear H1
      obtain rfl := Option.some.inj H
      have hcz71_0 : wc.cell? ⟨gb111, 0, none⟩ = some (.int .i64 a0_0) := (blk_cell BK111.out 0).trans rfl
      have hcz71_1 : wc.cell? ⟨gb111, 1, none⟩ = some (.int .i64 a0_1) := (blk_cell BK111.out 1).trans rfl
      have hcz71_2 : wc.cell? ⟨gb111, 2, none⟩ = some (.int .i64 a0_2) := (blk_cell BK111.out 2).trans rfl
      have hcz71_3 : wc.cell? ⟨gb111, 3, none⟩ = some (.int .i64 a0_3) := (blk_cell BK111.out 3).trans rfl
      have hcz71_4 : wc.cell? ⟨gb111, 4, none⟩ = some (.int .i64 a0_4) := (blk_cell BK111.out 4).trans rfl
      have hcz71_5 : wc.cell? ⟨gb111, 5, none⟩ = some (.int .i64 a0_5) := (blk_cell BK111.out 5).trans rfl
      have hcz71_6 : wc.cell? ⟨gb111, 6, none⟩ = some (.bool a0_6) := (blk_cell BK111.out 6).trans rfl
      have hcz71_7 : wc.cell? ⟨gb111, 7, none⟩ = some (.int .i64 a0_7) := (blk_cell BK111.out 7).trans rfl
      have hcz71_8 : wc.cell? ⟨gb111, 8, none⟩ = some (.int .i64 a0_8) := (blk_cell BK111.out 8).trans rfl
      have hfz71_0 := blk_frozen BK111.out 0
      have hfz71_1 := blk_frozen BK111.out 1
      have hfz71_2 := blk_frozen BK111.out 2
      have hfz71_3 := blk_frozen BK111.out 3
      have hfz71_4 := blk_frozen BK111.out 4
      have hfz71_5 := blk_frozen BK111.out 5
      have hfz71_6 := blk_frozen BK111.out 6
      have hfz71_7 := blk_frozen BK111.out 7
      have hfz71_8 := blk_frozen BK111.out 8
      go_wp2_with (first | ((with_reducible refine gate_dst (N := 54) rfl ?_); refine Kd.R_lit k23 _ 23 ?hg (N := 54) ?hd (xs := ([(⟨a0_1, a0_2, a0_3, a0_4⟩ : S23)] : List (S23))) (inner := [.int .i64 a0_1, .int .i64 a0_2, .int .i64 a0_3, .int .i64 a0_4]) (ok := fun _ => True) (okp := fun _ => True) ?hr ?hp (fun _ hk => hk) trivial (Below.refl _ _) (Nat.le_refl _) (by simp) ?_; (case hd => rfl); (case hg => rfl); (case hr => first | (go_simp; done) | (go_simp; rfl)); (case hp => exact (Reps.c4 (show Kd.M k23 _ _ _ (⟨a0_1, a0_2, a0_3, a0_4⟩ : S23) [.int .i64 a0_1, .int .i64 a0_2, .int .i64 a0_3, .int .i64 a0_4] from (k23_mkM _ _ _ (⟨a0_1, a0_2, a0_3, a0_4⟩ : S23) )) (Reps.none _ _))); intro v114 w72 ho73 hb hg_ hnew_; clear hg_ hnew_; (first | rw [← Ny113.out] at ho73 | (simp only [Int.reduceToNat] at ho73; rw [← Ny113.out] at ho73)); have n0_ := Aside0.mk (Kd.R_lower ho73 (below_size (by repeat (first | (with_reducible first | exact HB.out | apply below_alloc | apply pw_below_drewN | apply below_drew1 | refine below_set ?_ GE111.out) | exact HB.out)))); have n1_ := Aside0.mk (blk_below (g := gb111) (o := .cells #[.int .i64 a0_0, .int .i64 a0_1, .int .i64 a0_2, .int .i64 a0_3, .int .i64 a0_4, .int .i64 a0_5, .bool a0_6, .int .i64 a0_7, .int .i64 a0_8] 45 (0, 0)) (by (with_reducible repeat (first | refine blk_drewN ?_ _ | refine blk_drew ?_ | refine blk_alloc ?_ _)); exact BK111.out) hb); have n2_ := Aside0.mk (below_step (by repeat (first | (with_reducible first | exact HB.out | apply below_alloc | apply pw_below_drewN | apply below_drew1 | refine below_set ?_ GE111.out) | exact HB.out)) hb); clear BK111; clear HB; have HO115 := n0_; have BK111 := n1_; have HB := n2_; clear n0_ n1_ n2_; clear hb ho73; obtain ⟨Ao74, co74, eo74⟩ := Kd.R_slice HO115.out; subst eo74) | ((with_reducible refine gate_callee (f := 22) rfl ?_); refine goesL_ (some 55) rfl rfl Try.func22 (by kernel_rfl) rfl #[.slice Ao74 y113.length co74] rfl (by (try simp only [List.map_toArray, List.map_cons, List.map_nil]); first | done | rfl | (simp only [List.length_drop, List.length_take]; rfl) | (simp only [*]; first | done | rfl)) ?_; (with_reducible refine (glue_May.calls kj1 _ _ y113 false _ ?side1 ?side2 A21.out).mono ?_); (case side1 => repeat (first | exact (Kd.R_reads' HO115.out).2.2 | (with_reducible refine Kd.C_alloc ?_ _) | (with_reducible refine Kd.C_drewN ?_ _) | (with_reducible refine Kd.C_drew ?_))); (case side2 => exact (Kd.R_reads' HO115.out).2.1); rintro e w75 ⟨rfl, hb⟩; refine ⟨_, rfl, ?_⟩; have n0_ := Aside0.mk (Kd.R_below (by (with_reducible repeat (first | apply Kd.R_alloc | apply Kd.R_drewN | apply Kd.R_drew)); exact HO115.out) hb); have n1_ := Aside0.mk (blk_below (g := gb111) (o := .cells #[.int .i64 a0_0, .int .i64 a0_1, .int .i64 a0_2, .int .i64 a0_3, .int .i64 a0_4, .int .i64 a0_5, .bool a0_6, .int .i64 a0_7, .int .i64 a0_8] 45 (0, 0)) (by (with_reducible repeat (first | refine blk_drewN ?_ _ | refine blk_drew ?_ | refine blk_alloc ?_ _)); exact BK111.out) hb); have n2_ := Aside0.mk (below_step (by repeat (first | (with_reducible first | exact HB.out | apply below_alloc | apply pw_below_drewN | apply below_drew1 | refine below_set ?_ GE111.out) | exact HB.out)) hb); clear HO115; clear BK111; clear HB; have HO115 := n0_; have BK111 := n1_; have HB := n2_; clear n0_ n1_ n2_; (try clear hb); (try clear hb2); (try clear hk); (try clear hi)))
      go_ret
      exact ⟨by first | rfl | (simp [errW_none, errW_some] <;> rfl) | (simp [*, errW_none, errW_some] <;> rfl), by repeat (first | (with_reducible first | exact HB.out | apply below_alloc | apply pw_below_drewN | apply below_drew1 | refine below_set ?_ GE111.out) | exact HB.out)⟩
    ·rw [if_neg c20] at H
     have c20b0 : (a0_0 == 1) = false := beq_eq_false_iff_ne.mpr c20
     have c20b1 : (a0_0 != 1) = true := bne_iff_ne.mpr c20
     by_cases c76 : a0_0 = 2
     ·rw [if_pos c76] at H
      have c76b0 : (a0_0 == 2) = true := beq_iff_eq.mpr c76
      have c76b1 : (a0_0 != 2) = false := bne_eq_false_iff_eq.mpr c76
      clear c76
      by_cases c77 : x3_1 = true
      ·subst c77
       have H1 : (if a0_5 ≥ (-10000) then (if a0_5 ≤ 10000 then (if a0_7 = 0 then (some (a0_8 == 0)) else (some false)) else (some false)) else (some false)) = some r := by rw [if_pos rfl] at H; exact H
       clear H
       have H := H1
       clear H1
       by_cases c78 : a0_5 ≥ (-10000)
       ·rw [if_pos c78] at H
        have c78b0 : decide ((-10000) ≤ a0_5) = true := decide_eq_true c78
        clear c78
        by_cases c79 : a0_5 ≤ 10000
        ·rw [if_pos c79] at H
         have c79b0 : decide (a0_5 ≤ 10000) = true := decide_eq_true c79
         clear c79
         by_cases c80 : a0_7 = 0
         ·rw [if_pos c80] at H
          have c80b0 : (a0_7 == 0) = true := beq_iff_eq.mpr c80
          have c80b1 : (a0_7 != 0) = false := bne_eq_false_iff_eq.mpr c80
          clear c80
          obtain rfl := Option.some.inj H
          have hcz81_0 : wc.cell? ⟨gb111, 0, none⟩ = some (.int .i64 a0_0) := (blk_cell BK111.out 0).trans rfl
          have hcz81_1 : wc.cell? ⟨gb111, 1, none⟩ = some (.int .i64 a0_1) := (blk_cell BK111.out 1).trans rfl
          have hcz81_2 : wc.cell? ⟨gb111, 2, none⟩ = some (.int .i64 a0_2) := (blk_cell BK111.out 2).trans rfl
          have hcz81_3 : wc.cell? ⟨gb111, 3, none⟩ = some (.int .i64 a0_3) := (blk_cell BK111.out 3).trans rfl
          have hcz81_4 : wc.cell? ⟨gb111, 4, none⟩ = some (.int .i64 a0_4) := (blk_cell BK111.out 4).trans rfl
          have hcz81_5 : wc.cell? ⟨gb111, 5, none⟩ = some (.int .i64 a0_5) := (blk_cell BK111.out 5).trans rfl
          have hcz81_6 : wc.cell? ⟨gb111, 6, none⟩ = some (.bool a0_6) := (blk_cell BK111.out 6).trans rfl
          have hcz81_7 : wc.cell? ⟨gb111, 7, none⟩ = some (.int .i64 a0_7) := (blk_cell BK111.out 7).trans rfl
          have hcz81_8 : wc.cell? ⟨gb111, 8, none⟩ = some (.int .i64 a0_8) := (blk_cell BK111.out 8).trans rfl
          have hfz81_0 := blk_frozen BK111.out 0
          have hfz81_1 := blk_frozen BK111.out 1
          have hfz81_2 := blk_frozen BK111.out 2
          have hfz81_3 := blk_frozen BK111.out 3
          have hfz81_4 := blk_frozen BK111.out 4
          have hfz81_5 := blk_frozen BK111.out 5
          have hfz81_6 := blk_frozen BK111.out 6
          have hfz81_7 := blk_frozen BK111.out 7
          have hfz81_8 := blk_frozen BK111.out 8
          go_wp2
          go_ret
          exact ⟨by first | rfl | (simp [errW_none, errW_some] <;> rfl) | (simp [*, errW_none, errW_some] <;> rfl), by repeat (first | (with_reducible first | exact HB.out | apply below_alloc | apply pw_below_drewN | apply below_drew1 | refine below_set ?_ GE111.out) | exact HB.out)⟩
         ·rw [if_neg c80] at H
          have c80b0 : (a0_7 == 0) = false := beq_eq_false_iff_ne.mpr c80
          have c80b1 : (a0_7 != 0) = true := bne_iff_ne.mpr c80
          obtain rfl := Option.some.inj H
          have hcz82_0 : wc.cell? ⟨gb111, 0, none⟩ = some (.int .i64 a0_0) := (blk_cell BK111.out 0).trans rfl
          have hcz82_1 : wc.cell? ⟨gb111, 1, none⟩ = some (.int .i64 a0_1) := (blk_cell BK111.out 1).trans rfl
          have hcz82_2 : wc.cell? ⟨gb111, 2, none⟩ = some (.int .i64 a0_2) := (blk_cell BK111.out 2).trans rfl
          have hcz82_3 : wc.cell? ⟨gb111, 3, none⟩ = some (.int .i64 a0_3) := (blk_cell BK111.out 3).trans rfl
          have hcz82_4 : wc.cell? ⟨gb111, 4, none⟩ = some (.int .i64 a0_4) := (blk_cell BK111.out 4).trans rfl
          have hcz82_5 : wc.cell? ⟨gb111, 5, none⟩ = some (.int .i64 a0_5) := (blk_cell BK111.out 5).trans rfl
          have hcz82_6 : wc.cell? ⟨gb111, 6, none⟩ = some (.bool a0_6) := (blk_cell BK111.out 6).trans rfl
          have hcz82_7 : wc.cell? ⟨gb111, 7, none⟩ = some (.int .i64 a0_7) := (blk_cell BK111.out 7).trans rfl
          have hcz82_8 : wc.cell? ⟨gb111, 8, none⟩ = some (.int .i64 a0_8) := (blk_cell BK111.out 8).trans rfl
          have hfz82_0 := blk_frozen BK111.out 0
          have hfz82_1 := blk_frozen BK111.out 1
          have hfz82_2 := blk_frozen BK111.out 2
          have hfz82_3 := blk_frozen BK111.out 3
          have hfz82_4 := blk_frozen BK111.out 4
          have hfz82_5 := blk_frozen BK111.out 5
          have hfz82_6 := blk_frozen BK111.out 6
          have hfz82_7 := blk_frozen BK111.out 7
          have hfz82_8 := blk_frozen BK111.out 8
          go_wp2
          go_ret
          exact ⟨by first | rfl | (simp [errW_none, errW_some] <;> rfl) | (simp [*, errW_none, errW_some] <;> rfl), by repeat (first | (with_reducible first | exact HB.out | apply below_alloc | apply pw_below_drewN | apply below_drew1 | refine below_set ?_ GE111.out) | exact HB.out)⟩
        ·rw [if_neg c79] at H
         have c79b0 : decide (a0_5 ≤ 10000) = false := decide_eq_false c79
         clear c79
         obtain rfl := Option.some.inj H
         have hcz83_0 : wc.cell? ⟨gb111, 0, none⟩ = some (.int .i64 a0_0) := (blk_cell BK111.out 0).trans rfl
         have hcz83_1 : wc.cell? ⟨gb111, 1, none⟩ = some (.int .i64 a0_1) := (blk_cell BK111.out 1).trans rfl
         have hcz83_2 : wc.cell? ⟨gb111, 2, none⟩ = some (.int .i64 a0_2) := (blk_cell BK111.out 2).trans rfl
         have hcz83_3 : wc.cell? ⟨gb111, 3, none⟩ = some (.int .i64 a0_3) := (blk_cell BK111.out 3).trans rfl
         have hcz83_4 : wc.cell? ⟨gb111, 4, none⟩ = some (.int .i64 a0_4) := (blk_cell BK111.out 4).trans rfl
         have hcz83_5 : wc.cell? ⟨gb111, 5, none⟩ = some (.int .i64 a0_5) := (blk_cell BK111.out 5).trans rfl
         have hcz83_6 : wc.cell? ⟨gb111, 6, none⟩ = some (.bool a0_6) := (blk_cell BK111.out 6).trans rfl
         have hcz83_7 : wc.cell? ⟨gb111, 7, none⟩ = some (.int .i64 a0_7) := (blk_cell BK111.out 7).trans rfl
         have hcz83_8 : wc.cell? ⟨gb111, 8, none⟩ = some (.int .i64 a0_8) := (blk_cell BK111.out 8).trans rfl
         have hfz83_0 := blk_frozen BK111.out 0
         have hfz83_1 := blk_frozen BK111.out 1
         have hfz83_2 := blk_frozen BK111.out 2
         have hfz83_3 := blk_frozen BK111.out 3
         have hfz83_4 := blk_frozen BK111.out 4
         have hfz83_5 := blk_frozen BK111.out 5
         have hfz83_6 := blk_frozen BK111.out 6
         have hfz83_7 := blk_frozen BK111.out 7
         have hfz83_8 := blk_frozen BK111.out 8
         go_wp2
         go_ret
         exact ⟨by first | rfl | (simp [errW_none, errW_some] <;> rfl) | (simp [*, errW_none, errW_some] <;> rfl), by repeat (first | (with_reducible first | exact HB.out | apply below_alloc | apply pw_below_drewN | apply below_drew1 | refine below_set ?_ GE111.out) | exact HB.out)⟩
       ·rw [if_neg c78] at H
        have c78b0 : decide ((-10000) ≤ a0_5) = false := decide_eq_false c78
        clear c78
        obtain rfl := Option.some.inj H
        have hcz84_0 : wc.cell? ⟨gb111, 0, none⟩ = some (.int .i64 a0_0) := (blk_cell BK111.out 0).trans rfl
        have hcz84_1 : wc.cell? ⟨gb111, 1, none⟩ = some (.int .i64 a0_1) := (blk_cell BK111.out 1).trans rfl
        have hcz84_2 : wc.cell? ⟨gb111, 2, none⟩ = some (.int .i64 a0_2) := (blk_cell BK111.out 2).trans rfl
        have hcz84_3 : wc.cell? ⟨gb111, 3, none⟩ = some (.int .i64 a0_3) := (blk_cell BK111.out 3).trans rfl
        have hcz84_4 : wc.cell? ⟨gb111, 4, none⟩ = some (.int .i64 a0_4) := (blk_cell BK111.out 4).trans rfl
        have hcz84_5 : wc.cell? ⟨gb111, 5, none⟩ = some (.int .i64 a0_5) := (blk_cell BK111.out 5).trans rfl
        have hcz84_6 : wc.cell? ⟨gb111, 6, none⟩ = some (.bool a0_6) := (blk_cell BK111.out 6).trans rfl
        have hcz84_7 : wc.cell? ⟨gb111, 7, none⟩ = some (.int .i64 a0_7) := (blk_cell BK111.out 7).trans rfl
        have hcz84_8 : wc.cell? ⟨gb111, 8, none⟩ = some (.int .i64 a0_8) := (blk_cell BK111.out 8).trans rfl
        have hfz84_0 := blk_frozen BK111.out 0
        have hfz84_1 := blk_frozen BK111.out 1
        have hfz84_2 := blk_frozen BK111.out 2
        have hfz84_3 := blk_frozen BK111.out 3
        have hfz84_4 := blk_frozen BK111.out 4
        have hfz84_5 := blk_frozen BK111.out 5
        have hfz84_6 := blk_frozen BK111.out 6
        have hfz84_7 := blk_frozen BK111.out 7
        have hfz84_8 := blk_frozen BK111.out 8
        go_wp2
        go_ret
        exact ⟨by first | rfl | (simp [errW_none, errW_some] <;> rfl) | (simp [*, errW_none, errW_some] <;> rfl), by repeat (first | (with_reducible first | exact HB.out | apply below_alloc | apply pw_below_drewN | apply below_drew1 | refine below_set ?_ GE111.out) | exact HB.out)⟩
      ·replace c77 := Bool.eq_false_iff.mpr c77
       subst c77
       have H1 : (some false) = some r := by rw [if_neg (show ¬ (false = true) by decide)] at H; exact H
       clear H
       have H := H1
       clear H1
       obtain rfl := Option.some.inj H
       have hcz85_0 : wc.cell? ⟨gb111, 0, none⟩ = some (.int .i64 a0_0) := (blk_cell BK111.out 0).trans rfl
       have hcz85_1 : wc.cell? ⟨gb111, 1, none⟩ = some (.int .i64 a0_1) := (blk_cell BK111.out 1).trans rfl
       have hcz85_2 : wc.cell? ⟨gb111, 2, none⟩ = some (.int .i64 a0_2) := (blk_cell BK111.out 2).trans rfl
       have hcz85_3 : wc.cell? ⟨gb111, 3, none⟩ = some (.int .i64 a0_3) := (blk_cell BK111.out 3).trans rfl
       have hcz85_4 : wc.cell? ⟨gb111, 4, none⟩ = some (.int .i64 a0_4) := (blk_cell BK111.out 4).trans rfl
       have hcz85_5 : wc.cell? ⟨gb111, 5, none⟩ = some (.int .i64 a0_5) := (blk_cell BK111.out 5).trans rfl
       have hcz85_6 : wc.cell? ⟨gb111, 6, none⟩ = some (.bool a0_6) := (blk_cell BK111.out 6).trans rfl
       have hcz85_7 : wc.cell? ⟨gb111, 7, none⟩ = some (.int .i64 a0_7) := (blk_cell BK111.out 7).trans rfl
       have hcz85_8 : wc.cell? ⟨gb111, 8, none⟩ = some (.int .i64 a0_8) := (blk_cell BK111.out 8).trans rfl
       have hfz85_0 := blk_frozen BK111.out 0
       have hfz85_1 := blk_frozen BK111.out 1
       have hfz85_2 := blk_frozen BK111.out 2
       have hfz85_3 := blk_frozen BK111.out 3
       have hfz85_4 := blk_frozen BK111.out 4
       have hfz85_5 := blk_frozen BK111.out 5
       have hfz85_6 := blk_frozen BK111.out 6
       have hfz85_7 := blk_frozen BK111.out 7
       have hfz85_8 := blk_frozen BK111.out 8
       go_wp2
       go_ret
       exact ⟨by first | rfl | (simp [errW_none, errW_some] <;> rfl) | (simp [*, errW_none, errW_some] <;> rfl), by repeat (first | (with_reducible first | exact HB.out | apply below_alloc | apply pw_below_drewN | apply below_drew1 | refine below_set ?_ GE111.out) | exact HB.out)⟩
     ·rw [if_neg c76] at H
      have c76b0 : (a0_0 == 2) = false := beq_eq_false_iff_ne.mpr c76
      have c76b1 : (a0_0 != 2) = true := bne_iff_ne.mpr c76
      obtain rfl := Option.some.inj H
      have hcz86_0 : wc.cell? ⟨gb111, 0, none⟩ = some (.int .i64 a0_0) := (blk_cell BK111.out 0).trans rfl
      have hcz86_1 : wc.cell? ⟨gb111, 1, none⟩ = some (.int .i64 a0_1) := (blk_cell BK111.out 1).trans rfl
      have hcz86_2 : wc.cell? ⟨gb111, 2, none⟩ = some (.int .i64 a0_2) := (blk_cell BK111.out 2).trans rfl
      have hcz86_3 : wc.cell? ⟨gb111, 3, none⟩ = some (.int .i64 a0_3) := (blk_cell BK111.out 3).trans rfl
      have hcz86_4 : wc.cell? ⟨gb111, 4, none⟩ = some (.int .i64 a0_4) := (blk_cell BK111.out 4).trans rfl
      have hcz86_5 : wc.cell? ⟨gb111, 5, none⟩ = some (.int .i64 a0_5) := (blk_cell BK111.out 5).trans rfl
      have hcz86_6 : wc.cell? ⟨gb111, 6, none⟩ = some (.bool a0_6) := (blk_cell BK111.out 6).trans rfl
      have hcz86_7 : wc.cell? ⟨gb111, 7, none⟩ = some (.int .i64 a0_7) := (blk_cell BK111.out 7).trans rfl
      have hcz86_8 : wc.cell? ⟨gb111, 8, none⟩ = some (.int .i64 a0_8) := (blk_cell BK111.out 8).trans rfl
      have hfz86_0 := blk_frozen BK111.out 0
      have hfz86_1 := blk_frozen BK111.out 1
      have hfz86_2 := blk_frozen BK111.out 2
      have hfz86_3 := blk_frozen BK111.out 3
      have hfz86_4 := blk_frozen BK111.out 4
      have hfz86_5 := blk_frozen BK111.out 5
      have hfz86_6 := blk_frozen BK111.out 6
      have hfz86_7 := blk_frozen BK111.out 7
      have hfz86_8 := blk_frozen BK111.out 8
      go_wp2
      go_ret
      exact ⟨by first | rfl | (simp [errW_none, errW_some] <;> rfl) | (simp [*, errW_none, errW_some] <;> rfl), by repeat (first | (with_reducible first | exact HB.out | apply below_alloc | apply pw_below_drewN | apply below_drew1 | refine below_set ?_ GE111.out) | exact HB.out)⟩

end Go.Proofs.Ytbdaaiagpknaoaa.PUb

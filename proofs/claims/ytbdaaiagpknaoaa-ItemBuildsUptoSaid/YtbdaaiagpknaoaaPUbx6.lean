/- Written by a program of this session: functions of the given program as plain Lean functions, the walks that show it, and the row of each law, for every input that its statement speaks of. -/
import Derived.Test.YtbdaaiagpknaoaaPUbx0
import Derived.Test.YtbdaaiagpknaoaaPUbx4
import Derived.Test.YtbdaaiagpknaoaaPUbx5
namespace Go.Proofs.Ytbdaaiagpknaoaa.PUb
open Go.RowKit Go.Proofs.YtbdaaiagpknaoaaW.PrintWords Go.Proofs.YtbdaaiagpknaoaaW.PrintLast Go.Proofs.YtbdaaiagpknaoaaW.PrintMore
attribute [local go_sem] max2_int min2_int max_two min_two max_three min_three max_four min_four   -- for this text's walks alone
set_option linter.unusedVariables false
set_option linter.unusedSimpArgs false

/-! ### item_May: function 12 -/
def item_May.l0 : Nat → List (S23) → List (S45) → Int → Int → Option (Bool)
 | 0, _, _, _, _ => none
 | k + 1, x3, x9, x10, x11 => if x11 < x10 then (if 0 ≤ x11 then (if x11 < (x9.length : Int) then ((item_right.f k ((rd_T45 x9 x11).f0) ((rd_T45 x9 x11).f1.f0) ((rd_T45 x9 x11).f1.f1) ((rd_T45 x9 x11).f1.f2) ((rd_T45 x9 x11).f1.f3) ((rd_T45 x9 x11).f2) ((rd_T45 x9 x11).f3) ((rd_T45 x9 x11).f4) ((rd_T45 x9 x11).f5)).bind fun t119 => (if t119 = true then (if x3.length < 4398046511104 then (item_May.l0 k (x3 ++ [(⟨(rd_T45 x9 x11).f1.f0, (rd_T45 x9 x11).f1.f1, (rd_T45 x9 x11).f1.f2, (rd_T45 x9 x11).f1.f3⟩ : S23)]) x9 x10 (wrap64 (x11 + 1))) else (none)) else (some false))) else (none)) else (none)) else ((glue_May.f k x3).bind fun t123 => (some t123))
def item_May.f (k : Nat) (l0 : List (S45)) : Option (Bool) := if (l0.length : Int) > 2000 then (some false) else (item_May.l0 k ([] : List (S23)) l0 (l0.length : Int) 0)
theorem item_May.mono_l : ∀ k, (∀ y0 y1 y2 y3, LeO (item_May.l0 k y0 y1 y2 y3) (item_May.l0 (k + 1) y0 y1 y2 y3))
 | 0 => fun _ _ _ _ r h => by simp [item_May.l0] at h
 | k + 1 => by
  have ih0 := item_May.mono_l k
  ·intro y0 y1 y2 y3
   unfold item_May.l0
   repeat' first
   | (with_reducible exact ih0 _ _ _ _)
   | (with_reducible exact glue_May.mono _ _)
   | (with_reducible exact item_right.mono _ _ _ _ _ _ _ _ _ _)
   | (with_reducible exact LeO.refl _)
   | (with_reducible exact LeO.none _)
   | (with_reducible refine LeO.ite ?_ ?_)
   | (with_reducible refine LeO.bind ?_ (fun _ => ?_))
   | exact ih0 _ _ _ _
   | exact glue_May.mono _ _
   | exact item_right.mono _ _ _ _ _ _ _ _ _ _
   | exact LeO.none _
   | refine LeO.ite ?_ ?_
   | refine LeO.bind ?_ (fun _ => ?_)
theorem item_May.mono : ∀ a0 k, LeO (item_May.f k a0) (item_May.f (k + 1) a0) := by
 intro a0 k
 have ih0 := item_May.mono_l k
 unfold item_May.f
 repeat' first
   | (with_reducible exact ih0 _ _ _ _)
   | (with_reducible exact glue_May.mono _ _)
   | (with_reducible exact item_right.mono _ _ _ _ _ _ _ _ _ _)
   | (with_reducible exact LeO.refl _)
   | (with_reducible exact LeO.none _)
   | (with_reducible refine LeO.ite ?_ ?_)
   | (with_reducible refine LeO.bind ?_ (fun _ => ?_))
   | exact ih0 _ _ _ _
   | exact glue_May.mono _ _
   | exact item_right.mono _ _ _ _ _ _ _ _ _ _
   | exact LeO.none _
   | refine LeO.ite ?_ ?_
   | refine LeO.bind ?_ (fun _ => ?_)
set_option maxHeartbeats 8000000 in
set_option maxRecDepth 100000 in
theorem item_May.calls (k : Nat) (A0 : Option Addr) (c0 : Nat) (l0 : List (S45)) (r : Bool) (w : World) (hr0 : Kd.C k45 w A0 l0.length l0) (hc0 : l0.length ≤ c0) (h : item_May.f k l0 = some r) :
  Calls Try.prog 12 #[.slice A0 l0.length c0] w fun e w' => e = .returned (.bool r) ∧ Below w.heap.size w w' := by
 have hu45 := Try.underlying45
 have hu23 := Try.underlying23
 have HR0 := Aside0.mk hr0
 have HC0 := Aside0.mk hc0
 clear hr0 hc0
 have HB := Aside0.mk (Below.refl w.heap.size w)
 have H : (if (l0.length : Int) > 2000 then (some false) else (item_May.l0 k ([] : List (S23)) l0 (l0.length : Int) 0)) = some r := h
 clear h
 by_cases c2 : (l0.length : Int) > 2000
 ·rw [if_pos c2] at H
  have c2b0 : decide (2000 < (l0.length : Int)) = true := decide_eq_true c2
  have c2b1 : decide (2000 < l0.length) = true := decide_eq_true (by omega)
  clear c2
  obtain rfl := Option.some.inj H
  go_enter Try.func12, Try.ntmps12
  go_wp2
  go_ret
  exact ⟨by first | rfl | (simp [errW_none, errW_some] <;> rfl) | (simp [*, errW_none, errW_some] <;> rfl), by repeat (first | (with_reducible first | exact HB.out | apply below_alloc | apply pw_below_drewN | apply below_drew1) | exact HB.out)⟩
 ·rw [if_neg c2] at H
  have c2b0 : decide (2000 < (l0.length : Int)) = false := decide_eq_false c2
  have c2b1 : decide (2000 < l0.length) = false := decide_eq_false (by omega)
  clear c2
  have H' := Aside0.mk H
  clear H
  go_enter Try.func12, Try.ntmps12
  go_wp2
  go_loopg [3, 11] k (fun kq v3 v11 w' => ∃ (x3_1 : List (S23)) (x11_1 : Int), v11 = .int .i64 x11_1 ∧ Aside0 (item_May.l0 kq x3_1 l0 (l0.length : Int) x11_1 = some r) ∧ Aside0 (kq ≤ k) ∧ Aside0 (Kd.R k23 23 w' w.heap.size (fun _ => True) v3 x3_1) ∧ Aside0 (Below w.heap.size w w'))
  case atStart => exact ⟨(([] : List (S23))), (0), (by first | rfl | (simp; done) | (simp [*]; done)), H', ⟨Nat.le_refl _⟩, ⟨by first | exact Kd.R_nil _ _ _ _ _ | exact Kd.N_nil _ _ _ _ _ | exact Kd.V_nil _ _ _ _ _ | exact Kd.Q_nil _ _ _ _ _ | exact Kd.S_nil _ _ _ _ _⟩, ⟨by repeat (first | (with_reducible first | exact HB.out | apply below_alloc | apply pw_below_drewN | apply below_drew1) | exact HB.out)⟩⟩
  case round =>
   clear H'
   try clear c1
   try clear c2
   try clear c2b0
   try clear c2b1
   try clear p2
   obtain ⟨x3_1, x11_1, rfl, HA, HK1, HO_3, HB⟩ := hrel
   cases gk with
   | zero => exact absurd HA.out (by simp [item_May.l0])
   | succ k1 =>
    have H := HA.out
    clear HA
    simp only [item_May.l0] at H
    by_cases c3 : x11_1 < (l0.length : Int)
    ·rw [if_pos c3] at H
     have c3b0 : decide (x11_1 < (l0.length : Int)) = true := decide_eq_true c3
     clear c3
     by_cases c4 : 0 ≤ x11_1
     ·rw [if_pos c4] at H
      have c4b0 : decide (0 ≤ x11_1) = true := decide_eq_true c4
      clear c4
      by_cases c5 : x11_1 < (l0.length : Int)
      ·rw [if_pos c5] at H
       have c5b0 : decide (x11_1 < (l0.length : Int)) = true := decide_eq_true c5
       clear c5
       replace H := Option.bind_eq_some_iff.mp H
       obtain ⟨t119, A60, H⟩ := H
       replace H : (if t119 = true then (if x3_1.length < 4398046511104 then (item_May.l0 k1 (x3_1 ++ [(⟨(rd_T45 l0 x11_1).f1.f0, (rd_T45 l0 x11_1).f1.f1, (rd_T45 l0 x11_1).f1.f2, (rd_T45 l0 x11_1).f1.f3⟩ : S23)]) l0 (l0.length : Int) (wrap64 (x11_1 + 1))) else (none)) else (some false)) = some r := H
       have A6 := Aside0.mk A60
       clear A60
       by_cases c7 : t119 = true
       ·subst c7
        have H1 : (if x3_1.length < 4398046511104 then (item_May.l0 k1 (x3_1 ++ [(⟨(rd_T45 l0 x11_1).f1.f0, (rd_T45 l0 x11_1).f1.f1, (rd_T45 l0 x11_1).f1.f2, (rd_T45 l0 x11_1).f1.f3⟩ : S23)]) l0 (l0.length : Int) (wrap64 (x11_1 + 1))) else (none)) = some r := by rw [if_pos rfl] at H; exact H
        clear H
        have H := H1
        clear H1
        by_cases c8 : x3_1.length < 4398046511104
        ·rw [if_pos c8] at H
         have LMc8 := Aside0.mk c8
         clear c8
         obtain ⟨y120, hy120⟩ : ∃ y_ : List (S23), y_ = (x3_1 ++ [(⟨(rd_T45 l0 x11_1).f1.f0, (rd_T45 l0 x11_1).f1.f1, (rd_T45 l0 x11_1).f1.f2, (rd_T45 l0 x11_1).f1.f3⟩ : S23)]) := ⟨_, rfl⟩
         replace H : (item_May.l0 k1 y120 l0 (l0.length : Int) (wrap64 (x11_1 + 1))) = some r := by first | (rw [hy120]; with_reducible exact H) | (have H2_ := (Option.bind_some _ _).symm.trans H; rw [hy120]; with_reducible exact H2_) | (have H2_ := (Option.bind_some _ _).symm.trans H; with_reducible exact H2_) | with_reducible exact H | (rw [hy120]; exact H) | exact H
         have Ny120 := Aside0.mk hy120
         clear hy120
         have H' := Aside0.mk H
         clear H
         have p117 : 0 ≤ (x11_1 : Int) := of_decide_eq_true (by first | (with_reducible assumption) | assumption)
         have q117 : x11_1 < (l0.length : Int) := of_decide_eq_true (by first | (with_reducible assumption) | assumption)
         obtain ⟨ad117, e117, hx117_0, hx117_1, hx117_2, hx117_3, hx117_4, hx117_5, hx117_6, hx117_7, hx117_8⟩ := at_T45 HR0.out x11_1 p117 q117
         cases e117
         replace hx117_0 := (HB.out.cell (World.block_lt_of_cell? w _ hx117_0)).trans hx117_0
         replace hx117_1 := (HB.out.cell (World.block_lt_of_cell? w _ hx117_1)).trans hx117_1
         replace hx117_2 := (HB.out.cell (World.block_lt_of_cell? w _ hx117_2)).trans hx117_2
         replace hx117_3 := (HB.out.cell (World.block_lt_of_cell? w _ hx117_3)).trans hx117_3
         replace hx117_4 := (HB.out.cell (World.block_lt_of_cell? w _ hx117_4)).trans hx117_4
         replace hx117_5 := (HB.out.cell (World.block_lt_of_cell? w _ hx117_5)).trans hx117_5
         replace hx117_6 := (HB.out.cell (World.block_lt_of_cell? w _ hx117_6)).trans hx117_6
         replace hx117_7 := (HB.out.cell (World.block_lt_of_cell? w _ hx117_7)).trans hx117_7
         replace hx117_8 := (HB.out.cell (World.block_lt_of_cell? w _ hx117_8)).trans hx117_8
         replace p117 := eq_true p117
         replace q117 := eq_true q117
         go_wp2_with (first | ((with_reducible refine gate_dst (N := 5) rfl ?_); refine box_event ?hg (N := 5) ?hd (cs := #[.int .i64 0, .int .i64 0, .int .i64 0, .int .i64 0, .int .i64 0, .int .i64 0, .bool false, .int .i64 0, .int .i64 0]) (t := 45) ?hr ?_; (case hd => rfl); (case hg => rfl); (case hr => first | (go_simp; done) | (go_simp; rfl)); intro gb118 hg w9 hbox hb; have n0_ := Aside0.mk (Kd.R_below (by (with_reducible repeat (first | apply Kd.R_alloc | apply Kd.R_drewN | apply Kd.R_drew)); exact HO_3.out) hb); have n1_ := Aside0.mk (below_step (by repeat (first | (with_reducible first | exact HB.out | apply below_alloc | apply pw_below_drewN | apply below_drew1) | exact HB.out)) hb); have n2_ := Aside0.mk (hbox); have n3_ := Aside0.mk ((by rw [hg]; exact (below_size (by repeat (first | (with_reducible first | exact HB.out | apply below_alloc | apply pw_below_drewN | apply below_drew1) | exact HB.out))) : w.heap.size ≤ gb118)); have n4_ := Aside0.mk ((by rw [hg]; exact (below_size (by repeat (first | (with_reducible first | exact HB.out | apply below_alloc | apply pw_below_drewN | apply below_drew1) | exact HB.out))) : w.heap.size ≤ gb118)); clear HO_3; clear HB; have HO_3 := n0_; have HB := n1_; have BK118 := n2_; have GW118 := n3_; have GE118 := n4_; clear n0_ n1_ n2_ n3_ n4_; clear hb hbox hg; have hcz10_0 : w9.cell? ⟨gb118, 0, none⟩ = some (.int .i64 0) := (blk_cell BK118.out 0).trans rfl; have hcz10_1 : w9.cell? ⟨gb118, 1, none⟩ = some (.int .i64 0) := (blk_cell BK118.out 1).trans rfl; have hcz10_2 : w9.cell? ⟨gb118, 2, none⟩ = some (.int .i64 0) := (blk_cell BK118.out 2).trans rfl; have hcz10_3 : w9.cell? ⟨gb118, 3, none⟩ = some (.int .i64 0) := (blk_cell BK118.out 3).trans rfl; have hcz10_4 : w9.cell? ⟨gb118, 4, none⟩ = some (.int .i64 0) := (blk_cell BK118.out 4).trans rfl; have hcz10_5 : w9.cell? ⟨gb118, 5, none⟩ = some (.int .i64 0) := (blk_cell BK118.out 5).trans rfl; have hcz10_6 : w9.cell? ⟨gb118, 6, none⟩ = some (.bool false) := (blk_cell BK118.out 6).trans rfl; have hcz10_7 : w9.cell? ⟨gb118, 7, none⟩ = some (.int .i64 0) := (blk_cell BK118.out 7).trans rfl; have hcz10_8 : w9.cell? ⟨gb118, 8, none⟩ = some (.int .i64 0) := (blk_cell BK118.out 8).trans rfl; have hfz10_0 := blk_frozen BK118.out 0; have hfz10_1 := blk_frozen BK118.out 1; have hfz10_2 := blk_frozen BK118.out 2; have hfz10_3 := blk_frozen BK118.out 3; have hfz10_4 := blk_frozen BK118.out 4; have hfz10_5 := blk_frozen BK118.out 5; have hfz10_6 := blk_frozen BK118.out 6; have hfz10_7 := blk_frozen BK118.out 7; have hfz10_8 := blk_frozen BK118.out 8) | ((with_reducible refine gate_callee (f := 21) rfl ?_); refine goesL_ (some 16) rfl rfl Try.func21 (by kernel_rfl) rfl #[.agg #[.int .i64 ((rd_T45 l0 x11_1).f0), .int .i64 ((rd_T45 l0 x11_1).f1.f0), .int .i64 ((rd_T45 l0 x11_1).f1.f1), .int .i64 ((rd_T45 l0 x11_1).f1.f2), .int .i64 ((rd_T45 l0 x11_1).f1.f3), .int .i64 ((rd_T45 l0 x11_1).f2), .bool ((rd_T45 l0 x11_1).f3), .int .i64 ((rd_T45 l0 x11_1).f4), .int .i64 ((rd_T45 l0 x11_1).f5)]] rfl (by (try simp only [List.map_toArray, List.map_cons, List.map_nil]); first | done | rfl | (simp only [List.length_drop, List.length_take]; rfl) | (simp only [*]; first | done | rfl)) ?_; (with_reducible refine (item_right.calls k1 ((rd_T45 l0 x11_1).f0) ((rd_T45 l0 x11_1).f1.f0) ((rd_T45 l0 x11_1).f1.f1) ((rd_T45 l0 x11_1).f1.f2) ((rd_T45 l0 x11_1).f1.f3) ((rd_T45 l0 x11_1).f2) ((rd_T45 l0 x11_1).f3) ((rd_T45 l0 x11_1).f4) ((rd_T45 l0 x11_1).f5) true _ A6.out).mono ?_); rintro e w11 ⟨rfl, hb⟩; refine ⟨_, rfl, ?_⟩; have n0_ := Aside0.mk (Kd.R_below (by (with_reducible repeat (first | apply Kd.R_alloc | apply Kd.R_drewN | apply Kd.R_drew)); exact (Kd.R_mono (Kd.R_far (p := ⟨gb118, 8, none⟩) (Kd.R_far (p := ⟨gb118, 7, none⟩) (Kd.R_far (p := ⟨gb118, 6, none⟩) (Kd.R_far (p := ⟨gb118, 5, none⟩) (Kd.R_far (p := ⟨gb118, 4, none⟩) (Kd.R_far (p := ⟨gb118, 3, none⟩) (Kd.R_far (p := ⟨gb118, 2, none⟩) (Kd.R_far (p := ⟨gb118, 1, none⟩) (Kd.R_far (p := ⟨gb118, 0, none⟩) (Kd.R_types HO_3.out BK118.out (by decide)) (fun _ hk => hk.2) (.int .i64 ((rd_T45 l0 x11_1).f0))) (fun _ hk => hk.2) (.int .i64 ((rd_T45 l0 x11_1).f1.f0))) (fun _ hk => hk.2) (.int .i64 ((rd_T45 l0 x11_1).f1.f1))) (fun _ hk => hk.2) (.int .i64 ((rd_T45 l0 x11_1).f1.f2))) (fun _ hk => hk.2) (.int .i64 ((rd_T45 l0 x11_1).f1.f3))) (fun _ hk => hk.2) (.int .i64 ((rd_T45 l0 x11_1).f2))) (fun _ hk => hk.2) (.bool ((rd_T45 l0 x11_1).f3))) (fun _ hk => hk.2) (.int .i64 ((rd_T45 l0 x11_1).f4))) (fun _ hk => hk.2) (.int .i64 ((rd_T45 l0 x11_1).f5))) (fun _ h_ => h_.1))) hb); have n1_ := Aside0.mk (blk_below (g := gb118) (o := .cells #[.int .i64 ((rd_T45 l0 x11_1).f0), .int .i64 ((rd_T45 l0 x11_1).f1.f0), .int .i64 ((rd_T45 l0 x11_1).f1.f1), .int .i64 ((rd_T45 l0 x11_1).f1.f2), .int .i64 ((rd_T45 l0 x11_1).f1.f3), .int .i64 ((rd_T45 l0 x11_1).f2), .bool ((rd_T45 l0 x11_1).f3), .int .i64 ((rd_T45 l0 x11_1).f4), .int .i64 ((rd_T45 l0 x11_1).f5)] 45 (0, 0)) (by (with_reducible repeat (first | refine blk_drewN ?_ _ | refine blk_drew ?_ | refine blk_alloc ?_ _)); refine blk_put (cs := #[.int .i64 ((rd_T45 l0 x11_1).f0), .int .i64 ((rd_T45 l0 x11_1).f1.f0), .int .i64 ((rd_T45 l0 x11_1).f1.f1), .int .i64 ((rd_T45 l0 x11_1).f1.f2), .int .i64 ((rd_T45 l0 x11_1).f1.f3), .int .i64 ((rd_T45 l0 x11_1).f2), .bool ((rd_T45 l0 x11_1).f3), .int .i64 ((rd_T45 l0 x11_1).f4), .int .i64 0]) ?_ 8 _ rfl; (with_reducible repeat (first | refine blk_drewN ?_ _ | refine blk_drew ?_ | refine blk_alloc ?_ _)); refine blk_put (cs := #[.int .i64 ((rd_T45 l0 x11_1).f0), .int .i64 ((rd_T45 l0 x11_1).f1.f0), .int .i64 ((rd_T45 l0 x11_1).f1.f1), .int .i64 ((rd_T45 l0 x11_1).f1.f2), .int .i64 ((rd_T45 l0 x11_1).f1.f3), .int .i64 ((rd_T45 l0 x11_1).f2), .bool ((rd_T45 l0 x11_1).f3), .int .i64 0, .int .i64 0]) ?_ 7 _ rfl; (with_reducible repeat (first | refine blk_drewN ?_ _ | refine blk_drew ?_ | refine blk_alloc ?_ _)); refine blk_put (cs := #[.int .i64 ((rd_T45 l0 x11_1).f0), .int .i64 ((rd_T45 l0 x11_1).f1.f0), .int .i64 ((rd_T45 l0 x11_1).f1.f1), .int .i64 ((rd_T45 l0 x11_1).f1.f2), .int .i64 ((rd_T45 l0 x11_1).f1.f3), .int .i64 ((rd_T45 l0 x11_1).f2), .bool false, .int .i64 0, .int .i64 0]) ?_ 6 _ rfl; (with_reducible repeat (first | refine blk_drewN ?_ _ | refine blk_drew ?_ | refine blk_alloc ?_ _)); refine blk_put (cs := #[.int .i64 ((rd_T45 l0 x11_1).f0), .int .i64 ((rd_T45 l0 x11_1).f1.f0), .int .i64 ((rd_T45 l0 x11_1).f1.f1), .int .i64 ((rd_T45 l0 x11_1).f1.f2), .int .i64 ((rd_T45 l0 x11_1).f1.f3), .int .i64 0, .bool false, .int .i64 0, .int .i64 0]) ?_ 5 _ rfl; (with_reducible repeat (first | refine blk_drewN ?_ _ | refine blk_drew ?_ | refine blk_alloc ?_ _)); refine blk_put (cs := #[.int .i64 ((rd_T45 l0 x11_1).f0), .int .i64 ((rd_T45 l0 x11_1).f1.f0), .int .i64 ((rd_T45 l0 x11_1).f1.f1), .int .i64 ((rd_T45 l0 x11_1).f1.f2), .int .i64 0, .int .i64 0, .bool false, .int .i64 0, .int .i64 0]) ?_ 4 _ rfl; (with_reducible repeat (first | refine blk_drewN ?_ _ | refine blk_drew ?_ | refine blk_alloc ?_ _)); refine blk_put (cs := #[.int .i64 ((rd_T45 l0 x11_1).f0), .int .i64 ((rd_T45 l0 x11_1).f1.f0), .int .i64 ((rd_T45 l0 x11_1).f1.f1), .int .i64 0, .int .i64 0, .int .i64 0, .bool false, .int .i64 0, .int .i64 0]) ?_ 3 _ rfl; (with_reducible repeat (first | refine blk_drewN ?_ _ | refine blk_drew ?_ | refine blk_alloc ?_ _)); refine blk_put (cs := #[.int .i64 ((rd_T45 l0 x11_1).f0), .int .i64 ((rd_T45 l0 x11_1).f1.f0), .int .i64 0, .int .i64 0, .int .i64 0, .int .i64 0, .bool false, .int .i64 0, .int .i64 0]) ?_ 2 _ rfl; (with_reducible repeat (first | refine blk_drewN ?_ _ | refine blk_drew ?_ | refine blk_alloc ?_ _)); refine blk_put (cs := #[.int .i64 ((rd_T45 l0 x11_1).f0), .int .i64 0, .int .i64 0, .int .i64 0, .int .i64 0, .int .i64 0, .bool false, .int .i64 0, .int .i64 0]) ?_ 1 _ rfl; (with_reducible repeat (first | refine blk_drewN ?_ _ | refine blk_drew ?_ | refine blk_alloc ?_ _)); refine blk_put (cs := #[.int .i64 0, .int .i64 0, .int .i64 0, .int .i64 0, .int .i64 0, .int .i64 0, .bool false, .int .i64 0, .int .i64 0]) ?_ 0 _ rfl; (with_reducible repeat (first | refine blk_drewN ?_ _ | refine blk_drew ?_ | refine blk_alloc ?_ _)); exact BK118.out) hb); have n2_ := Aside0.mk (below_step (by repeat (first | (with_reducible first | exact HB.out | apply below_alloc | apply pw_below_drewN | apply below_drew1 | refine below_set ?_ GE118.out) | exact HB.out)) hb); clear HO_3; clear BK118; clear HB; have HO_3 := n0_; have BK118 := n1_; have HB := n2_; clear n0_ n1_ n2_; (try clear hb); (try clear hb2); (try clear hk); (try clear hi); have hcz12_0 : w11.cell? ⟨gb118, 0, none⟩ = some (.int .i64 ((rd_T45 l0 x11_1).f0)) := (blk_cell BK118.out 0).trans rfl; have hcz12_1 : w11.cell? ⟨gb118, 1, none⟩ = some (.int .i64 ((rd_T45 l0 x11_1).f1.f0)) := (blk_cell BK118.out 1).trans rfl; have hcz12_2 : w11.cell? ⟨gb118, 2, none⟩ = some (.int .i64 ((rd_T45 l0 x11_1).f1.f1)) := (blk_cell BK118.out 2).trans rfl; have hcz12_3 : w11.cell? ⟨gb118, 3, none⟩ = some (.int .i64 ((rd_T45 l0 x11_1).f1.f2)) := (blk_cell BK118.out 3).trans rfl; have hcz12_4 : w11.cell? ⟨gb118, 4, none⟩ = some (.int .i64 ((rd_T45 l0 x11_1).f1.f3)) := (blk_cell BK118.out 4).trans rfl; have hcz12_5 : w11.cell? ⟨gb118, 5, none⟩ = some (.int .i64 ((rd_T45 l0 x11_1).f2)) := (blk_cell BK118.out 5).trans rfl; have hcz12_6 : w11.cell? ⟨gb118, 6, none⟩ = some (.bool ((rd_T45 l0 x11_1).f3)) := (blk_cell BK118.out 6).trans rfl; have hcz12_7 : w11.cell? ⟨gb118, 7, none⟩ = some (.int .i64 ((rd_T45 l0 x11_1).f4)) := (blk_cell BK118.out 7).trans rfl; have hcz12_8 : w11.cell? ⟨gb118, 8, none⟩ = some (.int .i64 ((rd_T45 l0 x11_1).f5)) := (blk_cell BK118.out 8).trans rfl; have hfz12_0 := blk_frozen BK118.out 0; have hfz12_1 := blk_frozen BK118.out 1; have hfz12_2 := blk_frozen BK118.out 2; have hfz12_3 := blk_frozen BK118.out 3; have hfz12_4 := blk_frozen BK118.out 4; have hfz12_5 := blk_frozen BK118.out 5; have hfz12_6 := blk_frozen BK118.out 6; have hfz12_7 := blk_frozen BK118.out 7; have hfz12_8 := blk_frozen BK118.out 8) | ((with_reducible refine gate_builtin (b := .append) (xs := #[.tmp 18, .tmp 21]) rfl ?_); at_builtin; refine Kd.R_append k23 (w0 := w) w.heap.size rfl (.tmp 18) (.tmp 21) 59 23 (.agg #[(.int .i64 0), (.int .i64 0), (.int .i64 0), (.int .i64 0)]) 32 rfl Try.underlying59 info23 rfl (by decide) (by omega) u3 x3_1 (⟨(rd_T45 l0 x11_1).f1.f0, (rd_T45 l0 x11_1).f1.f1, (rd_T45 l0 x11_1).f1.f2, (rd_T45 l0 x11_1).f1.f3⟩ : S23) [.int .i64 ((rd_T45 l0 x11_1).f1.f0), .int .i64 ((rd_T45 l0 x11_1).f1.f1), .int .i64 ((rd_T45 l0 x11_1).f1.f2), .int .i64 ((rd_T45 l0 x11_1).f1.f3)] (fun _ => True) (fun _ => False) rfl rfl ?aP (fun _ hk => hk.elim) ?aF ?aO ?aB ?aS ?aL ?_; (case aP => exact k23_mkM _ _ _ (⟨(rd_T45 l0 x11_1).f1.f0, (rd_T45 l0 x11_1).f1.f1, (rd_T45 l0 x11_1).f1.f2, (rd_T45 l0 x11_1).f1.f3⟩ : S23)); (case aB => exact (by repeat (first | (with_reducible first | exact HB.out | apply below_alloc | apply pw_below_drewN | apply below_drew1 | refine below_set ?_ GE118.out) | exact HB.out))); (case aF => exact (fun _ _ => trivial)); (case aO => exact (by (with_reducible repeat (first | apply Kd.R_alloc | apply Kd.R_drewN | apply Kd.R_drew)); exact HO_3.out)); (case aS => exact (below_size (by repeat (first | (with_reducible first | exact HB.out | apply below_alloc | apply pw_below_drewN | apply below_drew1 | refine below_set ?_ GE118.out) | exact HB.out)))); (case aL => have := LMc8.out; omega); intro v121 w13 ho hb hg hat; rw [← Ny120.out] at ho; have n0_ := Aside0.mk (blk_grown (g := gb118) (o := .cells #[.int .i64 ((rd_T45 l0 x11_1).f0), .int .i64 ((rd_T45 l0 x11_1).f1.f0), .int .i64 ((rd_T45 l0 x11_1).f1.f1), .int .i64 ((rd_T45 l0 x11_1).f1.f2), .int .i64 ((rd_T45 l0 x11_1).f1.f3), .int .i64 ((rd_T45 l0 x11_1).f2), .bool ((rd_T45 l0 x11_1).f3), .int .i64 ((rd_T45 l0 x11_1).f4), .int .i64 ((rd_T45 l0 x11_1).f5)] 45 (0, 0)) (by (with_reducible repeat (first | refine blk_drewN ?_ _ | refine blk_drew ?_ | refine blk_alloc ?_ _)); exact BK118.out) hg (Kd.R_ne HO_3.out BK118.out (by decide))); have n1_ := Aside0.mk (hb); have n2_ := Aside0.mk (ho); clear BK118; clear HB; clear HO_3; have BK118 := n0_; have HB := n1_; have HO122 := n2_; clear n0_ n1_ n2_; clear ho hb hg hat))
         go_roundg k1
         case measure => have := HK1.out; omega
         case rel => exact ⟨(y120), (wrap64 (x11_1 + 1)), (by first | rfl | (simp; done) | (simp [*]; done)), H', ⟨by have := HK1.out; omega⟩, ⟨by (with_reducible repeat (first | apply Kd.R_alloc | apply Kd.R_drewN | apply Kd.R_drew)); exact HO122.out⟩, ⟨by repeat (first | (with_reducible first | exact HB.out | apply below_alloc | apply pw_below_drewN | apply below_drew1 | refine below_set ?_ GE118.out) | exact HB.out)⟩⟩
        ·rw [if_neg c8] at H
         exact absurd H (by simp)
       ·replace c7 := Bool.eq_false_iff.mpr c7
        subst c7
        have H1 : (some false) = some r := by rw [if_neg (show ¬ (false = true) by decide)] at H; exact H
        clear H
        have H := H1
        clear H1
        obtain rfl := Option.some.inj H
        have p117 : 0 ≤ (x11_1 : Int) := of_decide_eq_true (by first | (with_reducible assumption) | assumption)
        have q117 : x11_1 < (l0.length : Int) := of_decide_eq_true (by first | (with_reducible assumption) | assumption)
        obtain ⟨ad117, e117, hx117_0, hx117_1, hx117_2, hx117_3, hx117_4, hx117_5, hx117_6, hx117_7, hx117_8⟩ := at_T45 HR0.out x11_1 p117 q117
        cases e117
        replace hx117_0 := (HB.out.cell (World.block_lt_of_cell? w _ hx117_0)).trans hx117_0
        replace hx117_1 := (HB.out.cell (World.block_lt_of_cell? w _ hx117_1)).trans hx117_1
        replace hx117_2 := (HB.out.cell (World.block_lt_of_cell? w _ hx117_2)).trans hx117_2
        replace hx117_3 := (HB.out.cell (World.block_lt_of_cell? w _ hx117_3)).trans hx117_3
        replace hx117_4 := (HB.out.cell (World.block_lt_of_cell? w _ hx117_4)).trans hx117_4
        replace hx117_5 := (HB.out.cell (World.block_lt_of_cell? w _ hx117_5)).trans hx117_5
        replace hx117_6 := (HB.out.cell (World.block_lt_of_cell? w _ hx117_6)).trans hx117_6
        replace hx117_7 := (HB.out.cell (World.block_lt_of_cell? w _ hx117_7)).trans hx117_7
        replace hx117_8 := (HB.out.cell (World.block_lt_of_cell? w _ hx117_8)).trans hx117_8
        replace p117 := eq_true p117
        replace q117 := eq_true q117
        go_wp2_with (first | ((with_reducible refine gate_dst (N := 5) rfl ?_); refine box_event ?hg (N := 5) ?hd (cs := #[.int .i64 0, .int .i64 0, .int .i64 0, .int .i64 0, .int .i64 0, .int .i64 0, .bool false, .int .i64 0, .int .i64 0]) (t := 45) ?hr ?_; (case hd => rfl); (case hg => rfl); (case hr => first | (go_simp; done) | (go_simp; rfl)); intro gb118 hg w14 hbox hb; have n0_ := Aside0.mk (Kd.R_below (by (with_reducible repeat (first | apply Kd.R_alloc | apply Kd.R_drewN | apply Kd.R_drew)); exact HO_3.out) hb); have n1_ := Aside0.mk (below_step (by repeat (first | (with_reducible first | exact HB.out | apply below_alloc | apply pw_below_drewN | apply below_drew1) | exact HB.out)) hb); have n2_ := Aside0.mk (hbox); have n3_ := Aside0.mk ((by rw [hg]; exact (below_size (by repeat (first | (with_reducible first | exact HB.out | apply below_alloc | apply pw_below_drewN | apply below_drew1) | exact HB.out))) : w.heap.size ≤ gb118)); have n4_ := Aside0.mk ((by rw [hg]; exact (below_size (by repeat (first | (with_reducible first | exact HB.out | apply below_alloc | apply pw_below_drewN | apply below_drew1) | exact HB.out))) : w.heap.size ≤ gb118)); clear HO_3; clear HB; have HO_3 := n0_; have HB := n1_; have BK118 := n2_; have GW118 := n3_; have GE118 := n4_; clear n0_ n1_ n2_ n3_ n4_; clear hb hbox hg; have hcz15_0 : w14.cell? ⟨gb118, 0, none⟩ = some (.int .i64 0) := (blk_cell BK118.out 0).trans rfl; have hcz15_1 : w14.cell? ⟨gb118, 1, none⟩ = some (.int .i64 0) := (blk_cell BK118.out 1).trans rfl; have hcz15_2 : w14.cell? ⟨gb118, 2, none⟩ = some (.int .i64 0) := (blk_cell BK118.out 2).trans rfl; have hcz15_3 : w14.cell? ⟨gb118, 3, none⟩ = some (.int .i64 0) := (blk_cell BK118.out 3).trans rfl; have hcz15_4 : w14.cell? ⟨gb118, 4, none⟩ = some (.int .i64 0) := (blk_cell BK118.out 4).trans rfl; have hcz15_5 : w14.cell? ⟨gb118, 5, none⟩ = some (.int .i64 0) := (blk_cell BK118.out 5).trans rfl; have hcz15_6 : w14.cell? ⟨gb118, 6, none⟩ = some (.bool false) := (blk_cell BK118.out 6).trans rfl; have hcz15_7 : w14.cell? ⟨gb118, 7, none⟩ = some (.int .i64 0) := (blk_cell BK118.out 7).trans rfl; have hcz15_8 : w14.cell? ⟨gb118, 8, none⟩ = some (.int .i64 0) := (blk_cell BK118.out 8).trans rfl; have hfz15_0 := blk_frozen BK118.out 0; have hfz15_1 := blk_frozen BK118.out 1; have hfz15_2 := blk_frozen BK118.out 2; have hfz15_3 := blk_frozen BK118.out 3; have hfz15_4 := blk_frozen BK118.out 4; have hfz15_5 := blk_frozen BK118.out 5; have hfz15_6 := blk_frozen BK118.out 6; have hfz15_7 := blk_frozen BK118.out 7; have hfz15_8 := blk_frozen BK118.out 8) | ((with_reducible refine gate_callee (f := 21) rfl ?_); refine goesL_ (some 16) rfl rfl Try.func21 (by kernel_rfl) rfl #[.agg #[.int .i64 ((rd_T45 l0 x11_1).f0), .int .i64 ((rd_T45 l0 x11_1).f1.f0), .int .i64 ((rd_T45 l0 x11_1).f1.f1), .int .i64 ((rd_T45 l0 x11_1).f1.f2), .int .i64 ((rd_T45 l0 x11_1).f1.f3), .int .i64 ((rd_T45 l0 x11_1).f2), .bool ((rd_T45 l0 x11_1).f3), .int .i64 ((rd_T45 l0 x11_1).f4), .int .i64 ((rd_T45 l0 x11_1).f5)]] rfl (by (try simp only [List.map_toArray, List.map_cons, List.map_nil]); first | done | rfl | (simp only [List.length_drop, List.length_take]; rfl) | (simp only [*]; first | done | rfl)) ?_; (with_reducible refine (item_right.calls k1 ((rd_T45 l0 x11_1).f0) ((rd_T45 l0 x11_1).f1.f0) ((rd_T45 l0 x11_1).f1.f1) ((rd_T45 l0 x11_1).f1.f2) ((rd_T45 l0 x11_1).f1.f3) ((rd_T45 l0 x11_1).f2) ((rd_T45 l0 x11_1).f3) ((rd_T45 l0 x11_1).f4) ((rd_T45 l0 x11_1).f5) false _ A6.out).mono ?_); rintro e w16 ⟨rfl, hb⟩; refine ⟨_, rfl, ?_⟩; have n0_ := Aside0.mk (Kd.R_below (by (with_reducible repeat (first | apply Kd.R_alloc | apply Kd.R_drewN | apply Kd.R_drew)); exact (Kd.R_mono (Kd.R_far (p := ⟨gb118, 8, none⟩) (Kd.R_far (p := ⟨gb118, 7, none⟩) (Kd.R_far (p := ⟨gb118, 6, none⟩) (Kd.R_far (p := ⟨gb118, 5, none⟩) (Kd.R_far (p := ⟨gb118, 4, none⟩) (Kd.R_far (p := ⟨gb118, 3, none⟩) (Kd.R_far (p := ⟨gb118, 2, none⟩) (Kd.R_far (p := ⟨gb118, 1, none⟩) (Kd.R_far (p := ⟨gb118, 0, none⟩) (Kd.R_types HO_3.out BK118.out (by decide)) (fun _ hk => hk.2) (.int .i64 ((rd_T45 l0 x11_1).f0))) (fun _ hk => hk.2) (.int .i64 ((rd_T45 l0 x11_1).f1.f0))) (fun _ hk => hk.2) (.int .i64 ((rd_T45 l0 x11_1).f1.f1))) (fun _ hk => hk.2) (.int .i64 ((rd_T45 l0 x11_1).f1.f2))) (fun _ hk => hk.2) (.int .i64 ((rd_T45 l0 x11_1).f1.f3))) (fun _ hk => hk.2) (.int .i64 ((rd_T45 l0 x11_1).f2))) (fun _ hk => hk.2) (.bool ((rd_T45 l0 x11_1).f3))) (fun _ hk => hk.2) (.int .i64 ((rd_T45 l0 x11_1).f4))) (fun _ hk => hk.2) (.int .i64 ((rd_T45 l0 x11_1).f5))) (fun _ h_ => h_.1))) hb); have n1_ := Aside0.mk (blk_below (g := gb118) (o := .cells #[.int .i64 ((rd_T45 l0 x11_1).f0), .int .i64 ((rd_T45 l0 x11_1).f1.f0), .int .i64 ((rd_T45 l0 x11_1).f1.f1), .int .i64 ((rd_T45 l0 x11_1).f1.f2), .int .i64 ((rd_T45 l0 x11_1).f1.f3), .int .i64 ((rd_T45 l0 x11_1).f2), .bool ((rd_T45 l0 x11_1).f3), .int .i64 ((rd_T45 l0 x11_1).f4), .int .i64 ((rd_T45 l0 x11_1).f5)] 45 (0, 0)) (by (with_reducible repeat (first | refine blk_drewN ?_ _ | refine blk_drew ?_ | refine blk_alloc ?_ _)); refine blk_put (cs := #[.int .i64 ((rd_T45 l0 x11_1).f0), .int .i64 ((rd_T45 l0 x11_1).f1.f0), .int .i64 ((rd_T45 l0 x11_1).f1.f1), .int .i64 ((rd_T45 l0 x11_1).f1.f2), .int .i64 ((rd_T45 l0 x11_1).f1.f3), .int .i64 ((rd_T45 l0 x11_1).f2), .bool ((rd_T45 l0 x11_1).f3), .int .i64 ((rd_T45 l0 x11_1).f4), .int .i64 0]) ?_ 8 _ rfl; (with_reducible repeat (first | refine blk_drewN ?_ _ | refine blk_drew ?_ | refine blk_alloc ?_ _)); refine blk_put (cs := #[.int .i64 ((rd_T45 l0 x11_1).f0), .int .i64 ((rd_T45 l0 x11_1).f1.f0), .int .i64 ((rd_T45 l0 x11_1).f1.f1), .int .i64 ((rd_T45 l0 x11_1).f1.f2), .int .i64 ((rd_T45 l0 x11_1).f1.f3), .int .i64 ((rd_T45 l0 x11_1).f2), .bool ((rd_T45 l0 x11_1).f3), .int .i64 0, .int .i64 0]) ?_ 7 _ rfl; (with_reducible repeat (first | refine blk_drewN ?_ _ | refine blk_drew ?_ | refine blk_alloc ?_ _)); refine blk_put (cs := #[.int .i64 ((rd_T45 l0 x11_1).f0), .int .i64 ((rd_T45 l0 x11_1).f1.f0), .int .i64 ((rd_T45 l0 x11_1).f1.f1), .int .i64 ((rd_T45 l0 x11_1).f1.f2), .int .i64 ((rd_T45 l0 x11_1).f1.f3), .int .i64 ((rd_T45 l0 x11_1).f2), .bool false, .int .i64 0, .int .i64 0]) ?_ 6 _ rfl; (with_reducible repeat (first | refine blk_drewN ?_ _ | refine blk_drew ?_ | refine blk_alloc ?_ _)); refine blk_put (cs := #[.int .i64 ((rd_T45 l0 x11_1).f0), .int .i64 ((rd_T45 l0 x11_1).f1.f0), .int .i64 ((rd_T45 l0 x11_1).f1.f1), .int .i64 ((rd_T45 l0 x11_1).f1.f2), .int .i64 ((rd_T45 l0 x11_1).f1.f3), .int .i64 0, .bool false, .int .i64 0, .int .i64 0]) ?_ 5 _ rfl; (with_reducible repeat (first | refine blk_drewN ?_ _ | refine blk_drew ?_ | refine blk_alloc ?_ _)); refine blk_put (cs := #[.int .i64 ((rd_T45 l0 x11_1).f0), .int .i64 ((rd_T45 l0 x11_1).f1.f0), .int .i64 ((rd_T45 l0 x11_1).f1.f1), .int .i64 ((rd_T45 l0 x11_1).f1.f2), .int .i64 0, .int .i64 0, .bool false, .int .i64 0, .int .i64 0]) ?_ 4 _ rfl; (with_reducible repeat (first | refine blk_drewN ?_ _ | refine blk_drew ?_ | refine blk_alloc ?_ _)); refine blk_put (cs := #[.int .i64 ((rd_T45 l0 x11_1).f0), .int .i64 ((rd_T45 l0 x11_1).f1.f0), .int .i64 ((rd_T45 l0 x11_1).f1.f1), .int .i64 0, .int .i64 0, .int .i64 0, .bool false, .int .i64 0, .int .i64 0]) ?_ 3 _ rfl; (with_reducible repeat (first | refine blk_drewN ?_ _ | refine blk_drew ?_ | refine blk_alloc ?_ _)); refine blk_put (cs := #[.int .i64 ((rd_T45 l0 x11_1).f0), .int .i64 ((rd_T45 l0 x11_1).f1.f0), .int .i64 0, .int .i64 0, .int .i64 0, .int .i64 0, .bool false, .int .i64 0, .int .i64 0]) ?_ 2 _ rfl; (with_reducible repeat (first | refine blk_drewN ?_ _ | refine blk_drew ?_ | refine blk_alloc ?_ _)); refine blk_put (cs := #[.int .i64 ((rd_T45 l0 x11_1).f0), .int .i64 0, .int .i64 0, .int .i64 0, .int .i64 0, .int .i64 0, .bool false, .int .i64 0, .int .i64 0]) ?_ 1 _ rfl; (with_reducible repeat (first | refine blk_drewN ?_ _ | refine blk_drew ?_ | refine blk_alloc ?_ _)); refine blk_put (cs := #[.int .i64 0, .int .i64 0, .int .i64 0, .int .i64 0, .int .i64 0, .int .i64 0, .bool false, .int .i64 0, .int .i64 0]) ?_ 0 _ rfl; (with_reducible repeat (first | refine blk_drewN ?_ _ | refine blk_drew ?_ | refine blk_alloc ?_ _)); exact BK118.out) hb); have n2_ := Aside0.mk (below_step (by repeat (first | (with_reducible first | exact HB.out | apply below_alloc | apply pw_below_drewN | apply below_drew1 | refine below_set ?_ GE118.out) | exact HB.out)) hb); clear HO_3; clear BK118; clear HB; have HO_3 := n0_; have BK118 := n1_; have HB := n2_; clear n0_ n1_ n2_; (try clear hb); (try clear hb2); (try clear hk); (try clear hi)))
        go_ret
        exact ⟨by first | rfl | (simp [errW_none, errW_some] <;> rfl) | (simp [*, errW_none, errW_some] <;> rfl), by repeat (first | (with_reducible first | exact HB.out | apply below_alloc | apply pw_below_drewN | apply below_drew1 | refine below_set ?_ GE118.out) | exact HB.out)⟩
      ·rw [if_neg c5] at H
       exact absurd H (by simp)
     ·rw [if_neg c4] at H
      exact absurd H (by simp)
    ·rw [if_neg c3] at H
     have c3b0 : decide (x11_1 < (l0.length : Int)) = false := decide_eq_false c3
     clear c3
     replace H := Option.bind_eq_some_iff.mp H
     obtain ⟨t123, A170, H⟩ := H
     replace H : (some t123) = some r := H
     have A17 := Aside0.mk A170
     clear A170
     obtain rfl := Option.some.inj H
     obtain ⟨Ao18, co18, eo18⟩ := Kd.R_slice HO_3.out
     subst eo18
     go_wp2_with (first | ((with_reducible refine gate_callee (f := 22) rfl ?_); refine goesL_ (some 25) rfl rfl Try.func22 (by kernel_rfl) rfl #[.slice Ao18 x3_1.length co18] rfl (by (try simp only [List.map_toArray, List.map_cons, List.map_nil]); first | done | rfl | (simp only [List.length_drop, List.length_take]; rfl) | (simp only [*]; first | done | rfl)) ?_; (with_reducible refine (glue_May.calls k1 _ _ x3_1 t123 _ ?side1 ?side2 A17.out).mono ?_); (case side1 => repeat (first | exact (Kd.R_reads' HO_3.out).2.2 | (with_reducible refine Kd.C_alloc ?_ _) | (with_reducible refine Kd.C_drewN ?_ _) | (with_reducible refine Kd.C_drew ?_))); (case side2 => exact (Kd.R_reads' HO_3.out).2.1); rintro e w19 ⟨rfl, hb⟩; refine ⟨_, rfl, ?_⟩; have n0_ := Aside0.mk (Kd.R_below (by (with_reducible repeat (first | apply Kd.R_alloc | apply Kd.R_drewN | apply Kd.R_drew)); exact HO_3.out) hb); have n1_ := Aside0.mk (below_step (by repeat (first | (with_reducible first | exact HB.out | apply below_alloc | apply pw_below_drewN | apply below_drew1) | exact HB.out)) hb); clear HO_3; clear HB; have HO_3 := n0_; have HB := n1_; clear n0_ n1_; (try clear hb); (try clear hb2); (try clear hk); (try clear hi)))
     go_ret
     exact ⟨by first | rfl | (simp [errW_none, errW_some] <;> rfl) | (simp [*, errW_none, errW_some] <;> rfl), by repeat (first | (with_reducible first | exact HB.out | apply below_alloc | apply pw_below_drewN | apply below_drew1) | exact HB.out)⟩

/-! ### item_builder_word: function 26 -/
def bword.l0 : Nat → List S47 → Int → Int → List S45 → Int → Option (List S45)
 | 0, _, _, _, _, _ => none
 | k + 1, ps, hy, wn, xs, i => if i < (ps.length : Int) then (if 0 ≤ i then (if xs.length + 2 < 1954687338268 then (if i > 0 then bword.l0 k ps hy wn ((xs ++ [(⟨2, ⟨hy, 0, 0, 0⟩, 50, true, 0, 0⟩ : S45)]) ++ [(⟨0, ⟨(rd_T47 ps i).f1, 0, 0, 0⟩, 0, false, wn, i⟩ : S45)]) (wrap64 (i + 1)) else bword.l0 k ps hy wn (xs ++ [(⟨0, ⟨(rd_T47 ps i).f1, 0, 0, 0⟩, 0, false, wn, i⟩ : S45)]) (wrap64 (i + 1))) else none) else none) else some xs
def bword.f (k : Nat) (ps : List S47) (hy wn : Int) (xs : List S45) : Option (List S45) := bword.l0 k ps hy wn xs 0
theorem bword.mono_l : ∀ k ps hy wn xs i, LeO (bword.l0 k ps hy wn xs i) (bword.l0 (k + 1) ps hy wn xs i)
 | 0 => fun _ _ _ _ _ r h => by simp [bword.l0] at h
 | k + 1 => by
  intro ps hy wn xs i
  have ih := bword.mono_l k
  unfold bword.l0
  exact LeO.ite (LeO.ite (LeO.ite (LeO.ite (ih _ _ _ _ _) (ih _ _ _ _ _)) (LeO.refl _)) (LeO.refl _)) (LeO.refl _)
theorem bword.mono (ps : List S47) (hy wn : Int) (xs : List S45) (k : Nat) : LeO (bword.f k ps hy wn xs) (bword.f (k + 1) ps hy wn xs) := bword.mono_l k _ _ _ _ _

theorem drew_alloc (w : World) (o : Obj) : (w.alloc o).drew = w.drew.alloc o := rfl
/-- The world behind a round's box. -/
theorem bword_mid {w0 wr w3 w4 : World} {g2 gb : Nat} {cells : Array Value} {v : Value} {xs : List S45} {s : ByteArray} {f1 f2 f3 : Int}
  (BX : w3.heap[g2]? = some (.cells #[.string ⟨#[]⟩, .int .i64 0, .int .i64 0, .int .i64 0] 47 (0, 0))) (BB : Below wr.heap.size wr w3) (BS : g2 = wr.heap.size)
  (BK : wr.heap[gb]? = some (.cells cells 53 (0, 0))) (HO : Kd.R k45 45 wr w0.heap.size (fun _ => True) v xs) (HB : Below w0.heap.size w0 wr)
  (hw : w4 = (((w3.setCell ⟨g2, 0, none⟩ (.string s)).setCell ⟨g2, 1, none⟩ (.int .i64 f1)).setCell ⟨g2, 2, none⟩ (.int .i64 f2)).setCell ⟨g2, 3, none⟩ (.int .i64 f3)) :
  w4.heap[g2]? = some (.cells #[.string s, .int .i64 f1, .int .i64 f2, .int .i64 f3] 47 (0, 0)) ∧ w4.heap[gb]? = some (.cells cells 53 (0, 0)) ∧ Kd.R k45 45 w4 w0.heap.size (fun _ => True) v xs ∧ Below w0.heap.size w0 w4 := by
 have n1 : gb ≠ g2 := by rw [BS]; exact Nat.ne_of_lt (blk_lt BK)
 have hs : w0.heap.size ≤ g2 := by rw [BS]; exact HB.size
 have e1 : w4.heap[g2]? = some (.cells #[.string s, .int .i64 f1, .int .i64 f2, .int .i64 f3] 47 (0, 0)) := by
  rw [hw]; exact blk_put (blk_put (blk_put (blk_put BX 0 _ rfl) 1 _ rfl) 2 _ rfl) 3 _ rfl
 have a0 := blk_put (cs' := #[.string s, .int .i64 0, .int .i64 0, .int .i64 0]) BX 0 (.string s) rfl
 have a1 := blk_put (cs' := #[.string s, .int .i64 f1, .int .i64 0, .int .i64 0]) a0 1 (.int .i64 f1) rfl
 have a2 := blk_put (cs' := #[.string s, .int .i64 f1, .int .i64 f2, .int .i64 0]) a1 2 (.int .i64 f2) rfl
 have T : ∀ q, q ∈ 45 :: k45.E → q ≠ 47 := by decide
 refine ⟨e1, ?_, ?_, ?_⟩
 ·rw [hw]; exact blk_far (blk_far (blk_far (blk_far (blk_below BK BB) (p := ⟨g2, 0, none⟩) n1 _) (p := ⟨g2, 1, none⟩) n1 _) (p := ⟨g2, 2, none⟩) n1 _) (p := ⟨g2, 3, none⟩) n1 _
 ·rw [hw]; exact Kd.R_set (Kd.R_set (Kd.R_set (Kd.R_set (Kd.R_below HO BB) BX T 0 _) a0 T 1 _) a1 T 2 _) a2 T 3 _
 ·rw [hw]; exact Below.setCell (Below.setCell (Below.setCell (Below.setCell (below_then HB HB.size BB) hs _) hs _) hs _) hs _

set_option maxHeartbeats 8000000 in
set_option maxRecDepth 100000 in
theorem bword.calls (k : Nat) (w0 w : World) (gb : Nat) (A1 : Option Addr) (c1 : Nat) (l1 : List S47) (m0 m1 m2 m3 m4 : Int) (v5 v6 v7 : Value) (hy wn : Int) (v : Value) (xs r : List S45)
  (hr1 : Kd.C k47 w0 A1 l1.length l1) (hc1 : l1.length ≤ c1)
  (hb : w.heap[gb]? = some (.cells #[.int .i64 m0, .int .i64 m1, .int .i64 m2, .int .i64 m3, .int .i32 m4, v5, v6, v7, .int .i64 hy, .int .i64 wn, v] 53 (0, 0))) (hgb : w0.heap.size ≤ gb)
  (ho : Kd.R k45 45 w w0.heap.size (fun _ => True) v xs) (hB : Below w0.heap.size w0 w) (h : bword.f k l1 hy wn xs = some r) :
  Calls Try.prog 26 #[.pointer (some ⟨gb, 0, none⟩), .slice A1 l1.length c1] w fun e w' => e = .returned (.tuple #[]) ∧ ∃ v', w'.heap[gb]? = some (.cells #[.int .i64 m0, .int .i64 m1, .int .i64 m2, .int .i64 m3, .int .i32 m4, v5, v6, v7, .int .i64 hy, .int .i64 (wrap64 (wn + 1)), v'] 53 (0, 0)) ∧ Kd.R k45 45 w' w0.heap.size (fun _ => True) v' r ∧ Below w0.heap.size w0 w' := by
 have hu45 := Try.underlying45
 have hu47 := Try.underlying47
 have hu53 := Try.underlying53
 have hu23 := Try.underlying23
 have HR1 := Aside0.mk hr1
 have HC1 := Aside0.mk hc1
 have BK := Aside0.mk hb
 have GE := Aside0.mk hgb
 have HO := Aside0.mk ho
 have HB := Aside0.mk hB
 have H' := Aside0.mk (show bword.l0 k l1 hy wn xs 0 = some r from h)
 clear hr1 hc1 hb hgb ho hB h
 go_enter Try.func26, Try.ntmps26
 go_wp2
 go_loopg [8] k (fun kq v8 w' => ∃ (i : Int) (v : Value) (xs : List S45), v8 = .int .i64 i ∧ Aside0 (bword.l0 kq l1 hy wn xs i = some r) ∧ Aside0 (kq ≤ k) ∧ Aside0 (w'.heap[gb]? = some (.cells #[.int .i64 m0, .int .i64 m1, .int .i64 m2, .int .i64 m3, .int .i32 m4, v5, v6, v7, .int .i64 hy, .int .i64 wn, v] 53 (0, 0))) ∧ Aside0 (Kd.R k45 45 w' w0.heap.size (fun _ => True) v xs) ∧ Aside0 (Below w0.heap.size w0 w'))
 case atStart => exact ⟨0, v, xs, rfl, H', ⟨Nat.le_refl _⟩, BK, HO, HB⟩
 case round =>
  clear H' BK HO HB
  obtain ⟨i, v, xs, rfl, HA, HK1, BK, HO, HB⟩ := hrel
  cases gk with
  | zero => exact absurd HA.out (by simp [bword.l0])
  | succ k1 =>
   have H := HA.out
   clear HA
   simp only [bword.l0] at H
   by_cases c5 : i < (l1.length : Int)
   ·rw [if_pos c5] at H
    by_cases c6 : 0 ≤ i
    ·rw [if_pos c6] at H
     by_cases c7 : xs.length + 2 < 1954687338268
     ·rw [if_pos c7] at H
      have LM := Aside0.mk c7
      clear c7
      obtain ⟨ad, e1, hx0, hx1, hx2, hx3⟩ := at_T47 HR1.out i c6 c5
      cases e1
      replace hx0 := (HB.out.cell (World.block_lt_of_cell? w0 _ hx0)).trans hx0
      replace hx1 := (HB.out.cell (World.block_lt_of_cell? w0 _ hx1)).trans hx1
      replace hx2 := (HB.out.cell (World.block_lt_of_cell? w0 _ hx2)).trans hx2
      replace hx3 := (HB.out.cell (World.block_lt_of_cell? w0 _ hx3)).trans hx3
      have c5b := decide_eq_true c5
      replace c6 := eq_true c6
      replace c5 := eq_true c5
      go_upto_region 3 with ((with_reducible refine gate_dst (N := 5) rfl ?_); refine box_event ?hg (N := 5) ?hd (cs := #[.string ⟨#[]⟩, .int .i64 0, .int .i64 0, .int .i64 0]) (t := 47) ?hr ?_; (case hd => rfl); (case hg => rfl); (case hr => first | (go_simp; done) | (go_simp; rfl)); intro g2 hg w3 hbox hb; have BX := Aside0.mk hbox; have BB := Aside0.mk hb; have BS := Aside0.mk hg; clear hb hbox hg; have hg0 : w3.cell? ⟨g2, 0, none⟩ = some (.string ⟨#[]⟩) := (blk_cell BX.out 0).trans rfl; have hh0 := blk_frozen BX.out 0; have hg1 : w3.cell? ⟨g2, 1, none⟩ = some (.int .i64 0) := (blk_cell BX.out 1).trans rfl; have hh1 := blk_frozen BX.out 1; have hg2 : w3.cell? ⟨g2, 2, none⟩ = some (.int .i64 0) := (blk_cell BX.out 2).trans rfl; have hh2 := blk_frozen BX.out 2; have hg3 : w3.cell? ⟨g2, 3, none⟩ = some (.int .i64 0) := (blk_cell BX.out 3).trans rfl; have hh3 := blk_frozen BX.out 3)
      obtain ⟨w4, hw4⟩ : ∃ w4, w4 = (((w3.setCell ⟨g2, 0, none⟩ (.string (rd_T47 l1 i).f0)).setCell ⟨g2, 1, none⟩ (.int .i64 (rd_T47 l1 i).f1)).setCell ⟨g2, 2, none⟩ (.int .i64 (rd_T47 l1 i).f2)).setCell ⟨g2, 3, none⟩ (.int .i64 (rd_T47 l1 i).f3) := ⟨_, rfl⟩
      rw [← hw4]
      have E4 := Aside0.mk (bword_mid BX.out BB.out BS.out BK.out HO.out HB.out hw4)
      have BX4 := Aside0.mk E4.out.1
      have BK4 := Aside0.mk E4.out.2.1
      have HO4 := Aside0.mk E4.out.2.2.1
      have HB4 := Aside0.mk E4.out.2.2.2
      have G2 := Aside0.mk (show w0.heap.size ≤ g2 by rw [BS.out]; exact HB.out.size)
      have NE := Aside0.mk (show g2 ≠ gb by rw [BS.out]; exact Nat.ne_of_gt (blk_lt BK.out))
      clear hw4 hg0 hg1 hg2 hg3 hh0 hh1 hh2 hh3 hx0 hx1 hx2 hx3 E4 BX BB BS BK HO HB
      have H' := Aside0.mk H
      clear H
      go_upto_if 14 with (fail)
      go_cut [] (fun wc => ∃ (v' : Value) (xs' : List S45), Aside0 (xs' = if i > 0 then xs ++ [(⟨2, ⟨hy, 0, 0, 0⟩, 50, true, 0, 0⟩ : S45)] else xs) ∧ Aside0 (wc.heap[gb]? = some (.cells #[.int .i64 m0, .int .i64 m1, .int .i64 m2, .int .i64 m3, .int .i32 m4, v5, v6, v7, .int .i64 hy, .int .i64 wn, v'] 53 (0, 0))) ∧ Aside0 (wc.heap[g2]? = some (.cells #[.string (rd_T47 l1 i).f0, .int .i64 (rd_T47 l1 i).f1, .int .i64 (rd_T47 l1 i).f2, .int .i64 (rd_T47 l1 i).f3] 47 (0, 0))) ∧ Aside0 (Kd.R k45 45 wc w0.heap.size (fun _ => True) v' xs') ∧ Aside0 (Below w0.heap.size w0 wc) ∧ Aside0 (w0.heap.size ≤ g2))
      case first =>
       by_cases c8 : i > 0
       ·have c8b : decide (0 < i) = true := decide_eq_true c8
        have hc8 : w4.cell? ⟨gb, 8, none⟩ = some (.int .i64 hy) := (blk_cell BK4.out 8).trans rfl
        have hc10 : w4.cell? ⟨gb, 10, none⟩ = some v := (blk_cell BK4.out 10).trans rfl
        go_wp2
        have hca : (w4.alloc (.cells #[.int .i64 2, .int .i64 hy, .int .i64 0, .int .i64 0, .int .i64 0, .int .i64 50, .bool true, .int .i64 0, .int .i64 0] 45)).cell? ⟨gb, 10, none⟩ = some v := (blk_cell (blk_alloc BK4.out _) 10).trans rfl
        go_region_law (rw [drew_alloc]; refine Kd.R_append_step k45 (w0 := w0) w0.heap.size (by rfl) (.tmp 19) (.tmp 26) 30 45 (.agg #[.int .i64 0, .int .i64 0, .int .i64 0, .int .i64 0, .int .i64 0, .int .i64 0, .bool false, .int .i64 0, .int .i64 0]) 72 (by rfl) Try.underlying30 info45 rfl (by decide) (by omega) v xs (⟨2, ⟨hy, 0, 0, 0⟩, 50, true, 0, 0⟩ : S45) [.int .i64 2, .int .i64 hy, .int .i64 0, .int .i64 0, .int .i64 0, .int .i64 50, .bool true, .int .i64 0, .int .i64 0] (fun _ => True) (fun _ => False) (by rfl) (by rfl) ?aP (fun _ hk => hk.elim) ?aF ?aO ?aB ?aS ?aL ?_; (case aP => exact k45_mkM _ _ _ (⟨2, ⟨hy, 0, 0, 0⟩, 50, true, 0, 0⟩ : S45)); (case aF => exact fun _ _ => trivial); (case aO => exact (by (with_reducible repeat (first | apply Kd.R_alloc | apply Kd.R_drewN | apply Kd.R_drew)); exact HO4.out)); (case aB => exact (by repeat (first | (with_reducible first | exact HB4.out | apply below_alloc | apply pw_below_drewN | apply below_drew1) | exact HB4.out))); (case aS => exact (below_size (by repeat (first | (with_reducible first | exact HB4.out | apply below_alloc | apply pw_below_drewN | apply below_drew1) | exact HB4.out)))); (case aL => have := LM.out; omega); intro v1 w5 ho hb hg hat; have BK5 := Aside0.mk (blk_grown (g := gb) (o := .cells #[.int .i64 m0, .int .i64 m1, .int .i64 m2, .int .i64 m3, .int .i32 m4, v5, v6, v7, .int .i64 hy, .int .i64 wn, v] 53 (0, 0)) (by (with_reducible repeat (first | refine blk_drewN ?_ _ | refine blk_drew ?_ | refine blk_alloc ?_ _)); exact BK4.out) hg (Kd.R_ne HO4.out BK4.out (by decide))); have BX5 := Aside0.mk (blk_grown (g := g2) (o := .cells #[.string (rd_T47 l1 i).f0, .int .i64 (rd_T47 l1 i).f1, .int .i64 (rd_T47 l1 i).f2, .int .i64 (rd_T47 l1 i).f3] 47 (0, 0)) (by (with_reducible repeat (first | refine blk_drewN ?_ _ | refine blk_drew ?_ | refine blk_alloc ?_ _)); exact BX4.out) hg (Kd.R_ne HO4.out BX4.out (by decide))); have HO5 := Aside0.mk ho; have HB5 := Aside0.mk hb; clear ho hb hg hat; have hd10 : w5.cell? ⟨gb, 10, none⟩ = some v := (blk_cell BK5.out 10).trans rfl; have hf10 := blk_frozen BK5.out 10; obtain ⟨A5, k5, e5⟩ := Kd.R_slice HO5.out; rw [List.length_append] at e5; subst e5)
        all_goals (go_wp2; go_meet; (case rel => exact ⟨_, _, ⟨by rw [if_pos c8]⟩, ⟨blk_put BK5.out 10 _ rfl⟩, ⟨blk_far BX5.out (p := ⟨gb, 10, none⟩) NE.out _⟩, ⟨Kd.R_set HO5.out BK5.out (by decide) 10 _⟩, ⟨Below.setCell HB5.out GE.out _⟩, G2⟩))
       ·have c8b : decide (0 < i) = false := decide_eq_false c8
        have C8 := Aside0.mk c8
        go_wp2
        go_meet
        case rel => exact ⟨v, xs, ⟨by rw [if_neg (show ¬ i > 0 by have := C8.out; omega)]⟩, BK4, BX4, HO4, HB4, G2⟩
      case rest =>
       obtain ⟨v', xs', HX, BKc, BXc, HOc, HBc, _⟩ := hcut
       have H2 : Aside0 (bword.l0 k1 l1 hy wn (xs' ++ [(⟨0, ⟨(rd_T47 l1 i).f1, 0, 0, 0⟩, 0, false, wn, i⟩ : S45)]) (wrap64 (i + 1)) = some r) := ⟨by
        have q := H'.out
        rw [HX.out]
        by_cases c8 : i > 0
        ·rw [if_pos c8] at q ⊢; exact q
        ·rw [if_neg c8] at q ⊢; exact q⟩
       have LMc : Aside0 (xs'.length + 1 < 1954687338268) := ⟨by
        have := LM.out
        rw [HX.out]
        split
        ·rw [List.length_append, List.length_singleton]; omega
        ·omega⟩
       clear H' HX BK4 BX4 HO4 HB4
       have hcx : wc.cell? ⟨g2, 1, none⟩ = some (.int .i64 (rd_T47 l1 i).f1) := (blk_cell BXc.out 1).trans rfl
       have hc9 : wc.cell? ⟨gb, 9, none⟩ = some (.int .i64 wn) := (blk_cell BKc.out 9).trans rfl
       have hc10 : wc.cell? ⟨gb, 10, none⟩ = some v' := (blk_cell BKc.out 10).trans rfl
       go_wp2
       have hca : (wc.alloc (.cells #[.int .i64 0, .int .i64 (rd_T47 l1 i).f1, .int .i64 0, .int .i64 0, .int .i64 0, .int .i64 0, .bool false, .int .i64 wn, .int .i64 i] 45)).cell? ⟨gb, 10, none⟩ = some v' := (blk_cell (blk_alloc BKc.out _) 10).trans rfl
       go_region_law (rw [drew_alloc]; refine Kd.R_append_step k45 (w0 := w0) w0.heap.size (by rfl) (.tmp 34) (.tmp 44) 30 45 (.agg #[.int .i64 0, .int .i64 0, .int .i64 0, .int .i64 0, .int .i64 0, .int .i64 0, .bool false, .int .i64 0, .int .i64 0]) 72 (by rfl) Try.underlying30 info45 rfl (by decide) (by omega) v' xs' (⟨0, ⟨(rd_T47 l1 i).f1, 0, 0, 0⟩, 0, false, wn, i⟩ : S45) [.int .i64 0, .int .i64 (rd_T47 l1 i).f1, .int .i64 0, .int .i64 0, .int .i64 0, .int .i64 0, .bool false, .int .i64 wn, .int .i64 i] (fun _ => True) (fun _ => False) (by rfl) (by rfl) ?aP (fun _ hk => hk.elim) ?aF ?aO ?aB ?aS ?aL ?_; (case aP => exact k45_mkM _ _ _ (⟨0, ⟨(rd_T47 l1 i).f1, 0, 0, 0⟩, 0, false, wn, i⟩ : S45)); (case aF => exact fun _ _ => trivial); (case aO => exact (by (with_reducible repeat (first | apply Kd.R_alloc | apply Kd.R_drewN | apply Kd.R_drew)); exact HOc.out)); (case aB => exact (by repeat (first | (with_reducible first | exact HBc.out | apply below_alloc | apply pw_below_drewN | apply below_drew1) | exact HBc.out))); (case aS => exact (below_size (by repeat (first | (with_reducible first | exact HBc.out | apply below_alloc | apply pw_below_drewN | apply below_drew1) | exact HBc.out)))); (case aL => have := LMc.out; omega); intro v1 w5 ho hb hg hat; have BK5 := Aside0.mk (blk_grown (g := gb) (o := .cells #[.int .i64 m0, .int .i64 m1, .int .i64 m2, .int .i64 m3, .int .i32 m4, v5, v6, v7, .int .i64 hy, .int .i64 wn, v'] 53 (0, 0)) (by (with_reducible repeat (first | refine blk_drewN ?_ _ | refine blk_drew ?_ | refine blk_alloc ?_ _)); exact BKc.out) hg (Kd.R_ne HOc.out BKc.out (by decide))); have HO5 := Aside0.mk ho; have HB5 := Aside0.mk hb; clear ho hb hg hat; have hd10 : w5.cell? ⟨gb, 10, none⟩ = some v' := (blk_cell BK5.out 10).trans rfl; have hf10 := blk_frozen BK5.out 10; obtain ⟨A5, k5, e5⟩ := Kd.R_slice HO5.out; rw [List.length_append] at e5; subst e5)
       all_goals (go_wp2; go_roundg k1; (case measure => omega); (case rel => exact ⟨_, _, _, rfl, H2, ⟨by have := HK1.out; omega⟩, ⟨blk_put BK5.out 10 _ rfl⟩, ⟨Kd.R_set HO5.out BK5.out (by decide) 10 _⟩, ⟨Below.setCell HB5.out GE.out _⟩⟩))
     ·rw [if_neg c7] at H
      exact absurd H (by simp)
    ·rw [if_neg c6] at H
     exact absurd H (by simp)
   ·rw [if_neg c5] at H
    obtain rfl := Option.some.inj H
    have hc9 : wr.cell? ⟨gb, 9, none⟩ = some (.int .i64 wn) := (blk_cell BK.out 9).trans rfl
    have hf9 := blk_frozen BK.out 9
    have c5b := decide_eq_false c5
    replace c5 := eq_false c5
    go_wp2
    go_end0
    exact ⟨rfl, v, blk_put BK.out 9 _ rfl, Kd.R_set HO.out BK.out (by decide) 9 _, Below.setCell HB.out GE.out _⟩

/-! ### item_builder_line: function 16 -/
def rd_W (xs : List (List S47)) (i : Int) : List S47 := xs.getD i.toNat []
theorem at_W {w : World} {A : Option Addr} {n : Nat} {xs : List (List S47)} (h : Kd.C (Kd.slice 47 k47) w A n xs) (i : Int) (h0 : 0 ≤ i) (h1 : i < n) : ∃ ad A0 c0, A = some ad ∧ w.cell? (ad.add i.toNat) = some (.slice A0 (rd_W xs i).length c0) ∧ (rd_W xs i).length ≤ c0 ∧ (k47).C w A0 (rd_W xs i).length (rd_W xs i) := by
 obtain ⟨ad, c, e, _, hK, hc0⟩ := Kd.C_get h ([] : List S47) i h0 h1
 have hc : ∀ j u, c[j]? = some u → w.cell? (ad.add (i.toNat * 1 + j)) = some u := hc0
 obtain ⟨A0, c0, rfl, l0, g0⟩ := hK
 exact ⟨ad, A0, c0, e, by have hq := hc 0 _ rfl; rwa [Nat.mul_one, Nat.add_zero] at hq, l0, g0⟩
def rd_V (xs : List (List (List S47))) (i : Int) : List (List S47) := xs.getD i.toNat []
theorem at_V {w : World} {A : Option Addr} {n : Nat} {xs : List (List (List S47))} (h : Kd.C (Kd.slice 43 (Kd.slice 47 k47)) w A n xs) (i : Int) (h0 : 0 ≤ i) (h1 : i < n) : ∃ ad A0 c0, A = some ad ∧ w.cell? (ad.add i.toNat) = some (.slice A0 (rd_V xs i).length c0) ∧ (rd_V xs i).length ≤ c0 ∧ (Kd.slice 47 k47).C w A0 (rd_V xs i).length (rd_V xs i) := by
 obtain ⟨ad, c, e, _, hK, hc0⟩ := Kd.C_get h ([] : List (List S47)) i h0 h1
 have hc : ∀ j u, c[j]? = some u → w.cell? (ad.add (i.toNat * 1 + j)) = some u := hc0
 obtain ⟨A0, c0, rfl, l0, g0⟩ := hK
 exact ⟨ad, A0, c0, e, by have hq := hc 0 _ rfl; rwa [Nat.mul_one, Nat.add_zero] at hq, l0, g0⟩
def bends : List S45 := [(⟨2, (⟨0, 0, 0, 0⟩ : S23), 10000, false, 0, 0⟩ : S45), (⟨1, (⟨0, 65536, 0, 1⟩ : S23), 0, false, 0, 0⟩ : S45), (⟨2, (⟨0, 0, 0, 0⟩ : S23), (-10000), false, 0, 0⟩ : S45)]
def bline.l0 : Nat → List (List S47) → Int → Int → Int → Int → Int → Int → List S45 → Int → Option (List S45 × Int)
 | 0, _, _, _, _, _, _, _, _, _ => none
 | k + 1, ps, m0, m1, m2, m3, hy, wn, xs, i => if i < (ps.length : Int) then (if 0 ≤ i then (if xs.length + 1 < 1954687338268 then ((bword.f k (rd_W ps i) hy wn (if i > 0 then xs ++ [(⟨1, ⟨m0, m1, m2, m3⟩, 0, false, 0, 0⟩ : S45)] else xs)).bind fun ys => bline.l0 k ps m0 m1 m2 m3 hy (wrap64 (wn + 1)) ys (wrap64 (i + 1))) else none) else none) else (if xs.length + 3 < 1954687338268 then some (xs ++ bends, wn) else none)
def bline.f (k : Nat) (ps : List (List S47)) (m0 m1 m2 m3 hy wn : Int) (xs : List S45) : Option (List S45 × Int) := bline.l0 k ps m0 m1 m2 m3 hy wn xs 0
theorem bline.mono_l : ∀ k ps m0 m1 m2 m3 hy wn xs i, LeO (bline.l0 k ps m0 m1 m2 m3 hy wn xs i) (bline.l0 (k + 1) ps m0 m1 m2 m3 hy wn xs i)
 | 0 => fun _ _ _ _ _ _ _ _ _ r h => by simp [bline.l0] at h
 | k + 1 => by
  intro ps m0 m1 m2 m3 hy wn xs i
  have ih := bline.mono_l k
  unfold bline.l0
  exact LeO.ite (LeO.ite (LeO.ite (LeO.bind (bword.mono _ _ _ _ _) (fun _ => ih _ _ _ _ _ _ _ _ _)) (LeO.refl _)) (LeO.refl _)) (LeO.refl _)
theorem bline.mono (ps : List (List S47)) (m0 m1 m2 m3 hy wn : Int) (xs : List S45) (k : Nat) : LeO (bline.f k ps m0 m1 m2 m3 hy wn xs) (bline.f (k + 1) ps m0 m1 m2 m3 hy wn xs) := bline.mono_l k _ _ _ _ _ _ _ _ _
/-- The three items of a line's end, as they lie in a new block. -/
theorem bends_reads (W : World) : Kd.C k45 (W.alloc (.cells #[.int .i64 2, .int .i64 0, .int .i64 0, .int .i64 0, .int .i64 0, .int .i64 10000, .bool false, .int .i64 0, .int .i64 0, .int .i64 1, .int .i64 0, .int .i64 65536, .int .i64 0, .int .i64 1, .int .i64 0, .bool false, .int .i64 0, .int .i64 0, .int .i64 2, .int .i64 0, .int .i64 0, .int .i64 0, .int .i64 0, .int .i64 (-10000), .bool false, .int .i64 0, .int .i64 0] 45)) (some ⟨W.heap.size, 0, none⟩) 3 bends := by
 have h : Kd.R k45 45 (W.alloc (.cells #[.int .i64 2, .int .i64 0, .int .i64 0, .int .i64 0, .int .i64 0, .int .i64 10000, .bool false, .int .i64 0, .int .i64 0, .int .i64 1, .int .i64 0, .int .i64 65536, .int .i64 0, .int .i64 1, .int .i64 0, .bool false, .int .i64 0, .int .i64 0, .int .i64 2, .int .i64 0, .int .i64 0, .int .i64 0, .int .i64 0, .int .i64 (-10000), .bool false, .int .i64 0, .int .i64 0] 45)) W.heap.size (fun _ => True) (.slice (some ⟨W.heap.size, 0, none⟩) 3 3) bends := by
  refine ⟨fun _ _ => trivial, [.int .i64 2, .int .i64 0, .int .i64 0, .int .i64 0, .int .i64 0, .int .i64 10000, .bool false, .int .i64 0, .int .i64 0, .int .i64 1, .int .i64 0, .int .i64 65536, .int .i64 0, .int .i64 1, .int .i64 0, .bool false, .int .i64 0, .int .i64 0, .int .i64 2, .int .i64 0, .int .i64 0, .int .i64 0, .int .i64 0, .int .i64 (-10000), .bool false, .int .i64 0, .int .i64 0], ?_, ?_⟩
  ·exact World.ownsRow_lit (base := W.heap.size) (e := 45) (size := 9) W #[.int .i64 2, .int .i64 0, .int .i64 0, .int .i64 0, .int .i64 0, .int .i64 10000, .bool false, .int .i64 0, .int .i64 0, .int .i64 1, .int .i64 0, .int .i64 65536, .int .i64 0, .int .i64 1, .int .i64 0, .bool false, .int .i64 0, .int .i64 0, .int .i64 2, .int .i64 0, .int .i64 0, .int .i64 0, .int .i64 0, .int .i64 (-10000), .bool false, .int .i64 0, .int .i64 0] 3 (Nat.le_refl _) (by simp [maxLen]) (by simp)
  ·exact Reps.c9 (show Kd.M k45 _ _ _ (⟨2, (⟨0, 0, 0, 0⟩ : S23), 10000, false, 0, 0⟩ : S45) [.int .i64 2, .int .i64 0, .int .i64 0, .int .i64 0, .int .i64 0, .int .i64 10000, .bool false, .int .i64 0, .int .i64 0] from k45_mkM _ _ _ (⟨2, (⟨0, 0, 0, 0⟩ : S23), 10000, false, 0, 0⟩ : S45)) (Reps.c9 (show Kd.M k45 _ _ _ (⟨1, (⟨0, 65536, 0, 1⟩ : S23), 0, false, 0, 0⟩ : S45) [.int .i64 1, .int .i64 0, .int .i64 65536, .int .i64 0, .int .i64 1, .int .i64 0, .bool false, .int .i64 0, .int .i64 0] from k45_mkM _ _ _ (⟨1, (⟨0, 65536, 0, 1⟩ : S23), 0, false, 0, 0⟩ : S45)) (Reps.c9 (show Kd.M k45 _ _ _ (⟨2, (⟨0, 0, 0, 0⟩ : S23), (-10000), false, 0, 0⟩ : S45) [.int .i64 2, .int .i64 0, .int .i64 0, .int .i64 0, .int .i64 0, .int .i64 (-10000), .bool false, .int .i64 0, .int .i64 0] from k45_mkM _ _ _ (⟨2, (⟨0, 0, 0, 0⟩ : S23), (-10000), false, 0, 0⟩ : S45)) (Reps.none _ _)))
 exact (Kd.R_reads' h).2.2

set_option maxHeartbeats 8000000 in
set_option maxRecDepth 100000 in
theorem bline.calls (k : Nat) (w0 w : World) (gb : Nat) (A1 : Option Addr) (c1 : Nat) (l1 : List (List S47)) (m0 m1 m2 m3 m4 : Int) (v5 v6 v7 : Value) (hy wn : Int) (v : Value) (xs r : List S45) (wn' : Int)
  (hr1 : Kd.C (Kd.slice 47 k47) w0 A1 l1.length l1) (hc1 : l1.length ≤ c1)
  (hb : w.heap[gb]? = some (.cells #[.int .i64 m0, .int .i64 m1, .int .i64 m2, .int .i64 m3, .int .i32 m4, v5, v6, v7, .int .i64 hy, .int .i64 wn, v] 53 (0, 0))) (hgb : w0.heap.size ≤ gb)
  (ho : Kd.R k45 45 w w0.heap.size (fun _ => True) v xs) (hB : Below w0.heap.size w0 w) (h : bline.f k l1 m0 m1 m2 m3 hy wn xs = some (r, wn')) :
  Calls Try.prog 16 #[.pointer (some ⟨gb, 0, none⟩), .slice A1 l1.length c1] w fun e w' => e = .returned (.tuple #[]) ∧ ∃ v', w'.heap[gb]? = some (.cells #[.int .i64 m0, .int .i64 m1, .int .i64 m2, .int .i64 m3, .int .i32 m4, v5, v6, v7, .int .i64 hy, .int .i64 wn', v'] 53 (0, 0)) ∧ Kd.R k45 45 w' w0.heap.size (fun _ => True) v' r ∧ Below w0.heap.size w0 w' := by
 have hu45 := Try.underlying45
 have hu53 := Try.underlying53
 have hu23 := Try.underlying23
 have hu28 := Try.underlying28
 have HR1 := Aside0.mk hr1
 have HC1 := Aside0.mk hc1
 have BK := Aside0.mk hb
 have GE := Aside0.mk hgb
 have HO := Aside0.mk ho
 have HB := Aside0.mk hB
 have H' := Aside0.mk (show bline.l0 k l1 m0 m1 m2 m3 hy wn xs 0 = some (r, wn') from h)
 clear hr1 hc1 hb hgb ho hB h
 go_enter Try.func16, Try.ntmps16
 go_wp2
 go_loopg [8] k (fun kq v8 w' => ∃ (i : Int) (v : Value) (xs : List S45) (wn : Int), v8 = .int .i64 i ∧ Aside0 (bline.l0 kq l1 m0 m1 m2 m3 hy wn xs i = some (r, wn')) ∧ Aside0 (kq ≤ k) ∧ Aside0 (w'.heap[gb]? = some (.cells #[.int .i64 m0, .int .i64 m1, .int .i64 m2, .int .i64 m3, .int .i32 m4, v5, v6, v7, .int .i64 hy, .int .i64 wn, v] 53 (0, 0))) ∧ Aside0 (Kd.R k45 45 w' w0.heap.size (fun _ => True) v xs) ∧ Aside0 (Below w0.heap.size w0 w'))
 case atStart => exact ⟨0, v, xs, wn, rfl, H', ⟨Nat.le_refl _⟩, BK, HO, HB⟩
 case round =>
  clear H' BK HO HB
  obtain ⟨i, v, xs, wn, rfl, HA, HK1, BK, HO, HB⟩ := hrel
  cases gk with
  | zero => exact absurd HA.out (by simp [bline.l0])
  | succ k1 =>
   have H := HA.out
   clear HA
   simp only [bline.l0] at H
   by_cases c5 : i < (l1.length : Int)
   ·rw [if_pos c5] at H
    by_cases c6 : 0 ≤ i
    ·rw [if_pos c6] at H
     by_cases c7 : xs.length + 1 < 1954687338268
     ·rw [if_pos c7] at H
      have LM := Aside0.mk c7
      clear c7
      obtain ⟨ys, A50, H⟩ := Option.bind_eq_some_iff.mp H
      have A5_ := Aside0.mk A50
      clear A50
      have H' := Aside0.mk H
      clear H
      obtain ⟨ad, A2, c2, e1, hx0, hl0, hi0⟩ := at_W HR1.out i c6 c5
      cases e1
      have HL := Aside0.mk hl0
      have HI := Aside0.mk hi0
      clear hl0 hi0
      replace hx0 := (HB.out.cell (World.block_lt_of_cell? w0 _ hx0)).trans hx0
      have c5b := decide_eq_true c5
      replace c6 := eq_true c6
      replace c5 := eq_true c5
      go_upto_if 14 with (fail)
      go_cut [] (fun wc => ∃ (v' : Value), Aside0 (wc.heap[gb]? = some (.cells #[.int .i64 m0, .int .i64 m1, .int .i64 m2, .int .i64 m3, .int .i32 m4, v5, v6, v7, .int .i64 hy, .int .i64 wn, v'] 53 (0, 0))) ∧ Aside0 (Kd.R k45 45 wc w0.heap.size (fun _ => True) v' (if i > 0 then xs ++ [(⟨1, ⟨m0, m1, m2, m3⟩, 0, false, 0, 0⟩ : S45)] else xs)) ∧ Aside0 (Below w0.heap.size w0 wc))
      case first =>
       by_cases c8 : i > 0
       ·have c8b : decide (0 < i) = true := decide_eq_true c8
        have C8 := Aside0.mk c8
        have hc0 : wr.cell? ⟨gb, 0, none⟩ = some (.int .i64 m0) := (blk_cell BK.out 0).trans rfl
        have hc1 : wr.cell? ⟨gb, 1, none⟩ = some (.int .i64 m1) := (blk_cell BK.out 1).trans rfl
        have hc2 : wr.cell? ⟨gb, 2, none⟩ = some (.int .i64 m2) := (blk_cell BK.out 2).trans rfl
        have hc3 : wr.cell? ⟨gb, 3, none⟩ = some (.int .i64 m3) := (blk_cell BK.out 3).trans rfl
        have hc10 : wr.cell? ⟨gb, 10, none⟩ = some v := (blk_cell BK.out 10).trans rfl
        go_wp2
        have hca : (wr.alloc (.cells #[.int .i64 1, .int .i64 m0, .int .i64 m1, .int .i64 m2, .int .i64 m3, .int .i64 0, .bool false, .int .i64 0, .int .i64 0] 45)).cell? ⟨gb, 10, none⟩ = some v := (blk_cell (blk_alloc BK.out _) 10).trans rfl
        go_region_law (rw [drew_alloc]; refine Kd.R_append_step k45 (w0 := w0) w0.heap.size (by rfl) (.tmp 19) (.tmp 26) 30 45 (.agg #[.int .i64 0, .int .i64 0, .int .i64 0, .int .i64 0, .int .i64 0, .int .i64 0, .bool false, .int .i64 0, .int .i64 0]) 72 (by rfl) Try.underlying30 info45 rfl (by decide) (by omega) v xs (⟨1, ⟨m0, m1, m2, m3⟩, 0, false, 0, 0⟩ : S45) [.int .i64 1, .int .i64 m0, .int .i64 m1, .int .i64 m2, .int .i64 m3, .int .i64 0, .bool false, .int .i64 0, .int .i64 0] (fun _ => True) (fun _ => False) (by rfl) (by rfl) ?aP (fun _ hk => hk.elim) ?aF ?aO ?aB ?aS ?aL ?_; (case aP => exact k45_mkM _ _ _ (⟨1, ⟨m0, m1, m2, m3⟩, 0, false, 0, 0⟩ : S45)); (case aF => exact fun _ _ => trivial); (case aO => exact (by (with_reducible repeat (first | apply Kd.R_alloc | apply Kd.R_drewN | apply Kd.R_drew)); exact HO.out)); (case aB => exact (by repeat (first | (with_reducible first | exact HB.out | apply below_alloc | apply pw_below_drewN | apply below_drew1) | exact HB.out))); (case aS => exact (below_size (by repeat (first | (with_reducible first | exact HB.out | apply below_alloc | apply pw_below_drewN | apply below_drew1) | exact HB.out)))); (case aL => have := LM.out; omega); intro v1 w5 ho hb hg hat; have BK5 := Aside0.mk (blk_grown (g := gb) (o := .cells #[.int .i64 m0, .int .i64 m1, .int .i64 m2, .int .i64 m3, .int .i32 m4, v5, v6, v7, .int .i64 hy, .int .i64 wn, v] 53 (0, 0)) (by (with_reducible repeat (first | refine blk_drewN ?_ _ | refine blk_drew ?_ | refine blk_alloc ?_ _)); exact BK.out) hg (Kd.R_ne HO.out BK.out (by decide))); have HO5 := Aside0.mk ho; have HB5 := Aside0.mk hb; clear ho hb hg hat; have hd10 : w5.cell? ⟨gb, 10, none⟩ = some v := (blk_cell BK5.out 10).trans rfl; have hf10 := blk_frozen BK5.out 10; obtain ⟨A5, k5, e5⟩ := Kd.R_slice HO5.out; rw [List.length_append] at e5; subst e5)

        all_goals (go_wp2; go_meet; (case rel => exact ⟨_, ⟨blk_put BK5.out 10 _ rfl⟩, ⟨by rw [if_pos (show i > 0 from C8.out)]; exact Kd.R_set HO5.out BK5.out (by decide) 10 _⟩, ⟨Below.setCell HB5.out GE.out _⟩⟩))
       ·have c8b : decide (0 < i) = false := decide_eq_false c8
        have C8 := Aside0.mk c8b
        go_wp2
        go_meet
        case rel => exact ⟨v, BK, ⟨by rw [if_neg (show ¬ i > 0 from of_decide_eq_false C8.out)]; exact HO.out⟩, HB⟩
      case rest =>
       obtain ⟨v', BKc, HOc, HBc⟩ := hcut
       clear BK HO HB
       go_wp2_with (go_at_call 26; refine (bword.calls k1 w0 wc gb A2 c2 (rd_W l1 i) m0 m1 m2 m3 m4 v5 v6 v7 hy wn v' _ ys HI.out HL.out BKc.out GE.out HOc.out HBc.out A5_.out).mono ?_; rintro e w6 ⟨rfl, v2, hb, ho, hB⟩; have BK6 := Aside0.mk hb; have HO6 := Aside0.mk ho; have HB6 := Aside0.mk hB; clear hb ho hB)
       go_roundg k1
       case measure => omega
       case rel => exact ⟨_, v2, ys, _, rfl, H', ⟨by have := HK1.out; omega⟩, BK6, HO6, HB6⟩
     ·rw [if_neg c7] at H
      exact absurd H (by simp)
    ·rw [if_neg c6] at H
     exact absurd H (by simp)
   ·rw [if_neg c5] at H
    by_cases c7 : xs.length + 3 < 1954687338268
    ·rw [if_pos c7] at H
     have LM := Aside0.mk c7
     clear c7
     simp only [Option.some.injEq, Prod.mk.injEq] at H
     obtain ⟨rfl, rfl⟩ := H
     have hc10 : wr.cell? ⟨gb, 10, none⟩ = some v := (blk_cell BK.out 10).trans rfl
     have c5b := decide_eq_false c5
     replace c5 := eq_false c5
     go_wp2_with ((with_reducible refine gate_builtin (b := .append) (xs := #[.tmp 38, .tmp 43]) rfl ?_); at_builtin; refine Kd.R_append_rows k45 (w0 := w0) w0.heap.size rfl (.tmp 38) (.tmp 43) 30 45 (.agg #[.int .i64 0, .int .i64 0, .int .i64 0, .int .i64 0, .int .i64 0, .int .i64 0, .bool false, .int .i64 0, .int .i64 0]) 72 rfl Try.underlying30 info45 rfl (by decide) (by omega) v xs bends _ 3 3 (fun _ => True) (fun _ => False) rfl rfl ?aO (bends_reads _) (fun _ _ h => h) (fun _ hk => hk.elim) ?aF ?aB ?aS ?aL ?_; (case aF => exact fun _ _ => trivial); (case aO => exact (by (with_reducible repeat (first | apply Kd.R_alloc | apply Kd.R_drewN | apply Kd.R_drew)); exact HO.out)); (case aB => exact (by repeat (first | (with_reducible first | exact HB.out | apply below_alloc | apply pw_below_drewN | apply below_drew1) | exact HB.out))); (case aS => exact (below_size (by repeat (first | (with_reducible first | exact HB.out | apply below_alloc | apply pw_below_drewN | apply below_drew1) | exact HB.out)))); (case aL => have := LM.out; omega); intro v1 w5 ho hb hg hat; have BK5 := Aside0.mk (blk_grown (g := gb) (o := .cells #[.int .i64 m0, .int .i64 m1, .int .i64 m2, .int .i64 m3, .int .i32 m4, v5, v6, v7, .int .i64 hy, .int .i64 wn, v] 53 (0, 0)) (by (with_reducible repeat (first | refine blk_drewN ?_ _ | refine blk_drew ?_ | refine blk_alloc ?_ _)); exact BK.out) hg (Kd.R_ne HO.out BK.out (by decide))); have HO5 := Aside0.mk ho; have HB5 := Aside0.mk hb; clear ho hb hg hat; have hd10 : w5.cell? ⟨gb, 10, none⟩ = some v := (blk_cell BK5.out 10).trans rfl; have hf10 := blk_frozen BK5.out 10; obtain ⟨A5, k5, e5⟩ := Kd.R_slice HO5.out; rw [List.length_append] at e5; subst e5)

     (go_end0; exact ⟨rfl, _, blk_put BK5.out 10 _ rfl, Kd.R_set HO5.out BK5.out (by decide) 10 _, Below.setCell HB5.out GE.out _⟩)
    ·rw [if_neg c7] at H
     exact absurd H (by simp)

/-! ### item_builder_done: function 17 -/
def bdone.f (k : Nat) (xs : List S45) : Option (List S45 × Int × Int) := (item_May.f k xs).bind fun t => if t = true then some (xs, 0, 0) else some ([], 90, 0)
theorem bdone.mono (xs : List S45) (k : Nat) : LeO (bdone.f k xs) (bdone.f (k + 1) xs) := by
 unfold bdone.f
 exact LeO.bind (item_May.mono _ _) (fun _ => LeO.refl _)
set_option maxHeartbeats 8000000 in
set_option maxRecDepth 100000 in
theorem bdone.calls (k : Nat) (w0 w : World) (gb : Nat) (m0 m1 m2 m3 m4 : Int) (v5 v6 v7 : Value) (hy wn : Int) (v : Value) (xs r1 : List S45) (r2 r3 : Int)
  (hb : w.heap[gb]? = some (.cells #[.int .i64 m0, .int .i64 m1, .int .i64 m2, .int .i64 m3, .int .i32 m4, v5, v6, v7, .int .i64 hy, .int .i64 wn, v] 53 (0, 0)))
  (ho : Kd.R k45 45 w w0.heap.size (fun _ => True) v xs) (hB : Below w0.heap.size w0 w) (h : bdone.f k xs = some (r1, r2, r3)) :
  Calls Try.prog 17 #[.pointer (some ⟨gb, 0, none⟩)] w fun e w' => ∃ v0 : Value, e = .returned (.tuple #[v0, .agg #[.int .i64 r2, .int .i64 r3]]) ∧ Kd.R k45 45 w' w0.heap.size (fun _ => True) v0 r1 ∧ Below w0.heap.size w0 w' := by
 have hu33 := Try.underlying33
 have hu53 := Try.underlying53
 obtain ⟨A9, k9, e9⟩ := Kd.R_slice ho
 subst e9
 have BK := Aside0.mk hb
 have HO := Aside0.mk ho
 have HB := Aside0.mk hB
 obtain ⟨t, A50, H⟩ := Option.bind_eq_some_iff.mp (show ((item_May.f k xs).bind fun t => if t = true then some (xs, 0, 0) else some ([], 90, 0)) = some (r1, r2, r3) from h)
 have A5_ := Aside0.mk A50
 clear A50 hb ho hB h
 cases t with
 | false =>
  rw [if_neg (by decide)] at H
  simp only [Option.some.injEq, Prod.mk.injEq] at H
  obtain ⟨rfl, rfl, rfl⟩ := H
  go_enter Try.func17, Try.ntmps17
  go_wp2_with (first | ((with_reducible refine gate_dst (N := 3) rfl ?_); refine box_event ?hg (N := 3) ?hd (cs := #[.int .i64 0, .int .i64 0]) (t := 33) ?hr ?_; (case hd => rfl); (case hg => rfl); (case hr => first | (go_simp; done) | (go_simp; rfl)); intro gr hg w3 hbox hb; have BR := Aside0.mk hbox; have BK3 := Aside0.mk (blk_below BK.out hb); have HO3 := Aside0.mk (Kd.R_below HO.out hb); have HB3 := Aside0.mk (below_then HB.out HB.out.size hb); have GR := Aside0.mk (show w0.heap.size ≤ gr by rw [hg]; exact HB.out.size); clear hb hbox hg; have hc10 : w3.cell? ⟨gb, 10, none⟩ = some (.slice A9 xs.length k9) := (blk_cell BK3.out 10).trans rfl) | (go_at_call 12; refine (item_May.calls k A9 k9 xs false w3 (Kd.R_reads' HO3.out).2.2 (Kd.R_reads' HO3.out).2.1 A5_.out).mono ?_; rintro e w4 ⟨rfl, hb⟩; have BR4 := Aside0.mk (blk_below BR.out hb); have BK4 := Aside0.mk (blk_below BK3.out hb); have HO4 := Aside0.mk (Kd.R_below HO3.out hb); have HB4 := Aside0.mk (below_then HB3.out HB3.out.size hb); clear hb; have hd10 : w4.cell? ⟨gb, 10, none⟩ = some (.slice A9 xs.length k9) := (blk_cell BK4.out 10).trans rfl; have hz0 : w4.cell? ⟨gr, 0, none⟩ = some (.int .i64 0) := (blk_cell BR4.out 0).trans rfl; have hf0 := blk_frozen BR4.out 0; have hz1 : w4.cell? ⟨gr, 1, none⟩ = some (.int .i64 0) := (blk_cell BR4.out 1).trans rfl; have hf1 := blk_frozen BR4.out 1))
  refine bodyPost_ret (results_tc rfl _ _ gr 33 #[.int .i64 90, .int .i64 0] (0, 0) _ rfl (blk_put (cs := #[.int .i64 90, .int .i64 0]) (blk_put BR4.out 0 _ rfl) 1 _ rfl) Try.underlying33 rfl (by kernel_rfl)) rfl ?_
  exact ⟨_, rfl, Kd.R_nil _ _ _ _ _, Below.setCell (Below.setCell HB4.out GR.out _) GR.out _⟩
 | true =>
  rw [if_pos rfl] at H
  simp only [Option.some.injEq, Prod.mk.injEq] at H
  obtain ⟨rfl, rfl, rfl⟩ := H
  go_enter Try.func17, Try.ntmps17
  go_wp2_with (first | ((with_reducible refine gate_dst (N := 3) rfl ?_); refine box_event ?hg (N := 3) ?hd (cs := #[.int .i64 0, .int .i64 0]) (t := 33) ?hr ?_; (case hd => rfl); (case hg => rfl); (case hr => first | (go_simp; done) | (go_simp; rfl)); intro gr hg w3 hbox hb; have BR := Aside0.mk hbox; have BK3 := Aside0.mk (blk_below BK.out hb); have HO3 := Aside0.mk (Kd.R_below HO.out hb); have HB3 := Aside0.mk (below_then HB.out HB.out.size hb); have GR := Aside0.mk (show w0.heap.size ≤ gr by rw [hg]; exact HB.out.size); clear hb hbox hg; have hc10 : w3.cell? ⟨gb, 10, none⟩ = some (.slice A9 xs.length k9) := (blk_cell BK3.out 10).trans rfl) | (go_at_call 12; refine (item_May.calls k A9 k9 xs true w3 (Kd.R_reads' HO3.out).2.2 (Kd.R_reads' HO3.out).2.1 A5_.out).mono ?_; rintro e w4 ⟨rfl, hb⟩; have BR4 := Aside0.mk (blk_below BR.out hb); have BK4 := Aside0.mk (blk_below BK3.out hb); have HO4 := Aside0.mk (Kd.R_below HO3.out hb); have HB4 := Aside0.mk (below_then HB3.out HB3.out.size hb); clear hb; have hd10 : w4.cell? ⟨gb, 10, none⟩ = some (.slice A9 xs.length k9) := (blk_cell BK4.out 10).trans rfl; have hz0 : w4.cell? ⟨gr, 0, none⟩ = some (.int .i64 0) := (blk_cell BR4.out 0).trans rfl; have hf0 := blk_frozen BR4.out 0; have hz1 : w4.cell? ⟨gr, 1, none⟩ = some (.int .i64 0) := (blk_cell BR4.out 1).trans rfl; have hf1 := blk_frozen BR4.out 1))
  refine bodyPost_ret (results_tc rfl _ _ gr 33 #[.int .i64 0, .int .i64 0] (0, 0) _ rfl (blk_put (cs := #[.int .i64 0, .int .i64 0]) (blk_put BR4.out 0 _ rfl) 1 _ rfl) Try.underlying33 rfl (by kernel_rfl)) rfl ?_
  exact ⟨_, rfl, Kd.R_set (Kd.R_set HO4.out BR4.out (by decide) 0 _) (blk_put (cs' := #[.int .i64 0, .int .i64 0]) BR4.out 0 _ rfl) (by decide) 1 _, Below.setCell (Below.setCell HB4.out GR.out _) GR.out _⟩
/-! ### item_Verse: function 7 -/
def item_Verse.l0 : Nat → List (List (List S47)) → Int → Int → Int → Int → Int → Int → List S45 → Int → Option (List S45 × Int × Int)
 | 0, _, _, _, _, _, _, _, _, _ => none
 | k + 1, ls, m0, m1, m2, m3, hy, wn, xs, i => if i < (ls.length : Int) then (if 0 ≤ i then (bline.f k (rd_V ls i) m0 m1 m2 m3 hy wn xs).bind fun t => item_Verse.l0 k ls m0 m1 m2 m3 hy t.2 t.1 (wrap64 (i + 1)) else none) else bdone.f k xs
def item_Verse.f (k : Nat) (a0_0 a0_1 a0_2 a0_3 a0_4 : Int) (l0_5 : List S85) (l0_6 : List S87) (l0_7 : List S89) (a1 : Int) (l2 : List (List (List S47))) : Option (List S45 × Int × Int) := item_Verse.l0 k l2 a0_0 a0_1 a0_2 a0_3 a1 0 [] 0
theorem item_Verse.mono_l : ∀ k ls m0 m1 m2 m3 hy wn xs i, LeO (item_Verse.l0 k ls m0 m1 m2 m3 hy wn xs i) (item_Verse.l0 (k + 1) ls m0 m1 m2 m3 hy wn xs i)
 | 0 => fun _ _ _ _ _ _ _ _ _ r h => by simp [item_Verse.l0] at h
 | k + 1 => by
  intro ls m0 m1 m2 m3 hy wn xs i
  have ih := item_Verse.mono_l k
  unfold item_Verse.l0
  exact LeO.ite (LeO.ite (LeO.bind (bline.mono _ _ _ _ _ _ _ _ _) (fun _ => ih _ _ _ _ _ _ _ _ _)) (LeO.refl _)) (bdone.mono _ _)
theorem item_Verse.mono : ∀ a0 a1 a2 a3 a4 a5 a6 a7 a8 a9 k, LeO (item_Verse.f k a0 a1 a2 a3 a4 a5 a6 a7 a8 a9) (item_Verse.f (k + 1) a0 a1 a2 a3 a4 a5 a6 a7 a8 a9) := by
 intro a0 a1 a2 a3 a4 a5 a6 a7 a8 a9 k
 exact item_Verse.mono_l k _ _ _ _ _ _ _ _ _
set_option maxHeartbeats 8000000 in
set_option maxRecDepth 100000 in
theorem item_Verse.calls (k : Nat) (a0_0 : Int) (a0_1 : Int) (a0_2 : Int) (a0_3 : Int) (a0_4 : Int) (A0_5 : Option Addr) (c0_5 : Nat) (l0_5 : List (S85)) (A0_6 : Option Addr) (c0_6 : Nat) (l0_6 : List (S87)) (A0_7 : Option Addr) (c0_7 : Nat) (l0_7 : List (S89)) (a1 : Int) (A2 : Option Addr) (c2 : Nat) (l2 : List (List (List (S47)))) (r1 : List (S45)) (r2 : Int) (r3 : Int) (w : World) (hr0_5 : Kd.C k85 w A0_5 l0_5.length l0_5) (hc0_5 : l0_5.length ≤ c0_5) (hr0_6 : Kd.C k87 w A0_6 l0_6.length l0_6) (hc0_6 : l0_6.length ≤ c0_6) (hr0_7 : Kd.C k89 w A0_7 l0_7.length l0_7) (hc0_7 : l0_7.length ≤ c0_7) (hr2 : Kd.C (Kd.slice 43 (Kd.slice 47 k47)) w A2 l2.length l2) (hc2 : l2.length ≤ c2) (h : item_Verse.f k a0_0 a0_1 a0_2 a0_3 a0_4 l0_5 l0_6 l0_7 a1 l2 = some (r1, r2, r3)) :
  Calls Try.prog 7 #[.agg #[.int .i64 a0_0, .int .i64 a0_1, .int .i64 a0_2, .int .i64 a0_3, .int .i32 a0_4, .slice A0_5 l0_5.length c0_5, .slice A0_6 l0_6.length c0_6, .slice A0_7 l0_7.length c0_7], .int .i64 a1, .slice A2 l2.length c2] w fun e w' => ∃ v0_ : Value, e = .returned (.tuple #[v0_, .agg #[.int .i64 r2, .int .i64 r3]]) ∧ Kd.R k45 45 w' w.heap.size (fun _ => True) v0_ r1 ∧ Below w.heap.size w w' := by
 have hu28 := Try.underlying28
 have hu23 := Try.underlying23
 have hu33 := Try.underlying33
 have hu53 := Try.underlying53
 have HR2 := Aside0.mk hr2
 have HC2 := Aside0.mk hc2
 have H' := Aside0.mk (show item_Verse.l0 k l2 a0_0 a0_1 a0_2 a0_3 a1 0 [] 0 = some (r1, r2, r3) from h)
 clear hr0_5 hc0_5 hr0_6 hc0_6 hr0_7 hc0_7 hr2 hc2 h
 go_enter Try.func7, Try.ntmps7
 go_wp2_with (first
  | ((with_reducible refine gate_dst (N := 3) rfl ?_); refine box_event ?hg (N := 3) ?hd (cs := #[.int .i64 a0_0, .int .i64 a0_1, .int .i64 a0_2, .int .i64 a0_3, .int .i32 a0_4, .slice A0_5 l0_5.length c0_5, .slice A0_6 l0_6.length c0_6, .slice A0_7 l0_7.length c0_7]) (t := 28) ?hr ?_; (case hd => rfl); (case hg => rfl); (case hr => first | (go_simp; done) | (go_simp; rfl)); intro g3 hg w1 hbox hb; have B1 := Aside0.mk hb; have M1 := Aside0.mk hbox; clear hb hbox hg)
  | ((with_reducible refine gate_dst (N := 7) rfl ?_); refine box_event ?hg (N := 7) ?hd (cs := #[.int .i64 0, .int .i64 0]) (t := 33) ?hr ?_; (case hd => rfl); (case hg => rfl); (case hr => first | (go_simp; done) | (go_simp; rfl)); intro g7 hg w2 hbox hb; have B2 := Aside0.mk (below_then B1.out B1.out.size hb); have M2 := Aside0.mk (blk_below M1.out hb); have R2 := Aside0.mk hbox; have G7 := Aside0.mk (show w.heap.size ≤ g7 by rw [hg]; exact B1.out.size); clear hb hbox hg M1 B1; have hm0 : w2.cell? ⟨g3, 0, none⟩ = some (.int .i64 a0_0) := (blk_cell M2.out 0).trans rfl; have hm1 : w2.cell? ⟨g3, 1, none⟩ = some (.int .i64 a0_1) := (blk_cell M2.out 1).trans rfl; have hm2 : w2.cell? ⟨g3, 2, none⟩ = some (.int .i64 a0_2) := (blk_cell M2.out 2).trans rfl; have hm3 : w2.cell? ⟨g3, 3, none⟩ = some (.int .i64 a0_3) := (blk_cell M2.out 3).trans rfl; have hm4 : w2.cell? ⟨g3, 4, none⟩ = some (.int .i32 a0_4) := (blk_cell M2.out 4).trans rfl; have hm5 : w2.cell? ⟨g3, 5, none⟩ = some (.slice A0_5 l0_5.length c0_5) := (blk_cell M2.out 5).trans rfl; have hm6 : w2.cell? ⟨g3, 6, none⟩ = some (.slice A0_6 l0_6.length c0_6) := (blk_cell M2.out 6).trans rfl; have hm7 : w2.cell? ⟨g3, 7, none⟩ = some (.slice A0_7 l0_7.length c0_7) := (blk_cell M2.out 7).trans rfl)
  | ((with_reducible refine gate_dst (N := 14) rfl ?_); refine box_event ?hg (N := 14) ?hd (cs := #[.int .i64 a0_0, .int .i64 a0_1, .int .i64 a0_2, .int .i64 a0_3, .int .i32 a0_4, .slice A0_5 l0_5.length c0_5, .slice A0_6 l0_6.length c0_6, .slice A0_7 l0_7.length c0_7, .int .i64 a1, .int .i64 0, .slice none 0 0]) (t := 53) ?hr ?_; (case hd => rfl); (case hg => rfl); (case hr => first | (go_simp; done) | (go_simp; rfl)); intro gb hg w3 hbox hb; have BK3 := Aside0.mk hbox; have HB3 := Aside0.mk hb; have GB := Aside0.mk (Nat.le_of_eq hg.symm); clear hb hbox hg))
 have HRL := Aside0.mk (Kd.C_below HR2.out B2.out)
 go_loopg [17] k (fun kq v17 w' => ∃ (i : Int) (v : Value) (xs : List S45) (wn : Int), v17 = .int .i64 i ∧ Aside0 (item_Verse.l0 kq l2 a0_0 a0_1 a0_2 a0_3 a1 wn xs i = some (r1, r2, r3)) ∧ Aside0 (kq ≤ k) ∧ Aside0 (w'.heap[gb]? = some (.cells #[.int .i64 a0_0, .int .i64 a0_1, .int .i64 a0_2, .int .i64 a0_3, .int .i32 a0_4, .slice A0_5 l0_5.length c0_5, .slice A0_6 l0_6.length c0_6, .slice A0_7 l0_7.length c0_7, .int .i64 a1, .int .i64 wn, v] 53 (0, 0))) ∧ Aside0 (Kd.R k45 45 w' w2.heap.size (fun _ => True) v xs) ∧ Aside0 (Below w2.heap.size w2 w'))
 case atStart => exact ⟨0, .slice none 0 0, [], 0, rfl, H', ⟨Nat.le_refl _⟩, BK3, ⟨Kd.R_nil _ _ _ _ _⟩, HB3⟩
 case round =>
  clear H' BK3 HB3
  obtain ⟨i, v, xs, wn, rfl, HA, HK1, BK, HO, HB⟩ := hrel
  cases gk with
  | zero => exact absurd HA.out (by simp [item_Verse.l0])
  | succ k1 =>
   have H := HA.out
   clear HA
   simp only [item_Verse.l0] at H
   by_cases c5 : i < (l2.length : Int)
   ·rw [if_pos c5] at H
    by_cases c6 : 0 ≤ i
    ·rw [if_pos c6] at H
     obtain ⟨⟨ys, wn2⟩, A50, H⟩ := Option.bind_eq_some_iff.mp H
     have A5_ := Aside0.mk A50
     clear A50
     have H' := Aside0.mk H
     clear H
     obtain ⟨ad, A3, c3, e1, hx0, hl0, hi0⟩ := at_V HRL.out i c6 c5
     cases e1
     have HL := Aside0.mk hl0
     have HI := Aside0.mk hi0
     clear hl0 hi0
     replace hx0 := (HB.out.cell (World.block_lt_of_cell? w2 _ hx0)).trans hx0
     have c5b := decide_eq_true c5
     replace c6 := eq_true c6
     replace c5 := eq_true c5
     go_wp2_with (go_at_call 16; refine (bline.calls k1 w2 _ gb A3 c3 (rd_V l2 i) a0_0 a0_1 a0_2 a0_3 a0_4 _ _ _ a1 wn v xs ys wn2 HI.out HL.out BK.out GB.out HO.out HB.out A5_.out).mono ?_; rintro e w6 ⟨rfl, v2, hb, ho, hB⟩; have BK6 := Aside0.mk hb; have HO6 := Aside0.mk ho; have HB6 := Aside0.mk hB; clear hb ho hB)
     go_roundg k1
     case measure => omega
     case rel => exact ⟨_, v2, ys, _, rfl, H', ⟨by have := HK1.out; omega⟩, BK6, HO6, HB6⟩
    ·rw [if_neg c6] at H
     exact absurd H (by simp)
   ·rw [if_neg c5] at H
    have A5_ := Aside0.mk H
    clear H
    have c5b := decide_eq_false c5
    replace c5 := eq_false c5
    go_wp2_with (go_at_call 17; refine (bdone.calls k1 w2 _ gb a0_0 a0_1 a0_2 a0_3 a0_4 _ _ _ a1 wn v xs r1 r2 r3 BK.out HO.out HB.out A5_.out).mono ?_; rintro e w6 ⟨v0, rfl, ho, hB⟩; have HO6 := Aside0.mk ho; have HB6 := Aside0.mk hB; have R6 := Aside0.mk (blk_below R2.out hB); clear ho hB; have hz0 : w6.cell? ⟨g7, 0, none⟩ = some (.int .i64 0) := (blk_cell R6.out 0).trans rfl; have hf0 := blk_frozen R6.out 0; have hz1 : w6.cell? ⟨g7, 1, none⟩ = some (.int .i64 0) := (blk_cell R6.out 1).trans rfl; have hf1 := blk_frozen R6.out 1)
    refine bodyPost_ret (results_tc rfl _ _ g7 33 #[.int .i64 r2, .int .i64 r3] (0, 0) _ rfl (blk_put (cs := #[.int .i64 r2, .int .i64 0]) (blk_put R6.out 0 _ rfl) 1 _ rfl) Try.underlying33 rfl (by kernel_rfl)) rfl ?_
    exact ⟨_, rfl, Kd.R_lower (Kd.R_set (Kd.R_set HO6.out R6.out (by decide) 0 _) (blk_put (cs' := #[.int .i64 r2, .int .i64 0]) R6.out 0 _ rfl) (by decide) 1 _) B2.out.size, Below.setCell (Below.setCell (below_then B2.out B2.out.size HB6.out) G7.out _) G7.out _⟩

/-! ### variorumref02_Most: function 30 -/
def variorumref02_Most.f  : Option (Int) := some 1073741823
set_option maxHeartbeats 8000000 in
set_option maxRecDepth 100000 in
theorem variorumref02_Most.calls  (r : Int) (w : World) (h : variorumref02_Most.f  = some r) :
  Calls Try.prog 30 #[] w fun e w' => e = .returned (.int .i64 r) ∧ Drawn0 w w' := by
 have H : (some 1073741823) = some r := h
 clear h
 obtain rfl := Option.some.inj H
 go_enter Try.func30, Try.ntmps30
 go_wp2
 go_ret
 exact ⟨by first | rfl | (simp; done) | (simp [*]; done), by repeat (first | exact Drawn0.refl _ | apply Drawn0.step)⟩

/-! ### variorumref02_Fits: function 29 -/
def variorumref02_Fits.f (a0 : Int) : Option (Bool) := (variorumref02_Most.f).bind fun t124 => (if a0 ≥ (wrap64 (-t124)) then ((variorumref02_Most.f).bind fun t125 => (some (decide (a0 ≤ t125)))) else (some false))
set_option maxHeartbeats 8000000 in
set_option maxRecDepth 100000 in
theorem variorumref02_Fits.calls (a0 : Int) (r : Bool) (w : World) (h : variorumref02_Fits.f a0 = some r) :
  Calls Try.prog 29 #[.int .i64 a0] w fun e w' => e = .returned (.bool r) ∧ Drawn0 w w' := by
 have H : ((variorumref02_Most.f).bind fun t124 => (if a0 ≥ (wrap64 (-t124)) then ((variorumref02_Most.f).bind fun t125 => (some (decide (a0 ≤ t125)))) else (some false))) = some r := h
 clear h
 replace H := Option.bind_eq_some_iff.mp H
 obtain ⟨t124, A20, H⟩ := H
 replace H : (if a0 ≥ (wrap64 (-t124)) then ((variorumref02_Most.f).bind fun t125 => (some (decide (a0 ≤ t125)))) else (some false)) = some r := H
 have A2 := Aside0.mk A20
 clear A20
 by_cases c3 : a0 ≥ (wrap64 (-t124))
 ·rw [if_pos c3] at H
  have c3b0 : decide ((wrap64 (-t124)) ≤ a0) = true := decide_eq_true c3
  clear c3
  replace H := Option.bind_eq_some_iff.mp H
  obtain ⟨t125, A40, H⟩ := H
  replace H : (some (decide (a0 ≤ t125))) = some r := H
  have A4 := Aside0.mk A40
  clear A40
  obtain rfl := Option.some.inj H
  go_enter Try.func29, Try.ntmps29
  go_wp2_with (first | ((with_reducible refine gate_callee (f := 30) rfl ?_); refine goesL_ (some 4) rfl rfl Try.func30 (by kernel_rfl) rfl #[] rfl (by (try simp only [List.map_toArray, List.map_cons, List.map_nil]); first | done | rfl | (simp only [List.length_drop, List.length_take]; rfl) | (simp only [*]; first | done | rfl)) ?_; (with_reducible refine (variorumref02_Most.calls  t124 _ A2.out).mono ?_); rintro e w' ⟨rfl, ⟨nd, rfl⟩⟩; refine ⟨_, rfl, ?_⟩) | (go_at_call 30; (with_reducible refine (variorumref02_Most.calls  t125 _ A4.out).mono ?_); rintro e w' ⟨rfl, ⟨nd, rfl⟩⟩))
  go_ret
  exact ⟨by first | rfl | (simp; done) | (simp [*]; done), by repeat (first | exact Drawn0.refl _ | apply Drawn0.step)⟩
 ·rw [if_neg c3] at H
  have c3b0 : decide ((wrap64 (-t124)) ≤ a0) = false := decide_eq_false c3
  clear c3
  obtain rfl := Option.some.inj H
  go_enter Try.func29, Try.ntmps29
  go_wp2_with (first | ((with_reducible refine gate_callee (f := 30) rfl ?_); refine goesL_ (some 4) rfl rfl Try.func30 (by kernel_rfl) rfl #[] rfl (by (try simp only [List.map_toArray, List.map_cons, List.map_nil]); first | done | rfl | (simp only [List.length_drop, List.length_take]; rfl) | (simp only [*]; first | done | rfl)) ?_; (with_reducible refine (variorumref02_Most.calls  t124 _ A2.out).mono ?_); rintro e w' ⟨rfl, ⟨nd, rfl⟩⟩; refine ⟨_, rfl, ?_⟩))
  go_ret
  exact ⟨by first | rfl | (simp; done) | (simp [*]; done), by repeat (first | exact Drawn0.refl _ | apply Drawn0.step)⟩

end Go.Proofs.Ytbdaaiagpknaoaa.PUb

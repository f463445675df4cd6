/- Written by a program of this session: functions of the given program as plain Lean functions, the walks that show it, and the row of each law, for every input that its statement speaks of. -/
import Derived.Test.YtbpomibholcpfaaPAllx0
import Derived.Test.YtbpomibholcpfaaPAllx1
import Derived.Test.YtbpomibholcpfaaPAllx3
namespace Go.Proofs.Ytbpomibholcpfaa.PAll
open Go.RowKit Go.Proofs.YtbpomibholcpfaaW.PrintWords Go.Proofs.YtbpomibholcpfaaW.PrintLast Go.Proofs.YtbpomibholcpfaaW.PrintMore
attribute [local go_sem] max2_int min2_int max_two min_two max_three min_three max_four min_four   -- for this text's walks alone
set_option linter.unusedVariables false
set_option linter.unusedSimpArgs false

attribute [local go_sem high] eqA26
/-! ### lineno_Number: function 7 -/
mutual
def lineno_Number.l0 : Nat → List (S29) → Int → List (S31) → List (S29) → Int → Int → Int → Int → Option ((List (S31)))
  | 0, _, _, _, _, _, _, _, _ => none
  | k + 1, x0, x1, x5, x12, x13, x14, x110000, x110001 => if x14 < x13 then (if 0 ≤ x14 then (if x14 < (x12.length : Int) then (if x14 > 0 then ((lineno_Unit.f ((rd_T29 x12 x14).f0) ((rd_T29 x12 x14).f1) ((rd_T29 x12 x14).f2) ((rd_T29 x12 x14).f3) ((rd_T29 x12 x14).f4) ((rd_T29 x12 x14).f5) ((rd_T29 x12 x14).f6) x1).bind fun bt112 => (if 0 ≤ (wrap64 (x14 - 1)) then (if (wrap64 (x14 - 1)) < (x0.length : Int) then ((lineno_Unit.f ((rd_T29 x0 (wrap64 (x14 - 1))).f0) ((rd_T29 x0 (wrap64 (x14 - 1))).f1) ((rd_T29 x0 (wrap64 (x14 - 1))).f2) ((rd_T29 x0 (wrap64 (x14 - 1))).f3) ((rd_T29 x0 (wrap64 (x14 - 1))).f4) ((rd_T29 x0 (wrap64 (x14 - 1))).f5) ((rd_T29 x0 (wrap64 (x14 - 1))).f6) x1).bind fun bt116 => (lineno_Number.j1 k x0 x1 x5 x14 x12 x13 x14 (!(bt112.1 == bt116.1) || (!(bt112.2.1 == bt116.2.1) || (!(bt112.2.2 == bt116.2.2)))) x110000 x110001 ((rd_T29 x12 x14).f0) ((rd_T29 x12 x14).f1) ((rd_T29 x12 x14).f2) ((rd_T29 x12 x14).f3) ((rd_T29 x12 x14).f4) ((rd_T29 x12 x14).f5) ((rd_T29 x12 x14).f6))) else (none)) else (none))) else (lineno_Number.j1 k x0 x1 x5 x14 x12 x13 x14 false x110000 x110001 ((rd_T29 x12 x14).f0) ((rd_T29 x12 x14).f1) ((rd_T29 x12 x14).f2) ((rd_T29 x12 x14).f3) ((rd_T29 x12 x14).f4) ((rd_T29 x12 x14).f5) ((rd_T29 x12 x14).f6))) else (none)) else (none)) else (some x5)
def lineno_Number.j1 : Nat → List (S29) → Int → List (S31) → Int → List (S29) → Int → Int → Bool → Int → Int → Int → Int → Int → Int → Bool → Bool → Bool → Option ((List (S31)))
  | 0, _, _, _, _, _, _, _, _, _, _, _, _, _, _, _, _, _ => none
  | k + 1, x0, x1, x5, x7, x12, x13, x14, x33, x110000, x110001, x112000, x112001, x112002, x112003, x112004, x112005, x112006 => if x33 = true then (lineno_Number.j2 k x0 x1 x5 x7 x12 x13 x14 0 0 x112000 x112001 x112002 x112003 x112004 x112005 x112006) else (lineno_Number.j2 k x0 x1 x5 x7 x12 x13 x14 x110000 x110001 x112000 x112001 x112002 x112003 x112004 x112005 x112006)
def lineno_Number.j2 : Nat → List (S29) → Int → List (S31) → Int → List (S29) → Int → Int → Int → Int → Int → Int → Int → Int → Bool → Bool → Bool → Option ((List (S31)))
  | 0, _, _, _, _, _, _, _, _, _, _, _, _, _, _, _, _ => none
  | k + 1, x0, x1, x5, x7, x12, x13, x14, x110000, x110001, x112000, x112001, x112002, x112003, x112004, x112005, x112006 => if x112005 = true then (lineno_Number.l0 k x0 x1 x5 x12 x13 (wrap64 (x14 + 1)) x110000 x110001) else ((lineno_next.f x110000 x110001 x112000 x112001 x112002 x112003 x112004 x112005 x112006).bind fun bt119 => (if 0 ≤ x7 then (if x7 < (x5.length : Int) then (lineno_Number.l0 k x0 x1 (x5.set (x7 : Int).toNat (⟨bt119.1, bt119.2⟩ : S31)) x12 x13 (wrap64 (x14 + 1)) bt119.1 bt119.2) else (none)) else (none)))
end
def lineno_Number.f (k : Nat) (l0 : List (S29)) (a1 : Int) : Option ((List (S31))) := if 0 ≤ (l0.length : Int) then (if ((l0.length : Int) : Int).toNat ≤ 17592186044416 then (lineno_Number.l0 k l0 a1 (List.replicate ((l0.length : Int) : Int).toNat z31) l0 (l0.length : Int) 0 0 0) else (none)) else (none)
theorem lineno_Number.mono_l : ∀ k, (∀ y0 y1 y2 y3 y4 y5 y6 y7, LeO (lineno_Number.l0 k y0 y1 y2 y3 y4 y5 y6 y7) (lineno_Number.l0 (k + 1) y0 y1 y2 y3 y4 y5 y6 y7)) ∧ (∀ y0 y1 y2 y3 y4 y5 y6 y7 y8 y9 y10 y11 y12 y13 y14 y15 y16, LeO (lineno_Number.j1 k y0 y1 y2 y3 y4 y5 y6 y7 y8 y9 y10 y11 y12 y13 y14 y15 y16) (lineno_Number.j1 (k + 1) y0 y1 y2 y3 y4 y5 y6 y7 y8 y9 y10 y11 y12 y13 y14 y15 y16)) ∧ (∀ y0 y1 y2 y3 y4 y5 y6 y7 y8 y9 y10 y11 y12 y13 y14 y15, LeO (lineno_Number.j2 k y0 y1 y2 y3 y4 y5 y6 y7 y8 y9 y10 y11 y12 y13 y14 y15) (lineno_Number.j2 (k + 1) y0 y1 y2 y3 y4 y5 y6 y7 y8 y9 y10 y11 y12 y13 y14 y15))
  | 0 => ⟨fun _ _ _ _ _ _ _ _ r h => by simp [lineno_Number.l0] at h, fun _ _ _ _ _ _ _ _ _ _ _ _ _ _ _ _ _ r h => by simp [lineno_Number.j1] at h, fun _ _ _ _ _ _ _ _ _ _ _ _ _ _ _ _ r h => by simp [lineno_Number.j2] at h⟩
  | k + 1 => by
    obtain ⟨ih0, ih1, ih2⟩ := lineno_Number.mono_l k
    refine ⟨?_, ?_, ?_⟩
    · intro y0 y1 y2 y3 y4 y5 y6 y7
      unfold lineno_Number.l0
      repeat' first
      | (with_reducible exact ih0 _ _ _ _ _ _ _ _)
      | (with_reducible exact ih1 _ _ _ _ _ _ _ _ _ _ _ _ _ _ _ _ _)
      | (with_reducible exact ih2 _ _ _ _ _ _ _ _ _ _ _ _ _ _ _ _)
      | (with_reducible exact LeO.refl _)
      | (with_reducible exact LeO.none _)
      | (with_reducible refine LeO.ite ?_ ?_)
      | (with_reducible refine LeO.bind ?_ (fun _ => ?_))
      | exact ih0 _ _ _ _ _ _ _ _
      | exact ih1 _ _ _ _ _ _ _ _ _ _ _ _ _ _ _ _ _
      | exact ih2 _ _ _ _ _ _ _ _ _ _ _ _ _ _ _ _
      | exact LeO.none _
      | refine LeO.ite ?_ ?_
      | refine LeO.bind ?_ (fun _ => ?_)
    · intro y0 y1 y2 y3 y4 y5 y6 y7 y8 y9 y10 y11 y12 y13 y14 y15 y16
      unfold lineno_Number.j1
      repeat' first
      | (with_reducible exact ih0 _ _ _ _ _ _ _ _)
      | (with_reducible exact ih1 _ _ _ _ _ _ _ _ _ _ _ _ _ _ _ _ _)
      | (with_reducible exact ih2 _ _ _ _ _ _ _ _ _ _ _ _ _ _ _ _)
      | (with_reducible exact LeO.refl _)
      | (with_reducible exact LeO.none _)
      | (with_reducible refine LeO.ite ?_ ?_)
      | (with_reducible refine LeO.bind ?_ (fun _ => ?_))
      | exact ih0 _ _ _ _ _ _ _ _
      | exact ih1 _ _ _ _ _ _ _ _ _ _ _ _ _ _ _ _ _
      | exact ih2 _ _ _ _ _ _ _ _ _ _ _ _ _ _ _ _
      | exact LeO.none _
      | refine LeO.ite ?_ ?_
      | refine LeO.bind ?_ (fun _ => ?_)
    · intro y0 y1 y2 y3 y4 y5 y6 y7 y8 y9 y10 y11 y12 y13 y14 y15
      unfold lineno_Number.j2
      repeat' first
      | (with_reducible exact ih0 _ _ _ _ _ _ _ _)
      | (with_reducible exact ih1 _ _ _ _ _ _ _ _ _ _ _ _ _ _ _ _ _)
      | (with_reducible exact ih2 _ _ _ _ _ _ _ _ _ _ _ _ _ _ _ _)
      | (with_reducible exact LeO.refl _)
      | (with_reducible exact LeO.none _)
      | (with_reducible refine LeO.ite ?_ ?_)
      | (with_reducible refine LeO.bind ?_ (fun _ => ?_))
      | exact ih0 _ _ _ _ _ _ _ _
      | exact ih1 _ _ _ _ _ _ _ _ _ _ _ _ _ _ _ _ _
      | exact ih2 _ _ _ _ _ _ _ _ _ _ _ _ _ _ _ _
      | exact LeO.none _
      | refine LeO.ite ?_ ?_
      | refine LeO.bind ?_ (fun _ => ?_)
theorem lineno_Number.mono : ∀ a0 a1 k, LeO (lineno_Number.f k a0 a1) (lineno_Number.f (k + 1) a0 a1) := by
  intro a0 a1 k
  obtain ⟨ih0, ih1, ih2⟩ := lineno_Number.mono_l k
  unfold lineno_Number.f
  repeat' first
      | (with_reducible exact ih0 _ _ _ _ _ _ _ _)
      | (with_reducible exact ih1 _ _ _ _ _ _ _ _ _ _ _ _ _ _ _ _ _)
      | (with_reducible exact ih2 _ _ _ _ _ _ _ _ _ _ _ _ _ _ _ _)
      | (with_reducible exact LeO.refl _)
      | (with_reducible exact LeO.none _)
      | (with_reducible refine LeO.ite ?_ ?_)
      | (with_reducible refine LeO.bind ?_ (fun _ => ?_))
      | exact ih0 _ _ _ _ _ _ _ _
      | exact ih1 _ _ _ _ _ _ _ _ _ _ _ _ _ _ _ _ _
      | exact ih2 _ _ _ _ _ _ _ _ _ _ _ _ _ _ _ _
      | exact LeO.none _
      | refine LeO.ite ?_ ?_
      | refine LeO.bind ?_ (fun _ => ?_)
def lineno_Number.T6 : Bool × List (List Nat × List Nat) := (true, [([], []), ([0], [0]), ([1], [1]), ([2], [2]), ([2], [2]), ([3, 4, 2, 2], [2, 3, 4]), ([2], [2]), ([2], [2]), ([7, 2], [2, 7]), ([6, 8, 2], [2, 6, 8]), ([9, 2], [2, 9]), ([2], [2]), ([10, 11, 5, 2], [2, 10, 11]), ([5, 12, 2], [2, 5, 12]), ([2, 13], [2, 13])])
def lineno_Number.B6 : List Nat := [0, 1, 3, 7, 7, 31, 7, 7, 135, 455, 967, 7, 4095, 8191, 16383]
theorem lineno_Number.tab6 : rtab .any (opsOf Try.f7 6) = lineno_Number.T6 := by kernel_rfl
theorem lineno_Number.bits6 : waitsOk lineno_Number.T6.2 lineno_Number.B6 = true := by kernel_rfl
set_option maxHeartbeats 8000000 in
set_option maxRecDepth 100000 in
theorem lineno_Number.calls (k : Nat) (A0 : Option Addr) (c0 : Nat) (l0 : List (S29)) (a1 : Int) (r : List (S31)) (w : World) (hr0 : Kd.C k29 w A0 l0.length l0) (hc0 : l0.length ≤ c0) (h : lineno_Number.f k l0 a1 = some r) :
    Calls Try.prog 7 #[.slice A0 l0.length c0, .int .i64 a1] w fun e w' => ∃ v0_ : Value, e = .returned (v0_) ∧ Kd.R k31 31 w' w.heap.size (fun _ => True) v0_ r ∧ Below w.heap.size w w' := by
  have hu31 := Try.underlying31
  have hu29 := Try.underlying29
  have HR0 := Aside0.mk hr0
  have HC0 := Aside0.mk hc0
  clear hr0 hc0
  have HB := Aside0.mk (Below.refl w.heap.size w)
  have H : (if 0 ≤ (l0.length : Int) then (if ((l0.length : Int) : Int).toNat ≤ 17592186044416 then (lineno_Number.l0 k l0 a1 (List.replicate ((l0.length : Int) : Int).toNat z31) l0 (l0.length : Int) 0 0 0) else (none)) else (none)) = some r := h
  clear h
  by_cases c3 : 0 ≤ (l0.length : Int)
  · rw [if_pos c3] at H
    have c3b0 := eq_true c3
    have c3b1 : decide (0 ≤ (l0.length : Int)) = true := decide_eq_true c3
    clear c3
    by_cases c4 : ((l0.length : Int) : Int).toNat ≤ 17592186044416
    · rw [if_pos c4] at H
      have c4b0 := eq_true c4
      have c4b1 : decide (((l0.length : Int) : Int).toNat ≤ 17592186044416) = true := decide_eq_true c4
      clear c4
      obtain ⟨y106, hy106⟩ : ∃ y_ : List (S31), y_ = (List.replicate ((l0.length : Int) : Int).toNat z31) := ⟨_, rfl⟩
      replace H : (lineno_Number.l0 k l0 a1 y106 l0 (l0.length : Int) 0 0 0) = some r := by first | (rw [hy106]; with_reducible exact H) | (have H2_ := (Option.bind_some _ _).symm.trans H; rw [hy106]; with_reducible exact H2_) | (have H2_ := (Option.bind_some _ _).symm.trans H; with_reducible exact H2_) | with_reducible exact H | (rw [hy106]; exact H) | exact H
      have Ny106 := Aside0.mk hy106
      clear hy106
      have H' := Aside0.mk H
      clear H
      go_enter Try.func7, Try.ntmps7
      go_wp2_with (first | ((with_reducible refine gate_dst (N := 11) rfl ?_); refine Kd.R_make k31 _ 31 rfl (N := 11) rfl 23 _ _ rfl (l0.length : Int) rfl rfl Try.underlying23 (.agg #[(.int .i64 0), (.int .i64 0)]) 16 info31 rfl (by decide) (by omega) z31 (ok := fun _ => True) (okp := fun _ => True) (k31_mkM _ _ _ z31 ) (fun _ hk => hk) trivial (of_decide_eq_true (by first | (with_reducible assumption) | assumption)) (Nat.le_trans (Nat.mul_le_mul_right _ (of_decide_eq_true (by first | (with_reducible assumption) | assumption) : (l0.length : Int).toNat ≤ 17592186044416)) (by omega)) (Below.refl _ _) (Nat.le_refl _) ?_; intro v107 w5 ho6 hb hg_ hnew_; clear hg_ hnew_; (first | rw [← Ny106.out] at ho6 | (simp only [Int.reduceToNat] at ho6; rw [← Ny106.out] at ho6)); have n0_ := Aside0.mk (Kd.R_lower ho6 (below_size (by repeat (first | (with_reducible first | exact HB.out | apply below_alloc | apply pw_below_drewN | apply below_drew1) | exact HB.out)))); have n1_ := Aside0.mk (below_step (by repeat (first | (with_reducible first | exact HB.out | apply below_alloc | apply pw_below_drewN | apply below_drew1) | exact HB.out)) hb); clear HB; have HO108 := n0_; have HB := n1_; clear n0_ n1_; clear hb ho6) | ((with_reducible refine gate_dst (N := 6) rfl ?_); refine box_event ?hg (N := 6) ?hd (cs := #[.int .i64 0, .int .i64 0]) (t := 31) ?hr ?_; (case hd => rfl); (case hg => rfl); (case hr => first | (go_simp; done) | (go_simp; rfl)); intro gb109 hg w7 hbox hb; have n0_ := Aside0.mk (Kd.R_below (Kd.R_elderB (by (with_reducible repeat (first | apply Kd.R_alloc | apply Kd.R_drewN | apply Kd.R_drew)); exact HO108.out) gb109 (Nat.le_of_eq hg.symm)) hb); have n1_ := Aside0.mk (below_step (by repeat (first | (with_reducible first | exact HB.out | apply below_alloc | apply pw_below_drewN | apply below_drew1) | exact HB.out)) hb); have n2_ := Aside0.mk (hbox); have n3_ := Aside0.mk ((by rw [hg]; exact (below_size (by repeat (first | (with_reducible first | exact HB.out | apply below_alloc | apply pw_below_drewN | apply below_drew1) | exact HB.out))) : w.heap.size ≤ gb109)); have n4_ := Aside0.mk ((by rw [hg]; exact (below_size (by repeat (first | (with_reducible first | exact HB.out | apply below_alloc | apply pw_below_drewN | apply below_drew1) | exact HB.out))) : w.heap.size ≤ gb109)); clear HO108; clear HB; have HO108 := n0_; have HB := n1_; have BK109 := n2_; have GW109 := n3_; have GE109 := n4_; clear n0_ n1_ n2_ n3_ n4_; clear hb hbox hg))
      go_loopg [14] k (fun kq v14 w' => ∃ (x5_1 : List (S31)) (x14_1 : Int) (x110000_1 : Int) (x110001_1 : Int), v14 = .int .i64 x14_1 ∧ Aside0 (lineno_Number.l0 kq l0 a1 x5_1 l0 (l0.length : Int) x14_1 x110000_1 x110001_1 = some r) ∧ Aside0 (kq ≤ k) ∧ Aside0 (Kd.R k31 31 w' w.heap.size (fun k_ => k_ ≠ gb109) v107 x5_1) ∧ Aside0 (w'.heap[gb109]? = some (.cells #[.int .i64 x110000_1, .int .i64 x110001_1] 31 (0, 0))) ∧ Aside0 (Below w.heap.size w w'))
      case atStart => exact ⟨(y106), (0), (0), (0), (by first | rfl | (simp; done) | (simp [*]; done)), H', ⟨Nat.le_refl _⟩, ⟨by (with_reducible repeat (first | apply Kd.R_alloc | apply Kd.R_drewN | apply Kd.R_drew)); exact Kd.R_mono HO108.out (fun _ hk => hk.2)⟩, ⟨by (with_reducible repeat (first | refine blk_drewN ?_ _ | refine blk_drew ?_ | refine blk_alloc ?_ _)); exact BK109.out⟩, ⟨by repeat (first | (with_reducible first | exact HB.out | apply below_alloc | apply pw_below_drewN | apply below_drew1 | refine below_set ?_ GE109.out) | exact HB.out)⟩⟩
      case round =>
        clear H'
        try clear p2
        try clear c3
        try clear c3b0
        try clear c3b1
        try clear c4
        try clear c4b0
        try clear c4b1
        try clear c7
        obtain ⟨x5_1, x14_1, x110000_1, x110001_1, rfl, HA, HK1, HO_5, BK109, HB⟩ := hrel
        cases gk with
        | zero => exact absurd HA.out (by simp [lineno_Number.l0])
        | succ k1 =>
          have H := HA.out
          clear HA
          simp only [lineno_Number.l0] at H
          by_cases c8 : x14_1 < (l0.length : Int)
          · rw [if_pos c8] at H
            have c8b0 : decide (x14_1 < (l0.length : Int)) = true := decide_eq_true c8
            clear c8
            by_cases c9 : 0 ≤ x14_1
            · rw [if_pos c9] at H
              have c9b0 : decide (0 ≤ x14_1) = true := decide_eq_true c9
              clear c9
              by_cases c10 : x14_1 < (l0.length : Int)
              · rw [if_pos c10] at H
                have c10b0 : decide (x14_1 < (l0.length : Int)) = true := decide_eq_true c10
                clear c10
                have HC11 := Aside0.mk H
                clear H
                have p110 : 0 ≤ (x14_1 : Int) := of_decide_eq_true (by first | (with_reducible assumption) | assumption)
                have q110 : x14_1 < (l0.length : Int) := of_decide_eq_true (by first | (with_reducible assumption) | assumption)
                obtain ⟨ad110, e110, hx110_0, hx110_1, hx110_2, hx110_3, hx110_4, hx110_5, hx110_6⟩ := at_T29 HR0.out x14_1 p110 q110
                cases e110
                replace hx110_0 := (HB.out.cell (World.block_lt_of_cell? w _ hx110_0)).trans hx110_0
                replace hx110_1 := (HB.out.cell (World.block_lt_of_cell? w _ hx110_1)).trans hx110_1
                replace hx110_2 := (HB.out.cell (World.block_lt_of_cell? w _ hx110_2)).trans hx110_2
                replace hx110_3 := (HB.out.cell (World.block_lt_of_cell? w _ hx110_3)).trans hx110_3
                replace hx110_4 := (HB.out.cell (World.block_lt_of_cell? w _ hx110_4)).trans hx110_4
                replace hx110_5 := (HB.out.cell (World.block_lt_of_cell? w _ hx110_5)).trans hx110_5
                replace hx110_6 := (HB.out.cell (World.block_lt_of_cell? w _ hx110_6)).trans hx110_6
                replace p110 := eq_true p110
                replace q110 := eq_true q110
                go_upto_region 6 with (first | ((with_reducible refine gate_dst (N := 8) rfl ?_); refine box_event ?hg (N := 8) ?hd (cs := #[.int .i64 0, .int .i64 0, .int .i64 0, .int .i64 0, .bool false, .bool false, .bool false]) (t := 29) ?hr ?_; (case hd => rfl); (case hg => rfl); (case hr => first | (go_simp; done) | (go_simp; rfl)); intro gb111 hg w12 hbox hb; have n0_ := Aside0.mk (Kd.R_below (by (with_reducible repeat (first | apply Kd.R_alloc | apply Kd.R_drewN | apply Kd.R_drew)); exact HO_5.out) hb); have n1_ := Aside0.mk (blk_below (g := gb109) (o := .cells #[.int .i64 x110000_1, .int .i64 x110001_1] 31 (0, 0)) (by (with_reducible repeat (first | refine blk_drewN ?_ _ | refine blk_drew ?_ | refine blk_alloc ?_ _)); exact BK109.out) hb); have n2_ := Aside0.mk (below_step (by repeat (first | (with_reducible first | exact HB.out | apply below_alloc | apply pw_below_drewN | apply below_drew1 | refine below_set ?_ GE109.out) | exact HB.out)) hb); have n3_ := Aside0.mk (hbox); have n4_ := Aside0.mk ((by rw [hg]; exact (below_size (by repeat (first | (with_reducible first | exact HB.out | apply below_alloc | apply pw_below_drewN | apply below_drew1 | refine below_set ?_ GE109.out) | exact HB.out))) : w.heap.size ≤ gb111)); have n5_ := Aside0.mk ((by rw [hg]; exact (below_size (by repeat (first | (with_reducible first | exact HB.out | apply below_alloc | apply pw_below_drewN | apply below_drew1 | refine below_set ?_ GE109.out) | exact HB.out))) : w.heap.size ≤ gb111)); have n6_ := Aside0.mk ((by rw [hg]; exact Nat.ne_of_lt (blk_lt (g := gb109) (o := .cells #[.int .i64 x110000_1, .int .i64 x110001_1] 31 (0, 0)) (by (with_reducible repeat (first | refine blk_drewN ?_ _ | refine blk_drew ?_ | refine blk_alloc ?_ _)); exact BK109.out)) : gb109 ≠ gb111)); have n7_ := Aside0.mk ((by rw [hg]; exact Nat.ne_of_gt (blk_lt (g := gb109) (o := .cells #[.int .i64 x110000_1, .int .i64 x110001_1] 31 (0, 0)) (by (with_reducible repeat (first | refine blk_drewN ?_ _ | refine blk_drew ?_ | refine blk_alloc ?_ _)); exact BK109.out)) : gb111 ≠ gb109)); clear HO_5; clear BK109; clear HB; have HO_5 := n0_; have BK109 := n1_; have HB := n2_; have BK111 := n3_; have GW111 := n4_; have GE111 := n5_; have NB109_111 := n6_; have NB111_109 := n7_; clear n0_ n1_ n2_ n3_ n4_ n5_ n6_ n7_; clear hb hbox hg; have hnb13 := NB111_109.out; have hnc13 := NB109_111.out; have hcz14_0 : w12.cell? ⟨gb111, 0, none⟩ = some (.int .i64 0) := (blk_cell BK111.out 0).trans rfl; have hcz14_1 : w12.cell? ⟨gb111, 1, none⟩ = some (.int .i64 0) := (blk_cell BK111.out 1).trans rfl; have hcz14_2 : w12.cell? ⟨gb111, 2, none⟩ = some (.int .i64 0) := (blk_cell BK111.out 2).trans rfl; have hcz14_3 : w12.cell? ⟨gb111, 3, none⟩ = some (.int .i64 0) := (blk_cell BK111.out 3).trans rfl; have hcz14_4 : w12.cell? ⟨gb111, 4, none⟩ = some (.bool false) := (blk_cell BK111.out 4).trans rfl; have hcz14_5 : w12.cell? ⟨gb111, 5, none⟩ = some (.bool false) := (blk_cell BK111.out 5).trans rfl; have hcz14_6 : w12.cell? ⟨gb111, 6, none⟩ = some (.bool false) := (blk_cell BK111.out 6).trans rfl; have hfz14_0 := blk_frozen BK111.out 0; have hfz14_1 := blk_frozen BK111.out 1; have hfz14_2 := blk_frozen BK111.out 2; have hfz14_3 := blk_frozen BK111.out 3; have hfz14_4 := blk_frozen BK111.out 4; have hfz14_5 := blk_frozen BK111.out 5; have hfz14_6 := blk_frozen BK111.out 6))
                (try simp only [Act.put, List.setIfInBounds_toArray, List.set_cons_zero, List.set_cons_succ])
                go_cut [33] (fun v33 wc => ∃ (kq : Nat) (x33_10 : Bool), v33 = .bool x33_10 ∧ Aside0 (lineno_Number.j1 kq l0 a1 x5_1 x14_1 l0 (l0.length : Int) x14_1 x33_10 x110000_1 x110001_1 ((rd_T29 l0 x14_1).f0) ((rd_T29 l0 x14_1).f1) ((rd_T29 l0 x14_1).f2) ((rd_T29 l0 x14_1).f3) ((rd_T29 l0 x14_1).f4) ((rd_T29 l0 x14_1).f5) ((rd_T29 l0 x14_1).f6) = some r) ∧ Aside0 (kq ≤ k1) ∧ Aside0 (Kd.R k31 31 wc w.heap.size (fun k_ => k_ ≠ gb109) v107 x5_1) ∧ Aside0 (wc.heap[gb109]? = some (.cells #[.int .i64 x110000_1, .int .i64 x110001_1] 31 (0, 0))) ∧ Aside0 (wc.heap[gb111]? = some (.cells #[.int .i64 ((rd_T29 l0 x14_1).f0), .int .i64 ((rd_T29 l0 x14_1).f1), .int .i64 ((rd_T29 l0 x14_1).f2), .int .i64 ((rd_T29 l0 x14_1).f3), .bool ((rd_T29 l0 x14_1).f4), .bool ((rd_T29 l0 x14_1).f5), .bool ((rd_T29 l0 x14_1).f6)] 29 (0, 0))) ∧ Aside0 (Below w.heap.size w wc))
                case first =>
                  have H := HC11.out
                  clear HC11
                  by_cases c15 : x14_1 > 0
                  · rw [if_pos c15] at H
                    have c15b0 : decide (0 < x14_1) = true := decide_eq_true c15
                    clear c15
                    (first | rw [c15b0] | (simp only [i64_w, i32_w]; rw [c15b0]) | skip)
                    replace H := Option.bind_eq_some_iff.mp H
                    obtain ⟨⟨t112, t113, t114⟩, A160, H⟩ := H
                    replace H : (if 0 ≤ (wrap64 (x14_1 - 1)) then (if (wrap64 (x14_1 - 1)) < (l0.length : Int) then ((lineno_Unit.f ((rd_T29 l0 (wrap64 (x14_1 - 1))).f0) ((rd_T29 l0 (wrap64 (x14_1 - 1))).f1) ((rd_T29 l0 (wrap64 (x14_1 - 1))).f2) ((rd_T29 l0 (wrap64 (x14_1 - 1))).f3) ((rd_T29 l0 (wrap64 (x14_1 - 1))).f4) ((rd_T29 l0 (wrap64 (x14_1 - 1))).f5) ((rd_T29 l0 (wrap64 (x14_1 - 1))).f6) a1).bind fun bt116 => (lineno_Number.j1 k1 l0 a1 x5_1 x14_1 l0 (l0.length : Int) x14_1 (!(t112 == bt116.1) || (!(t113 == bt116.2.1) || (!(t114 == bt116.2.2)))) x110000_1 x110001_1 ((rd_T29 l0 x14_1).f0) ((rd_T29 l0 x14_1).f1) ((rd_T29 l0 x14_1).f2) ((rd_T29 l0 x14_1).f3) ((rd_T29 l0 x14_1).f4) ((rd_T29 l0 x14_1).f5) ((rd_T29 l0 x14_1).f6))) else (none)) else (none)) = some r := H
                    have A16 := Aside0.mk A160
                    clear A160
                    obtain ⟨ji17, hji17⟩ : ∃ j_ : Int, (wrap64 (x14_1 - 1)) = j_ := ⟨_, rfl⟩
                    replace H : (if 0 ≤ (ji17) then (if (ji17) < (l0.length : Int) then ((lineno_Unit.f ((rd_T29 l0 (ji17)).f0) ((rd_T29 l0 (ji17)).f1) ((rd_T29 l0 (ji17)).f2) ((rd_T29 l0 (ji17)).f3) ((rd_T29 l0 (ji17)).f4) ((rd_T29 l0 (ji17)).f5) ((rd_T29 l0 (ji17)).f6) a1).bind fun bt116 => (lineno_Number.j1 k1 l0 a1 x5_1 x14_1 l0 (l0.length : Int) x14_1 (!(t112 == bt116.1) || (!(t113 == bt116.2.1) || (!(t114 == bt116.2.2)))) x110000_1 x110001_1 ((rd_T29 l0 x14_1).f0) ((rd_T29 l0 x14_1).f1) ((rd_T29 l0 x14_1).f2) ((rd_T29 l0 x14_1).f3) ((rd_T29 l0 x14_1).f4) ((rd_T29 l0 x14_1).f5) ((rd_T29 l0 x14_1).f6))) else (none)) else (none)) = some r := by first | (rw [hji17] at H; exact H) | (simp only [hji17] at H ⊢; exact H)
                    (try rw [hji17] at A16)
                    have hji17w : (IntKind.i64.wrap (x14_1 - 1)) = ji17 := (i64_w _).trans hji17
                    by_cases c18 : 0 ≤ (ji17)
                    · rw [if_pos c18] at H
                      have c18b0 : decide (0 ≤ (ji17)) = true := decide_eq_true c18
                      clear c18
                      by_cases c19 : (ji17) < (l0.length : Int)
                      · rw [if_pos c19] at H
                        have c19b0 : decide ((ji17) < (l0.length : Int)) = true := decide_eq_true c19
                        clear c19
                        replace H := Option.bind_eq_some_iff.mp H
                        obtain ⟨⟨t116, t117, t118⟩, A200, H⟩ := H
                        replace H : (lineno_Number.j1 k1 l0 a1 x5_1 x14_1 l0 (l0.length : Int) x14_1 (!(t112 == t116) || (!(t113 == t117) || (!(t114 == t118)))) x110000_1 x110001_1 ((rd_T29 l0 x14_1).f0) ((rd_T29 l0 x14_1).f1) ((rd_T29 l0 x14_1).f2) ((rd_T29 l0 x14_1).f3) ((rd_T29 l0 x14_1).f4) ((rd_T29 l0 x14_1).f5) ((rd_T29 l0 x14_1).f6)) = some r := H
                        have A20 := Aside0.mk A200
                        clear A200
                        have H' := Aside0.mk H
                        clear H
                        try go_wp2
                        have n0_ : Aside0 (Kd.R k31 31 (((((((w12.setCell ⟨gb111, 0, none⟩ (.int .i64 ((rd_T29 l0 x14_1).f0))).setCell ⟨gb111, 1, none⟩ (.int .i64 ((rd_T29 l0 x14_1).f1))).setCell ⟨gb111, 2, none⟩ (.int .i64 ((rd_T29 l0 x14_1).f2))).setCell ⟨gb111, 3, none⟩ (.int .i64 ((rd_T29 l0 x14_1).f3))).setCell ⟨gb111, 4, none⟩ (.bool ((rd_T29 l0 x14_1).f4))).setCell ⟨gb111, 5, none⟩ (.bool ((rd_T29 l0 x14_1).f5))).setCell ⟨gb111, 6, none⟩ (.bool ((rd_T29 l0 x14_1).f6))) w.heap.size (fun k_ => k_ ≠ gb109) v107 x5_1) := ⟨by (with_reducible repeat (first | apply Kd.R_alloc | apply Kd.R_drewN | apply Kd.R_drew)); exact Kd.R_mono (Kd.R_far (p := ⟨gb111, 6, none⟩) (Kd.R_far (p := ⟨gb111, 5, none⟩) (Kd.R_far (p := ⟨gb111, 4, none⟩) (Kd.R_far (p := ⟨gb111, 3, none⟩) (Kd.R_far (p := ⟨gb111, 2, none⟩) (Kd.R_far (p := ⟨gb111, 1, none⟩) (Kd.R_far (p := ⟨gb111, 0, none⟩) (Kd.R_types HO_5.out BK111.out (by decide)) (fun _ hk => hk.2) (.int .i64 ((rd_T29 l0 x14_1).f0))) (fun _ hk => hk.2) (.int .i64 ((rd_T29 l0 x14_1).f1))) (fun _ hk => hk.2) (.int .i64 ((rd_T29 l0 x14_1).f2))) (fun _ hk => hk.2) (.int .i64 ((rd_T29 l0 x14_1).f3))) (fun _ hk => hk.2) (.bool ((rd_T29 l0 x14_1).f4))) (fun _ hk => hk.2) (.bool ((rd_T29 l0 x14_1).f5))) (fun _ hk => hk.2) (.bool ((rd_T29 l0 x14_1).f6))) (fun _ hk => hk.1)⟩
                        have n1_ : Aside0 ((((((((w12.setCell ⟨gb111, 0, none⟩ (.int .i64 ((rd_T29 l0 x14_1).f0))).setCell ⟨gb111, 1, none⟩ (.int .i64 ((rd_T29 l0 x14_1).f1))).setCell ⟨gb111, 2, none⟩ (.int .i64 ((rd_T29 l0 x14_1).f2))).setCell ⟨gb111, 3, none⟩ (.int .i64 ((rd_T29 l0 x14_1).f3))).setCell ⟨gb111, 4, none⟩ (.bool ((rd_T29 l0 x14_1).f4))).setCell ⟨gb111, 5, none⟩ (.bool ((rd_T29 l0 x14_1).f5))).setCell ⟨gb111, 6, none⟩ (.bool ((rd_T29 l0 x14_1).f6))).heap[gb109]? = some (.cells #[.int .i64 x110000_1, .int .i64 x110001_1] 31 (0, 0))) := ⟨by (with_reducible repeat (first | refine blk_drewN ?_ _ | refine blk_drew ?_ | refine blk_alloc ?_ _)); refine blk_far ?_ NB109_111.out _; (with_reducible repeat (first | refine blk_drewN ?_ _ | refine blk_drew ?_ | refine blk_alloc ?_ _)); refine blk_far ?_ NB109_111.out _; (with_reducible repeat (first | refine blk_drewN ?_ _ | refine blk_drew ?_ | refine blk_alloc ?_ _)); refine blk_far ?_ NB109_111.out _; (with_reducible repeat (first | refine blk_drewN ?_ _ | refine blk_drew ?_ | refine blk_alloc ?_ _)); refine blk_far ?_ NB109_111.out _; (with_reducible repeat (first | refine blk_drewN ?_ _ | refine blk_drew ?_ | refine blk_alloc ?_ _)); refine blk_far ?_ NB109_111.out _; (with_reducible repeat (first | refine blk_drewN ?_ _ | refine blk_drew ?_ | refine blk_alloc ?_ _)); refine blk_far ?_ NB109_111.out _; (with_reducible repeat (first | refine blk_drewN ?_ _ | refine blk_drew ?_ | refine blk_alloc ?_ _)); refine blk_far ?_ NB109_111.out _; (with_reducible repeat (first | refine blk_drewN ?_ _ | refine blk_drew ?_ | refine blk_alloc ?_ _)); exact BK109.out⟩
                        have n2_ : Aside0 ((((((((w12.setCell ⟨gb111, 0, none⟩ (.int .i64 ((rd_T29 l0 x14_1).f0))).setCell ⟨gb111, 1, none⟩ (.int .i64 ((rd_T29 l0 x14_1).f1))).setCell ⟨gb111, 2, none⟩ (.int .i64 ((rd_T29 l0 x14_1).f2))).setCell ⟨gb111, 3, none⟩ (.int .i64 ((rd_T29 l0 x14_1).f3))).setCell ⟨gb111, 4, none⟩ (.bool ((rd_T29 l0 x14_1).f4))).setCell ⟨gb111, 5, none⟩ (.bool ((rd_T29 l0 x14_1).f5))).setCell ⟨gb111, 6, none⟩ (.bool ((rd_T29 l0 x14_1).f6))).heap[gb111]? = some (.cells #[.int .i64 ((rd_T29 l0 x14_1).f0), .int .i64 ((rd_T29 l0 x14_1).f1), .int .i64 ((rd_T29 l0 x14_1).f2), .int .i64 ((rd_T29 l0 x14_1).f3), .bool ((rd_T29 l0 x14_1).f4), .bool ((rd_T29 l0 x14_1).f5), .bool ((rd_T29 l0 x14_1).f6)] 29 (0, 0))) := ⟨by (with_reducible repeat (first | refine blk_drewN ?_ _ | refine blk_drew ?_ | refine blk_alloc ?_ _)); refine blk_put (cs := #[.int .i64 ((rd_T29 l0 x14_1).f0), .int .i64 ((rd_T29 l0 x14_1).f1), .int .i64 ((rd_T29 l0 x14_1).f2), .int .i64 ((rd_T29 l0 x14_1).f3), .bool ((rd_T29 l0 x14_1).f4), .bool ((rd_T29 l0 x14_1).f5), .bool false]) ?_ 6 _ rfl; (with_reducible repeat (first | refine blk_drewN ?_ _ | refine blk_drew ?_ | refine blk_alloc ?_ _)); refine blk_put (cs := #[.int .i64 ((rd_T29 l0 x14_1).f0), .int .i64 ((rd_T29 l0 x14_1).f1), .int .i64 ((rd_T29 l0 x14_1).f2), .int .i64 ((rd_T29 l0 x14_1).f3), .bool ((rd_T29 l0 x14_1).f4), .bool false, .bool false]) ?_ 5 _ rfl; (with_reducible repeat (first | refine blk_drewN ?_ _ | refine blk_drew ?_ | refine blk_alloc ?_ _)); refine blk_put (cs := #[.int .i64 ((rd_T29 l0 x14_1).f0), .int .i64 ((rd_T29 l0 x14_1).f1), .int .i64 ((rd_T29 l0 x14_1).f2), .int .i64 ((rd_T29 l0 x14_1).f3), .bool false, .bool false, .bool false]) ?_ 4 _ rfl; (with_reducible repeat (first | refine blk_drewN ?_ _ | refine blk_drew ?_ | refine blk_alloc ?_ _)); refine blk_put (cs := #[.int .i64 ((rd_T29 l0 x14_1).f0), .int .i64 ((rd_T29 l0 x14_1).f1), .int .i64 ((rd_T29 l0 x14_1).f2), .int .i64 0, .bool false, .bool false, .bool false]) ?_ 3 _ rfl; (with_reducible repeat (first | refine blk_drewN ?_ _ | refine blk_drew ?_ | refine blk_alloc ?_ _)); refine blk_put (cs := #[.int .i64 ((rd_T29 l0 x14_1).f0), .int .i64 ((rd_T29 l0 x14_1).f1), .int .i64 0, .int .i64 0, .bool false, .bool false, .bool false]) ?_ 2 _ rfl; (with_reducible repeat (first | refine blk_drewN ?_ _ | refine blk_drew ?_ | refine blk_alloc ?_ _)); refine blk_put (cs := #[.int .i64 ((rd_T29 l0 x14_1).f0), .int .i64 0, .int .i64 0, .int .i64 0, .bool false, .bool false, .bool false]) ?_ 1 _ rfl; (with_reducible repeat (first | refine blk_drewN ?_ _ | refine blk_drew ?_ | refine blk_alloc ?_ _)); refine blk_put (cs := #[.int .i64 0, .int .i64 0, .int .i64 0, .int .i64 0, .bool false, .bool false, .bool false]) ?_ 0 _ rfl; (with_reducible repeat (first | refine blk_drewN ?_ _ | refine blk_drew ?_ | refine blk_alloc ?_ _)); exact BK111.out⟩
                        have n3_ : Aside0 (Below w.heap.size w (((((((w12.setCell ⟨gb111, 0, none⟩ (.int .i64 ((rd_T29 l0 x14_1).f0))).setCell ⟨gb111, 1, none⟩ (.int .i64 ((rd_T29 l0 x14_1).f1))).setCell ⟨gb111, 2, none⟩ (.int .i64 ((rd_T29 l0 x14_1).f2))).setCell ⟨gb111, 3, none⟩ (.int .i64 ((rd_T29 l0 x14_1).f3))).setCell ⟨gb111, 4, none⟩ (.bool ((rd_T29 l0 x14_1).f4))).setCell ⟨gb111, 5, none⟩ (.bool ((rd_T29 l0 x14_1).f5))).setCell ⟨gb111, 6, none⟩ (.bool ((rd_T29 l0 x14_1).f6)))) := ⟨by repeat (first | (with_reducible first | exact HB.out | apply below_alloc | apply pw_below_drewN | apply below_drew1 | refine below_set ?_ GE109.out | refine below_set ?_ GE111.out) | exact HB.out)⟩
                        (try clear HO_5)
                        (try clear BK109)
                        (try clear BK111)
                        (try clear HB)
                        generalize (((((((w12.setCell ⟨gb111, 0, none⟩ (.int .i64 ((rd_T29 l0 x14_1).f0))).setCell ⟨gb111, 1, none⟩ (.int .i64 ((rd_T29 l0 x14_1).f1))).setCell ⟨gb111, 2, none⟩ (.int .i64 ((rd_T29 l0 x14_1).f2))).setCell ⟨gb111, 3, none⟩ (.int .i64 ((rd_T29 l0 x14_1).f3))).setCell ⟨gb111, 4, none⟩ (.bool ((rd_T29 l0 x14_1).f4))).setCell ⟨gb111, 5, none⟩ (.bool ((rd_T29 l0 x14_1).f5))).setCell ⟨gb111, 6, none⟩ (.bool ((rd_T29 l0 x14_1).f6))) = w21 at n0_ n1_ n2_ n3_ ⊢
                        have HO_5 := n0_
                        have BK109 := n1_
                        have BK111 := n2_
                        have HB := n3_
                        clear n0_ n1_ n2_ n3_
                        have n0_ := Aside0.mk (Kd.R_drew HO_5.out)
                        have n1_ := Aside0.mk (blk_drew BK109.out)
                        have n2_ := Aside0.mk (blk_drew BK111.out)
                        have n3_ := Aside0.mk (below_drew1 HB.out)
                        clear HO_5
                        clear BK109
                        clear BK111
                        clear HB
                        have HO_5 := n0_
                        have BK109 := n1_
                        have BK111 := n2_
                        have HB := n3_
                        clear n0_ n1_ n2_ n3_
                        have p115 : 0 ≤ ((ji17) : Int) := of_decide_eq_true (by first | (with_reducible assumption) | assumption)
                        have q115 : (ji17) < (l0.length : Int) := of_decide_eq_true (by first | (with_reducible assumption) | assumption)
                        obtain ⟨ad115, e115, hx115_0, hx115_1, hx115_2, hx115_3, hx115_4, hx115_5, hx115_6⟩ := at_T29 HR0.out (ji17) p115 q115
                        have hw115_6 := hx115_6
                        have hw115_5 := hx115_5
                        have hw115_4 := hx115_4
                        have hw115_3 := hx115_3
                        have hw115_2 := hx115_2
                        have hw115_1 := hx115_1
                        have hw115_0 := hx115_0
                        obtain rfl : ad110 = ad115 := (by injection e115)
                        replace hx115_0 := (HB.out.cell (World.block_lt_of_cell? w _ hx115_0)).trans hx115_0
                        replace hx115_1 := (HB.out.cell (World.block_lt_of_cell? w _ hx115_1)).trans hx115_1
                        replace hx115_2 := (HB.out.cell (World.block_lt_of_cell? w _ hx115_2)).trans hx115_2
                        replace hx115_3 := (HB.out.cell (World.block_lt_of_cell? w _ hx115_3)).trans hx115_3
                        replace hx115_4 := (HB.out.cell (World.block_lt_of_cell? w _ hx115_4)).trans hx115_4
                        replace hx115_5 := (HB.out.cell (World.block_lt_of_cell? w _ hx115_5)).trans hx115_5
                        replace hx115_6 := (HB.out.cell (World.block_lt_of_cell? w _ hx115_6)).trans hx115_6
                        replace p115 := eq_true p115
                        replace q115 := eq_true q115
                        refine start_ (n := 15) (S := fun w' => w'.cell? ⟨gb111, 0, none⟩ = some (.int .i64 ((rd_T29 l0 x14_1).f0)) ∧ w'.cell? ⟨gb111, 1, none⟩ = some (.int .i64 ((rd_T29 l0 x14_1).f1)) ∧ w'.cell? ⟨gb111, 2, none⟩ = some (.int .i64 ((rd_T29 l0 x14_1).f2)) ∧ w'.cell? ⟨gb111, 3, none⟩ = some (.int .i64 ((rd_T29 l0 x14_1).f3)) ∧ w'.cell? ⟨gb111, 4, none⟩ = some (.bool ((rd_T29 l0 x14_1).f4)) ∧ w'.cell? ⟨gb111, 5, none⟩ = some (.bool ((rd_T29 l0 x14_1).f5)) ∧ w'.cell? ⟨gb111, 6, none⟩ = some (.bool ((rd_T29 l0 x14_1).f6)) ∧ w'.cell? (ad110.add (((ji17)).toNat * 7)) = some (.int .i64 ((rd_T29 l0 (ji17)).f0)) ∧ w'.cell? ⟨(ad110.add (((ji17)).toNat * 7)).block, (ad110.add (((ji17)).toNat * 7)).off + 1, none⟩ = some (.int .i64 ((rd_T29 l0 (ji17)).f1)) ∧ w'.cell? ⟨(ad110.add (((ji17)).toNat * 7)).block, (ad110.add (((ji17)).toNat * 7)).off + 2, none⟩ = some (.int .i64 ((rd_T29 l0 (ji17)).f2)) ∧ w'.cell? ⟨(ad110.add (((ji17)).toNat * 7)).block, (ad110.add (((ji17)).toNat * 7)).off + 3, none⟩ = some (.int .i64 ((rd_T29 l0 (ji17)).f3)) ∧ w'.cell? ⟨(ad110.add (((ji17)).toNat * 7)).block, (ad110.add (((ji17)).toNat * 7)).off + 4, none⟩ = some (.bool ((rd_T29 l0 (ji17)).f4)) ∧ w'.cell? ⟨(ad110.add (((ji17)).toNat * 7)).block, (ad110.add (((ji17)).toNat * 7)).off + 5, none⟩ = some (.bool ((rd_T29 l0 (ji17)).f5)) ∧ w'.cell? ⟨(ad110.add (((ji17)).toNat * 7)).block, (ad110.add (((ji17)).toNat * 7)).off + 6, none⟩ = some (.bool ((rd_T29 l0 (ji17)).f6))) (ds := []) #[false, false, false, false, false, false, false, false, false, false, false, false, false, false, false] (by kernel_rfl) rfl rfl ⟨(blk_cell BK111.out 0).trans rfl, (blk_cell BK111.out 1).trans rfl, (blk_cell BK111.out 2).trans rfl, (blk_cell BK111.out 3).trans rfl, (blk_cell BK111.out 4).trans rfl, (blk_cell BK111.out 5).trans rfl, (blk_cell BK111.out 6).trans rfl, ((HB.out.cell (World.block_lt_of_cell? w _ hw115_0)).trans hw115_0), ((HB.out.cell (World.block_lt_of_cell? w _ hw115_1)).trans hw115_1), ((HB.out.cell (World.block_lt_of_cell? w _ hw115_2)).trans hw115_2), ((HB.out.cell (World.block_lt_of_cell? w _ hw115_3)).trans hw115_3), ((HB.out.cell (World.block_lt_of_cell? w _ hw115_4)).trans hw115_4), ((HB.out.cell (World.block_lt_of_cell? w _ hw115_5)).trans hw115_5), ((HB.out.cell (World.block_lt_of_cell? w _ hw115_6)).trans hw115_6)⟩ (fun hHeld => ?_); refine with_tabW lineno_Number.tab6 lineno_Number.bits6 (fun HT_ HW_ => ?_)
                        generalize w21.drew = w22 at HO_5 BK109 BK111 HB hx115_0 hx115_1 hx115_2 hx115_3 hx115_4 hx115_5 hx115_6 hHeld ⊢
                        refine pure_ (i := 0) (N := some 19) (v := ?_) (a' := ?_) #[true, false, false, false, false, false, false, false, false, false, false, false, false, false, false] rfl rfl (any_of HT_.out (by kernel_rfl)) (fun _ _ _ h => h) (Or.inl ⟨by rfl, ?_⟩) ?_ ?_
                        rotate_left
                        · intro w'
                          go_simp
                          with_reducible rfl
                        rotate_left
                        · simp only [Act.put, List.setIfInBounds_toArray, List.set_cons_zero, List.set_cons_succ, i64_w, i32_w]
                          rfl
                        refine pure_ (i := 1) (N := some 20) (v := ?_) (a' := ?_) #[true, true, false, false, false, false, false, false, false, false, false, false, false, false, false] rfl rfl (any_of HT_.out (by kernel_rfl)) (fun _ _ _ h => h) (Or.inl ⟨by rfl, ?_⟩) ?_ ?_
                        rotate_left
                        · intro w'
                          go_simp
                          with_reducible rfl
                        rotate_left
                        · simp only [Act.put, List.setIfInBounds_toArray, List.set_cons_zero, List.set_cons_succ, i64_w, i32_w]
                          rfl
                        refine pure_ (i := 2) (N := some 21) (v := ?_) (a' := ?_) #[true, true, true, false, false, false, false, false, false, false, false, false, false, false, false] rfl rfl (any_of HT_.out (by kernel_rfl)) (fun _ _ _ h => h) (Or.inl ⟨by rfl, ?_⟩) ?_ ?_
                        rotate_left
                        · intro w'
                          go_simp
                          with_reducible rfl
                        rotate_left
                        · simp only [Act.put, List.setIfInBounds_toArray, List.set_cons_zero, List.set_cons_succ, i64_w, i32_w]
                          rfl
                        refine pure_ (i := 4) (N := some 23) (v := ?_) (a' := ?_) #[true, true, true, false, true, false, false, false, false, false, false, false, false, false, false] rfl rfl (any_of HT_.out (by kernel_rfl)) (fun _ _ _ h => h) (Or.inl ⟨by rfl, ?_⟩) ?_ ?_
                        rotate_left
                        · intro w'
                          go_simp
                          with_reducible rfl
                        rotate_left
                        · simp only [Act.put, List.setIfInBounds_toArray, List.set_cons_zero, List.set_cons_succ, i64_w, i32_w]
                          rfl
                        refine pure_ (i := 6) (N := some 25) (v := ?_) (a' := ?_) #[true, true, true, false, true, false, true, false, false, false, false, false, false, false, false] rfl rfl (any_of HT_.out (by kernel_rfl)) (fun _ _ _ h => h) (Or.inl ⟨by rfl, ?_⟩) ?_ ?_
                        rotate_left
                        · intro w'
                          go_simp
                          with_reducible rfl
                        rotate_left
                        · simp only [Act.put, List.setIfInBounds_toArray, List.set_cons_zero, List.set_cons_succ, i64_w, i32_w]
                          rfl
                        refine pure_ (i := 7) (N := some 26) (v := ?_) (a' := ?_) #[true, true, true, false, true, false, true, true, false, false, false, false, false, false, false] rfl rfl (any_of HT_.out (by kernel_rfl)) (fun _ _ _ h => h) (Or.inl ⟨by rfl, ?_⟩) ?_ ?_
                        rotate_left
                        · intro w'
                          go_simp
                          with_reducible rfl
                        rotate_left
                        · simp only [Act.put, List.setIfInBounds_toArray, List.set_cons_zero, List.set_cons_succ, i64_w, i32_w]
                          rfl
                        refine pure_ (i := 8) (N := some 27) (v := ?_) (a' := ?_) #[true, true, true, false, true, false, true, true, true, false, false, false, false, false, false] rfl rfl (any_of HT_.out (by kernel_rfl)) (fun _ _ _ h => h) (Or.inl ⟨by rfl, ?_⟩) ?_ ?_
                        rotate_left
                        · intro w'
                          go_simp
                          with_reducible rfl
                        rotate_left
                        · simp only [Act.put, List.setIfInBounds_toArray, List.set_cons_zero, List.set_cons_succ, i64_w, i32_w]
                          rfl
                        refine pure_ (i := 9) (N := some 28) (v := ?_) (a' := ?_) #[true, true, true, false, true, false, true, true, true, true, false, false, false, false, false] rfl rfl (any_of HT_.out (by kernel_rfl)) (fun _ _ _ h => h) (Or.inl ⟨by rfl, ?_⟩) ?_ ?_
                        rotate_left
                        · intro w'
                          go_simp
                          with_reducible rfl
                        rotate_left
                        · simp only [Act.put, List.setIfInBounds_toArray, List.set_cons_zero, List.set_cons_succ, i64_w, i32_w]
                          rfl
                        refine pure_ (i := 11) (N := some 30) (v := ?_) (a' := ?_) #[true, true, true, false, true, false, true, true, true, true, false, true, false, false, false] rfl rfl (any_of HT_.out (by kernel_rfl)) (fun _ _ _ h => h) (Or.inl ⟨by rfl, ?_⟩) ?_ ?_
                        rotate_left
                        · intro w'
                          go_simp
                          with_reducible rfl
                        rotate_left
                        · simp only [Act.put, List.setIfInBounds_toArray, List.set_cons_zero, List.set_cons_succ, i64_w, i32_w]
                          rfl
                        refine take_ (i := 3) (N := some 22) (v := ?_) (a' := ?_) #[true, true, true, true, true, false, true, true, true, true, false, true, false, false, false] rfl rfl (take_ofW HT_.out HW_.out (by kernel_rfl)) (fun _ _ _ h => h) (Or.inl ⟨by rfl, ?_⟩) hHeld ?_ ?_
                        rotate_left
                        · rintro w' ⟨s0, s1, s2, s3, s4, s5, s6, s7, s8, s9, s10, s11, s12, s13⟩
                          go_simp
                          with_reducible rfl
                        rotate_left
                        · simp only [Act.put, List.setIfInBounds_toArray, List.set_cons_zero, List.set_cons_succ, i64_w, i32_w]
                          rfl
                        refine take_ (i := 10) (N := some 29) (v := ?_) (a' := ?_) #[true, true, true, true, true, false, true, true, true, true, true, true, false, false, false] rfl rfl (take_ofW HT_.out HW_.out (by kernel_rfl)) (fun _ _ _ h => h) (Or.inl ⟨by rfl, ?_⟩) hHeld ?_ ?_
                        rotate_left
                        · rintro w' ⟨s0, s1, s2, s3, s4, s5, s6, s7, s8, s9, s10, s11, s12, s13⟩
                          go_simp
                          with_reducible rfl
                        rotate_left
                        · simp only [Act.put, List.setIfInBounds_toArray, List.set_cons_zero, List.set_cons_succ, i64_w, i32_w]
                          rfl
                        refine one_ (i := 5) (N := some 24) #[true, true, true, true, true, true, true, true, true, true, true, true, false, false, false] rfl rfl (one_of HT_.out (by kernel_rfl)) (by decide) (fun K hK => ?_)
                        refine goes_ Try.func9 (by kernel_rfl) rfl #[.agg #[.int .i64 ((rd_T29 l0 x14_1).f0), .int .i64 ((rd_T29 l0 x14_1).f1), .int .i64 ((rd_T29 l0 x14_1).f2), .int .i64 ((rd_T29 l0 x14_1).f3), .bool ((rd_T29 l0 x14_1).f4), .bool ((rd_T29 l0 x14_1).f5), .bool ((rd_T29 l0 x14_1).f6)], .int .i64 a1] (by rfl) rfl rfl (by (try simp only [List.map_toArray, List.map_cons, List.map_nil]); first | done | rfl | (simp only [List.length_drop, List.length_take]; rfl) | (simp only [*]; first | done | rfl)) ?_
                        with_reducible refine (lineno_Unit.calls ((rd_T29 l0 x14_1).f0) ((rd_T29 l0 x14_1).f1) ((rd_T29 l0 x14_1).f2) ((rd_T29 l0 x14_1).f3) ((rd_T29 l0 x14_1).f4) ((rd_T29 l0 x14_1).f5) ((rd_T29 l0 x14_1).f6) a1 t112 t113 t114 _ A16.out).mono ?_
                        rintro e w23 ⟨rfl, hb⟩
                        refine ⟨_, rfl, ?_⟩
                        have n0_ := Aside0.mk (Kd.R_below (by (with_reducible repeat (first | apply Kd.R_alloc | apply Kd.R_drewN | apply Kd.R_drew)); exact HO_5.out) hb)
                        have n1_ := Aside0.mk (blk_below (g := gb109) (o := .cells #[.int .i64 x110000_1, .int .i64 x110001_1] 31 (0, 0)) (by (with_reducible repeat (first | refine blk_drewN ?_ _ | refine blk_drew ?_ | refine blk_alloc ?_ _)); exact BK109.out) hb)
                        have n2_ := Aside0.mk (blk_below (g := gb111) (o := .cells #[.int .i64 ((rd_T29 l0 x14_1).f0), .int .i64 ((rd_T29 l0 x14_1).f1), .int .i64 ((rd_T29 l0 x14_1).f2), .int .i64 ((rd_T29 l0 x14_1).f3), .bool ((rd_T29 l0 x14_1).f4), .bool ((rd_T29 l0 x14_1).f5), .bool ((rd_T29 l0 x14_1).f6)] 29 (0, 0)) (by (with_reducible repeat (first | refine blk_drewN ?_ _ | refine blk_drew ?_ | refine blk_alloc ?_ _)); exact BK111.out) hb)
                        have n3_ := Aside0.mk (below_step (by repeat (first | (with_reducible first | exact HB.out | apply below_alloc | apply pw_below_drewN | apply below_drew1 | refine below_set ?_ GE109.out | refine below_set ?_ GE111.out) | exact HB.out)) hb)
                        clear HO_5
                        clear BK109
                        clear BK111
                        clear HB
                        have HO_5 := n0_
                        have BK109 := n1_
                        have BK111 := n2_
                        have HB := n3_
                        clear n0_ n1_ n2_ n3_
                        (try clear hb)
                        (try clear hb2)
                        (try clear hk)
                        (try clear hi)
                        refine hK.out _ _ ⟨(blk_cell BK111.out 0).trans rfl, (blk_cell BK111.out 1).trans rfl, (blk_cell BK111.out 2).trans rfl, (blk_cell BK111.out 3).trans rfl, (blk_cell BK111.out 4).trans rfl, (blk_cell BK111.out 5).trans rfl, (blk_cell BK111.out 6).trans rfl, ((HB.out.cell (World.block_lt_of_cell? w _ hw115_0)).trans hw115_0), ((HB.out.cell (World.block_lt_of_cell? w _ hw115_1)).trans hw115_1), ((HB.out.cell (World.block_lt_of_cell? w _ hw115_2)).trans hw115_2), ((HB.out.cell (World.block_lt_of_cell? w _ hw115_3)).trans hw115_3), ((HB.out.cell (World.block_lt_of_cell? w _ hw115_4)).trans hw115_4), ((HB.out.cell (World.block_lt_of_cell? w _ hw115_5)).trans hw115_5), ((HB.out.cell (World.block_lt_of_cell? w _ hw115_6)).trans hw115_6)⟩ (fun hHeld => ?_)
                        clear hK K
                        refine norm_ (a' := ?_) ?_ ?_
                        rotate_left
                        · show Act.put _ (some 24) _ = _
                          simp only [Act.put, List.setIfInBounds_toArray, List.set_cons_zero, List.set_cons_succ, i64_w, i32_w]
                          rfl
                        refine one_ (i := 12) (N := some 31) #[true, true, true, true, true, true, true, true, true, true, true, true, true, false, false] rfl rfl (one_of HT_.out (by kernel_rfl)) (by decide) (fun K hK => ?_)
                        refine goes_ Try.func9 (by kernel_rfl) rfl #[.agg #[.int .i64 ((rd_T29 l0 (ji17)).f0), .int .i64 ((rd_T29 l0 (ji17)).f1), .int .i64 ((rd_T29 l0 (ji17)).f2), .int .i64 ((rd_T29 l0 (ji17)).f3), .bool ((rd_T29 l0 (ji17)).f4), .bool ((rd_T29 l0 (ji17)).f5), .bool ((rd_T29 l0 (ji17)).f6)], .int .i64 a1] (by rfl) rfl rfl (by (try simp only [List.map_toArray, List.map_cons, List.map_nil]); first | done | (simp only [hji17]; rfl) | rfl | (simp only [List.length_drop, List.length_take]; rfl)) ?_
                        with_reducible refine (lineno_Unit.calls ((rd_T29 l0 (ji17)).f0) ((rd_T29 l0 (ji17)).f1) ((rd_T29 l0 (ji17)).f2) ((rd_T29 l0 (ji17)).f3) ((rd_T29 l0 (ji17)).f4) ((rd_T29 l0 (ji17)).f5) ((rd_T29 l0 (ji17)).f6) a1 t116 t117 t118 _ A20.out).mono ?_
                        rintro e w24 ⟨rfl, hb⟩
                        refine ⟨_, rfl, ?_⟩
                        have n0_ := Aside0.mk (Kd.R_below (by (with_reducible repeat (first | apply Kd.R_alloc | apply Kd.R_drewN | apply Kd.R_drew)); exact HO_5.out) hb)
                        have n1_ := Aside0.mk (blk_below (g := gb109) (o := .cells #[.int .i64 x110000_1, .int .i64 x110001_1] 31 (0, 0)) (by (with_reducible repeat (first | refine blk_drewN ?_ _ | refine blk_drew ?_ | refine blk_alloc ?_ _)); exact BK109.out) hb)
                        have n2_ := Aside0.mk (blk_below (g := gb111) (o := .cells #[.int .i64 ((rd_T29 l0 x14_1).f0), .int .i64 ((rd_T29 l0 x14_1).f1), .int .i64 ((rd_T29 l0 x14_1).f2), .int .i64 ((rd_T29 l0 x14_1).f3), .bool ((rd_T29 l0 x14_1).f4), .bool ((rd_T29 l0 x14_1).f5), .bool ((rd_T29 l0 x14_1).f6)] 29 (0, 0)) (by (with_reducible repeat (first | refine blk_drewN ?_ _ | refine blk_drew ?_ | refine blk_alloc ?_ _)); exact BK111.out) hb)
                        have n3_ := Aside0.mk (below_step (by repeat (first | (with_reducible first | exact HB.out | apply below_alloc | apply pw_below_drewN | apply below_drew1 | refine below_set ?_ GE109.out | refine below_set ?_ GE111.out) | exact HB.out)) hb)
                        clear HO_5
                        clear BK109
                        clear BK111
                        clear HB
                        have HO_5 := n0_
                        have BK109 := n1_
                        have BK111 := n2_
                        have HB := n3_
                        clear n0_ n1_ n2_ n3_
                        (try clear hb)
                        (try clear hb2)
                        (try clear hk)
                        (try clear hi)
                        refine hK.out _ _ ⟨(blk_cell BK111.out 0).trans rfl, (blk_cell BK111.out 1).trans rfl, (blk_cell BK111.out 2).trans rfl, (blk_cell BK111.out 3).trans rfl, (blk_cell BK111.out 4).trans rfl, (blk_cell BK111.out 5).trans rfl, (blk_cell BK111.out 6).trans rfl, ((HB.out.cell (World.block_lt_of_cell? w _ hw115_0)).trans hw115_0), ((HB.out.cell (World.block_lt_of_cell? w _ hw115_1)).trans hw115_1), ((HB.out.cell (World.block_lt_of_cell? w _ hw115_2)).trans hw115_2), ((HB.out.cell (World.block_lt_of_cell? w _ hw115_3)).trans hw115_3), ((HB.out.cell (World.block_lt_of_cell? w _ hw115_4)).trans hw115_4), ((HB.out.cell (World.block_lt_of_cell? w _ hw115_5)).trans hw115_5), ((HB.out.cell (World.block_lt_of_cell? w _ hw115_6)).trans hw115_6)⟩ (fun hHeld => ?_)
                        clear hK K
                        refine norm_ (a' := ?_) ?_ ?_
                        rotate_left
                        · show Act.put _ (some 31) _ = _
                          simp only [Act.put, List.setIfInBounds_toArray, List.set_cons_zero, List.set_cons_succ, i64_w, i32_w]
                          rfl
                        refine pure_ (i := 13) (N := some 32) (v := ?_) (a' := ?_) #[true, true, true, true, true, true, true, true, true, true, true, true, true, true, false] rfl rfl (any_of HT_.out (by kernel_rfl)) (fun _ _ _ h => h) (Or.inl ⟨by rfl, ?_⟩) ?_ ?_
                        rotate_left
                        · intro w'
                          go_simp
                          with_reducible rfl
                        rotate_left
                        · simp only [Act.put, List.setIfInBounds_toArray, List.set_cons_zero, List.set_cons_succ, i64_w, i32_w]
                          rfl
                        refine pure_ (i := 14) (N := some 33) (v := ?_) (a' := ?_) #[true, true, true, true, true, true, true, true, true, true, true, true, true, true, true] rfl rfl (any_of HT_.out (by kernel_rfl)) (fun _ _ _ h => h) (Or.inl ⟨by rfl, ?_⟩) ?_ ?_
                        rotate_left
                        · intro w'
                          go_simp
                          with_reducible rfl
                        rotate_left
                        · simp only [Act.put, List.setIfInBounds_toArray, List.set_cons_zero, List.set_cons_succ, i64_w, i32_w]
                          rfl
                        refine done_ (done_of HT_.out (by kernel_rfl)) ?_
                        try go_wp2
                        go_meet
                        case rel => exact ⟨_, ((!(t112 == t116) || (!(t113 == t117) || (!(t114 == t118))))), (by first | rfl | (simp; done) | (simp [*]; done)), H', ⟨by have := HK1.out; first | omega | exact Nat.le_refl _⟩, ⟨by (with_reducible repeat (first | apply Kd.R_alloc | apply Kd.R_drewN | apply Kd.R_drew)); exact HO_5.out⟩, ⟨by (with_reducible repeat (first | refine blk_drewN ?_ _ | refine blk_drew ?_ | refine blk_alloc ?_ _)); exact BK109.out⟩, ⟨by (with_reducible repeat (first | refine blk_drewN ?_ _ | refine blk_drew ?_ | refine blk_alloc ?_ _)); exact BK111.out⟩, ⟨by repeat (first | (with_reducible first | exact HB.out | apply below_alloc | apply pw_below_drewN | apply below_drew1 | refine below_set ?_ GE109.out | refine below_set ?_ GE111.out) | exact HB.out)⟩⟩
                      · rw [if_neg c19] at H
                        exact absurd H (by simp)
                    · rw [if_neg c18] at H
                      exact absurd H (by simp)
                  · rw [if_neg c15] at H
                    have c15b0 : decide (0 < x14_1) = false := decide_eq_false c15
                    clear c15
                    (first | rw [c15b0] | (simp only [i64_w, i32_w]; rw [c15b0]) | skip)
                    have H' := Aside0.mk H
                    clear H
                    try go_wp2
                    have n0_ : Aside0 (Kd.R k31 31 (((((((w12.setCell ⟨gb111, 0, none⟩ (.int .i64 ((rd_T29 l0 x14_1).f0))).setCell ⟨gb111, 1, none⟩ (.int .i64 ((rd_T29 l0 x14_1).f1))).setCell ⟨gb111, 2, none⟩ (.int .i64 ((rd_T29 l0 x14_1).f2))).setCell ⟨gb111, 3, none⟩ (.int .i64 ((rd_T29 l0 x14_1).f3))).setCell ⟨gb111, 4, none⟩ (.bool ((rd_T29 l0 x14_1).f4))).setCell ⟨gb111, 5, none⟩ (.bool ((rd_T29 l0 x14_1).f5))).setCell ⟨gb111, 6, none⟩ (.bool ((rd_T29 l0 x14_1).f6))) w.heap.size (fun k_ => k_ ≠ gb109) v107 x5_1) := ⟨by (with_reducible repeat (first | apply Kd.R_alloc | apply Kd.R_drewN | apply Kd.R_drew)); exact Kd.R_mono (Kd.R_far (p := ⟨gb111, 6, none⟩) (Kd.R_far (p := ⟨gb111, 5, none⟩) (Kd.R_far (p := ⟨gb111, 4, none⟩) (Kd.R_far (p := ⟨gb111, 3, none⟩) (Kd.R_far (p := ⟨gb111, 2, none⟩) (Kd.R_far (p := ⟨gb111, 1, none⟩) (Kd.R_far (p := ⟨gb111, 0, none⟩) (Kd.R_types HO_5.out BK111.out (by decide)) (fun _ hk => hk.2) (.int .i64 ((rd_T29 l0 x14_1).f0))) (fun _ hk => hk.2) (.int .i64 ((rd_T29 l0 x14_1).f1))) (fun _ hk => hk.2) (.int .i64 ((rd_T29 l0 x14_1).f2))) (fun _ hk => hk.2) (.int .i64 ((rd_T29 l0 x14_1).f3))) (fun _ hk => hk.2) (.bool ((rd_T29 l0 x14_1).f4))) (fun _ hk => hk.2) (.bool ((rd_T29 l0 x14_1).f5))) (fun _ hk => hk.2) (.bool ((rd_T29 l0 x14_1).f6))) (fun _ hk => hk.1)⟩
                    have n1_ : Aside0 ((((((((w12.setCell ⟨gb111, 0, none⟩ (.int .i64 ((rd_T29 l0 x14_1).f0))).setCell ⟨gb111, 1, none⟩ (.int .i64 ((rd_T29 l0 x14_1).f1))).setCell ⟨gb111, 2, none⟩ (.int .i64 ((rd_T29 l0 x14_1).f2))).setCell ⟨gb111, 3, none⟩ (.int .i64 ((rd_T29 l0 x14_1).f3))).setCell ⟨gb111, 4, none⟩ (.bool ((rd_T29 l0 x14_1).f4))).setCell ⟨gb111, 5, none⟩ (.bool ((rd_T29 l0 x14_1).f5))).setCell ⟨gb111, 6, none⟩ (.bool ((rd_T29 l0 x14_1).f6))).heap[gb109]? = some (.cells #[.int .i64 x110000_1, .int .i64 x110001_1] 31 (0, 0))) := ⟨by (with_reducible repeat (first | refine blk_drewN ?_ _ | refine blk_drew ?_ | refine blk_alloc ?_ _)); refine blk_far ?_ NB109_111.out _; (with_reducible repeat (first | refine blk_drewN ?_ _ | refine blk_drew ?_ | refine blk_alloc ?_ _)); refine blk_far ?_ NB109_111.out _; (with_reducible repeat (first | refine blk_drewN ?_ _ | refine blk_drew ?_ | refine blk_alloc ?_ _)); refine blk_far ?_ NB109_111.out _; (with_reducible repeat (first | refine blk_drewN ?_ _ | refine blk_drew ?_ | refine blk_alloc ?_ _)); refine blk_far ?_ NB109_111.out _; (with_reducible repeat (first | refine blk_drewN ?_ _ | refine blk_drew ?_ | refine blk_alloc ?_ _)); refine blk_far ?_ NB109_111.out _; (with_reducible repeat (first | refine blk_drewN ?_ _ | refine blk_drew ?_ | refine blk_alloc ?_ _)); refine blk_far ?_ NB109_111.out _; (with_reducible repeat (first | refine blk_drewN ?_ _ | refine blk_drew ?_ | refine blk_alloc ?_ _)); refine blk_far ?_ NB109_111.out _; (with_reducible repeat (first | refine blk_drewN ?_ _ | refine blk_drew ?_ | refine blk_alloc ?_ _)); exact BK109.out⟩
                    have n2_ : Aside0 ((((((((w12.setCell ⟨gb111, 0, none⟩ (.int .i64 ((rd_T29 l0 x14_1).f0))).setCell ⟨gb111, 1, none⟩ (.int .i64 ((rd_T29 l0 x14_1).f1))).setCell ⟨gb111, 2, none⟩ (.int .i64 ((rd_T29 l0 x14_1).f2))).setCell ⟨gb111, 3, none⟩ (.int .i64 ((rd_T29 l0 x14_1).f3))).setCell ⟨gb111, 4, none⟩ (.bool ((rd_T29 l0 x14_1).f4))).setCell ⟨gb111, 5, none⟩ (.bool ((rd_T29 l0 x14_1).f5))).setCell ⟨gb111, 6, none⟩ (.bool ((rd_T29 l0 x14_1).f6))).heap[gb111]? = some (.cells #[.int .i64 ((rd_T29 l0 x14_1).f0), .int .i64 ((rd_T29 l0 x14_1).f1), .int .i64 ((rd_T29 l0 x14_1).f2), .int .i64 ((rd_T29 l0 x14_1).f3), .bool ((rd_T29 l0 x14_1).f4), .bool ((rd_T29 l0 x14_1).f5), .bool ((rd_T29 l0 x14_1).f6)] 29 (0, 0))) := ⟨by (with_reducible repeat (first | refine blk_drewN ?_ _ | refine blk_drew ?_ | refine blk_alloc ?_ _)); refine blk_put (cs := #[.int .i64 ((rd_T29 l0 x14_1).f0), .int .i64 ((rd_T29 l0 x14_1).f1), .int .i64 ((rd_T29 l0 x14_1).f2), .int .i64 ((rd_T29 l0 x14_1).f3), .bool ((rd_T29 l0 x14_1).f4), .bool ((rd_T29 l0 x14_1).f5), .bool false]) ?_ 6 _ rfl; (with_reducible repeat (first | refine blk_drewN ?_ _ | refine blk_drew ?_ | refine blk_alloc ?_ _)); refine blk_put (cs := #[.int .i64 ((rd_T29 l0 x14_1).f0), .int .i64 ((rd_T29 l0 x14_1).f1), .int .i64 ((rd_T29 l0 x14_1).f2), .int .i64 ((rd_T29 l0 x14_1).f3), .bool ((rd_T29 l0 x14_1).f4), .bool false, .bool false]) ?_ 5 _ rfl; (with_reducible repeat (first | refine blk_drewN ?_ _ | refine blk_drew ?_ | refine blk_alloc ?_ _)); refine blk_put (cs := #[.int .i64 ((rd_T29 l0 x14_1).f0), .int .i64 ((rd_T29 l0 x14_1).f1), .int .i64 ((rd_T29 l0 x14_1).f2), .int .i64 ((rd_T29 l0 x14_1).f3), .bool false, .bool false, .bool false]) ?_ 4 _ rfl; (with_reducible repeat (first | refine blk_drewN ?_ _ | refine blk_drew ?_ | refine blk_alloc ?_ _)); refine blk_put (cs := #[.int .i64 ((rd_T29 l0 x14_1).f0), .int .i64 ((rd_T29 l0 x14_1).f1), .int .i64 ((rd_T29 l0 x14_1).f2), .int .i64 0, .bool false, .bool false, .bool false]) ?_ 3 _ rfl; (with_reducible repeat (first | refine blk_drewN ?_ _ | refine blk_drew ?_ | refine blk_alloc ?_ _)); refine blk_put (cs := #[.int .i64 ((rd_T29 l0 x14_1).f0), .int .i64 ((rd_T29 l0 x14_1).f1), .int .i64 0, .int .i64 0, .bool false, .bool false, .bool false]) ?_ 2 _ rfl; (with_reducible repeat (first | refine blk_drewN ?_ _ | refine blk_drew ?_ | refine blk_alloc ?_ _)); refine blk_put (cs := #[.int .i64 ((rd_T29 l0 x14_1).f0), .int .i64 0, .int .i64 0, .int .i64 0, .bool false, .bool false, .bool false]) ?_ 1 _ rfl; (with_reducible repeat (first | refine blk_drewN ?_ _ | refine blk_drew ?_ | refine blk_alloc ?_ _)); refine blk_put (cs := #[.int .i64 0, .int .i64 0, .int .i64 0, .int .i64 0, .bool false, .bool false, .bool false]) ?_ 0 _ rfl; (with_reducible repeat (first | refine blk_drewN ?_ _ | refine blk_drew ?_ | refine blk_alloc ?_ _)); exact BK111.out⟩
                    have n3_ : Aside0 (Below w.heap.size w (((((((w12.setCell ⟨gb111, 0, none⟩ (.int .i64 ((rd_T29 l0 x14_1).f0))).setCell ⟨gb111, 1, none⟩ (.int .i64 ((rd_T29 l0 x14_1).f1))).setCell ⟨gb111, 2, none⟩ (.int .i64 ((rd_T29 l0 x14_1).f2))).setCell ⟨gb111, 3, none⟩ (.int .i64 ((rd_T29 l0 x14_1).f3))).setCell ⟨gb111, 4, none⟩ (.bool ((rd_T29 l0 x14_1).f4))).setCell ⟨gb111, 5, none⟩ (.bool ((rd_T29 l0 x14_1).f5))).setCell ⟨gb111, 6, none⟩ (.bool ((rd_T29 l0 x14_1).f6)))) := ⟨by repeat (first | (with_reducible first | exact HB.out | apply below_alloc | apply pw_below_drewN | apply below_drew1 | refine below_set ?_ GE109.out | refine below_set ?_ GE111.out) | exact HB.out)⟩
                    (try clear HO_5)
                    (try clear BK109)
                    (try clear BK111)
                    (try clear HB)
                    generalize (((((((w12.setCell ⟨gb111, 0, none⟩ (.int .i64 ((rd_T29 l0 x14_1).f0))).setCell ⟨gb111, 1, none⟩ (.int .i64 ((rd_T29 l0 x14_1).f1))).setCell ⟨gb111, 2, none⟩ (.int .i64 ((rd_T29 l0 x14_1).f2))).setCell ⟨gb111, 3, none⟩ (.int .i64 ((rd_T29 l0 x14_1).f3))).setCell ⟨gb111, 4, none⟩ (.bool ((rd_T29 l0 x14_1).f4))).setCell ⟨gb111, 5, none⟩ (.bool ((rd_T29 l0 x14_1).f5))).setCell ⟨gb111, 6, none⟩ (.bool ((rd_T29 l0 x14_1).f6))) = w25 at n0_ n1_ n2_ n3_ ⊢
                    have HO_5 := n0_
                    have BK109 := n1_
                    have BK111 := n2_
                    have HB := n3_
                    clear n0_ n1_ n2_ n3_
                    have n0_ := Aside0.mk (Kd.R_drew HO_5.out)
                    have n1_ := Aside0.mk (blk_drew BK109.out)
                    have n2_ := Aside0.mk (blk_drew BK111.out)
                    have n3_ := Aside0.mk (below_drew1 HB.out)
                    clear HO_5
                    clear BK109
                    clear BK111
                    clear HB
                    have HO_5 := n0_
                    have BK109 := n1_
                    have BK111 := n2_
                    have HB := n3_
                    clear n0_ n1_ n2_ n3_
                    refine start_ (n := 15) (S := fun w' => True) (ds := []) #[false, false, false, false, false, false, false, false, false, false, false, false, false, false, false] (by kernel_rfl) rfl rfl trivial (fun hHeld => ?_); refine with_tabW lineno_Number.tab6 lineno_Number.bits6 (fun HT_ HW_ => ?_)
                    generalize w25.drew = w26 at HO_5 BK109 BK111 HB hHeld ⊢
                    refine pure_ (i := 0) (N := some 19) (v := ?_) (a' := ?_) #[true, false, false, false, false, false, false, false, false, false, false, false, false, false, false] rfl rfl (any_of HT_.out (by kernel_rfl)) (fun _ _ _ h => h) (Or.inl ⟨by rfl, ?_⟩) ?_ ?_
                    rotate_left
                    · intro w'
                      go_simp
                      with_reducible rfl
                    rotate_left
                    · simp only [Act.put, List.setIfInBounds_toArray, List.set_cons_zero, List.set_cons_succ, i64_w, i32_w]
                      rfl
                    refine pure_ (i := 1) (N := some 20) (v := ?_) (a' := ?_) #[true, true, false, false, false, false, false, false, false, false, false, false, false, false, false] rfl rfl (any_of HT_.out (by kernel_rfl)) (fun _ _ _ h => h) (Or.inl ⟨by rfl, ?_⟩) ?_ ?_
                    rotate_left
                    · intro w'
                      go_simp
                      with_reducible rfl
                    rotate_left
                    · simp only [Act.put, List.setIfInBounds_toArray, List.set_cons_zero, List.set_cons_succ, i64_w, i32_w]
                      rfl
                    refine pure_ (i := 2) (N := some 21) (v := ?_) (a' := ?_) #[true, true, true, false, false, false, false, false, false, false, false, false, false, false, false] rfl rfl (any_of HT_.out (by kernel_rfl)) (fun _ _ _ h => h) (Or.inl ⟨by rfl, ?_⟩) ?_ ?_
                    rotate_left
                    · intro w'
                      go_simp
                      with_reducible rfl
                    rotate_left
                    · simp only [Act.put, List.setIfInBounds_toArray, List.set_cons_zero, List.set_cons_succ, i64_w, i32_w]
                      rfl
                    refine pure_ (i := 3) (N := some 22) (v := undef) (a' := ?_) #[true, true, true, true, false, false, false, false, false, false, false, false, false, false, false] rfl rfl (any_of HT_.out (by kernel_rfl)) (fun _ _ _ h => h) (Or.inr ⟨by rfl, rfl⟩) ?_ ?_
                    rotate_left
                    · simp only [Act.put, List.setIfInBounds_toArray, List.set_cons_zero, List.set_cons_succ, i64_w, i32_w]
                      rfl
                    refine pure_ (i := 4) (N := some 23) (v := undef) (a' := ?_) #[true, true, true, true, true, false, false, false, false, false, false, false, false, false, false] rfl rfl (any_of HT_.out (by kernel_rfl)) (fun _ _ _ h => h) (Or.inr ⟨by rfl, rfl⟩) ?_ ?_
                    rotate_left
                    · simp only [Act.put, List.setIfInBounds_toArray, List.set_cons_zero, List.set_cons_succ, i64_w, i32_w]
                      rfl
                    refine pure_ (i := 5) (N := some 24) (v := undef) (a' := ?_) #[true, true, true, true, true, true, false, false, false, false, false, false, false, false, false] rfl rfl (any_of HT_.out (by kernel_rfl)) (fun _ _ _ h => h) (Or.inr ⟨by rfl, rfl⟩) ?_ ?_
                    rotate_left
                    · simp only [Act.put, List.setIfInBounds_toArray, List.set_cons_zero, List.set_cons_succ, i64_w, i32_w]
                      rfl
                    refine pure_ (i := 6) (N := some 25) (v := undef) (a' := ?_) #[true, true, true, true, true, true, true, false, false, false, false, false, false, false, false] rfl rfl (any_of HT_.out (by kernel_rfl)) (fun _ _ _ h => h) (Or.inr ⟨by rfl, rfl⟩) ?_ ?_
                    rotate_left
                    · simp only [Act.put, List.setIfInBounds_toArray, List.set_cons_zero, List.set_cons_succ, i64_w, i32_w]
                      rfl
                    refine pure_ (i := 7) (N := some 26) (v := undef) (a' := ?_) #[true, true, true, true, true, true, true, true, false, false, false, false, false, false, false] rfl rfl (any_of HT_.out (by kernel_rfl)) (fun _ _ _ h => h) (Or.inr ⟨by rfl, rfl⟩) ?_ ?_
                    rotate_left
                    · simp only [Act.put, List.setIfInBounds_toArray, List.set_cons_zero, List.set_cons_succ, i64_w, i32_w]
                      rfl
                    refine pure_ (i := 8) (N := some 27) (v := undef) (a' := ?_) #[true, true, true, true, true, true, true, true, true, false, false, false, false, false, false] rfl rfl (any_of HT_.out (by kernel_rfl)) (fun _ _ _ h => h) (Or.inr ⟨by rfl, rfl⟩) ?_ ?_
                    rotate_left
                    · simp only [Act.put, List.setIfInBounds_toArray, List.set_cons_zero, List.set_cons_succ, i64_w, i32_w]
                      rfl
                    refine pure_ (i := 9) (N := some 28) (v := undef) (a' := ?_) #[true, true, true, true, true, true, true, true, true, true, false, false, false, false, false] rfl rfl (any_of HT_.out (by kernel_rfl)) (fun _ _ _ h => h) (Or.inr ⟨by rfl, rfl⟩) ?_ ?_
                    rotate_left
                    · simp only [Act.put, List.setIfInBounds_toArray, List.set_cons_zero, List.set_cons_succ, i64_w, i32_w]
                      rfl
                    refine pure_ (i := 10) (N := some 29) (v := undef) (a' := ?_) #[true, true, true, true, true, true, true, true, true, true, true, false, false, false, false] rfl rfl (any_of HT_.out (by kernel_rfl)) (fun _ _ _ h => h) (Or.inr ⟨by rfl, rfl⟩) ?_ ?_
                    rotate_left
                    · simp only [Act.put, List.setIfInBounds_toArray, List.set_cons_zero, List.set_cons_succ, i64_w, i32_w]
                      rfl
                    refine pure_ (i := 11) (N := some 30) (v := undef) (a' := ?_) #[true, true, true, true, true, true, true, true, true, true, true, true, false, false, false] rfl rfl (any_of HT_.out (by kernel_rfl)) (fun _ _ _ h => h) (Or.inr ⟨by rfl, rfl⟩) ?_ ?_
                    rotate_left
                    · simp only [Act.put, List.setIfInBounds_toArray, List.set_cons_zero, List.set_cons_succ, i64_w, i32_w]
                      rfl
                    refine pure_ (i := 12) (N := some 31) (v := undef) (a' := ?_) #[true, true, true, true, true, true, true, true, true, true, true, true, true, false, false] rfl rfl (any_of HT_.out (by kernel_rfl)) (fun _ _ _ h => h) (Or.inr ⟨by rfl, rfl⟩) ?_ ?_
                    rotate_left
                    · simp only [Act.put, List.setIfInBounds_toArray, List.set_cons_zero, List.set_cons_succ, i64_w, i32_w]
                      rfl
                    refine pure_ (i := 13) (N := some 32) (v := undef) (a' := ?_) #[true, true, true, true, true, true, true, true, true, true, true, true, true, true, false] rfl rfl (any_of HT_.out (by kernel_rfl)) (fun _ _ _ h => h) (Or.inr ⟨by rfl, rfl⟩) ?_ ?_
                    rotate_left
                    · simp only [Act.put, List.setIfInBounds_toArray, List.set_cons_zero, List.set_cons_succ, i64_w, i32_w]
                      rfl
                    refine pure_ (i := 14) (N := some 33) (v := ?_) (a' := ?_) #[true, true, true, true, true, true, true, true, true, true, true, true, true, true, true] rfl rfl (any_of HT_.out (by kernel_rfl)) (fun _ _ _ h => h) (Or.inl ⟨by rfl, ?_⟩) ?_ ?_
                    rotate_left
                    · intro w'
                      go_simp
                      with_reducible rfl
                    rotate_left
                    · simp only [Act.put, List.setIfInBounds_toArray, List.set_cons_zero, List.set_cons_succ, i64_w, i32_w]
                      rfl
                    refine done_ (done_of HT_.out (by kernel_rfl)) ?_
                    try go_wp2
                    go_meet
                    case rel => exact ⟨_, (false), (by first | rfl | (simp; done) | (simp [*]; done)), H', ⟨by have := HK1.out; first | omega | exact Nat.le_refl _⟩, ⟨by (with_reducible repeat (first | apply Kd.R_alloc | apply Kd.R_drewN | apply Kd.R_drew)); exact HO_5.out⟩, ⟨by (with_reducible repeat (first | refine blk_drewN ?_ _ | refine blk_drew ?_ | refine blk_alloc ?_ _)); exact BK109.out⟩, ⟨by (with_reducible repeat (first | refine blk_drewN ?_ _ | refine blk_drew ?_ | refine blk_alloc ?_ _)); exact BK111.out⟩, ⟨by repeat (first | (with_reducible first | exact HB.out | apply below_alloc | apply pw_below_drewN | apply below_drew1 | refine below_set ?_ GE109.out | refine below_set ?_ GE111.out) | exact HB.out)⟩⟩
                case rest =>
                  clear HC11
                  try clear c1
                  try clear p1
                  try clear q1
                  try clear hx1
                  try clear p2
                  try clear c3
                  try clear c3b0
                  try clear c3b1
                  try clear c4
                  try clear c4b0
                  try clear c4b1
                  try clear p6
                  try clear c7
                  try clear c8
                  try clear c8b0
                  try clear c9
                  try clear c9b0
                  try clear c10
                  try clear c10b0
                  try clear p11
                  try clear q11
                  try clear hx11
                  try clear c13
                  try clear c15
                  try clear c15b0
                  try clear c18
                  try clear c18b0
                  try clear c19
                  try clear c19b0
                  try clear hcz14_0
                  try clear hcz14_1
                  try clear hcz14_2
                  try clear hcz14_3
                  try clear hcz14_4
                  try clear hcz14_5
                  try clear hcz14_6
                  try clear hfz14_0
                  try clear hfz14_1
                  try clear hfz14_2
                  try clear hfz14_3
                  try clear hfz14_4
                  try clear hfz14_5
                  try clear hfz14_6
                  try clear hx110_0
                  try clear hx110_1
                  try clear hx110_2
                  try clear hx110_3
                  try clear hx110_4
                  try clear hx110_5
                  try clear hx110_6
                  try clear hx115_0
                  try clear hx115_1
                  try clear hx115_2
                  try clear hx115_3
                  try clear hx115_4
                  try clear hx115_5
                  try clear hx115_6
                  try clear p110
                  try clear p115
                  try clear p2
                  try clear q110
                  try clear q115
                  obtain ⟨kq, x33_10, rfl, HA, HJ10, HO_5, BK109, BK111, HB⟩ := hcut
                  cases kq with
                  | zero => exact absurd HA.out (by simp [lineno_Number.j1])
                  | succ kj10 =>
                    have H := HA.out
                    clear HA
                    simp only [lineno_Number.j1] at H
                    have HC27 := Aside0.mk H
                    clear H
                    go_upto_if 33 with (fail)
                    go_cut [] (fun wc => ∃ (kq : Nat) (x110000_26 : Int) (x110001_26 : Int), Aside0 (lineno_Number.j2 kq l0 a1 x5_1 x14_1 l0 (l0.length : Int) x14_1 x110000_26 x110001_26 ((rd_T29 l0 x14_1).f0) ((rd_T29 l0 x14_1).f1) ((rd_T29 l0 x14_1).f2) ((rd_T29 l0 x14_1).f3) ((rd_T29 l0 x14_1).f4) ((rd_T29 l0 x14_1).f5) ((rd_T29 l0 x14_1).f6) = some r) ∧ Aside0 (kq ≤ kj10) ∧ Aside0 (Kd.R k31 31 wc w.heap.size (fun k_ => k_ ≠ gb109) v107 x5_1) ∧ Aside0 (wc.heap[gb109]? = some (.cells #[.int .i64 x110000_26, .int .i64 x110001_26] 31 (0, 0))) ∧ Aside0 (wc.heap[gb111]? = some (.cells #[.int .i64 ((rd_T29 l0 x14_1).f0), .int .i64 ((rd_T29 l0 x14_1).f1), .int .i64 ((rd_T29 l0 x14_1).f2), .int .i64 ((rd_T29 l0 x14_1).f3), .bool ((rd_T29 l0 x14_1).f4), .bool ((rd_T29 l0 x14_1).f5), .bool ((rd_T29 l0 x14_1).f6)] 29 (0, 0))) ∧ Aside0 (Below w.heap.size w wc))
                    case first =>
                      have H := HC27.out
                      clear HC27
                      by_cases c28 : x33_10 = true
                      · subst c28
                        have H1 : (lineno_Number.j2 kj10 l0 a1 x5_1 x14_1 l0 (l0.length : Int) x14_1 0 0 ((rd_T29 l0 x14_1).f0) ((rd_T29 l0 x14_1).f1) ((rd_T29 l0 x14_1).f2) ((rd_T29 l0 x14_1).f3) ((rd_T29 l0 x14_1).f4) ((rd_T29 l0 x14_1).f5) ((rd_T29 l0 x14_1).f6)) = some r := by rw [if_pos rfl] at H; exact H
                        clear H
                        have H := H1
                        clear H1
                        have H' := Aside0.mk H
                        clear H
                        have hnb29 := NB109_111.out
                        have hnc29 := NB111_109.out
                        have hcz30_0 : wc.cell? ⟨gb109, 0, none⟩ = some (.int .i64 x110000_1) := (blk_cell BK109.out 0).trans rfl
                        have hcz30_1 : wc.cell? ⟨gb109, 1, none⟩ = some (.int .i64 x110001_1) := (blk_cell BK109.out 1).trans rfl
                        have hfz30_0 := blk_frozen BK109.out 0
                        have hfz30_1 := blk_frozen BK109.out 1
                        go_wp2
                        go_meet
                        case rel => exact ⟨_, (0), (0), H', ⟨by have := HK1.out; have := HJ10.out; first | omega | exact Nat.le_refl _⟩, ⟨by (with_reducible repeat (first | apply Kd.R_alloc | apply Kd.R_drewN | apply Kd.R_drew)); exact Kd.R_mono (Kd.R_far (p := ⟨gb109, 1, none⟩) (Kd.R_far (p := ⟨gb109, 0, none⟩) (Kd.R_mono HO_5.out (fun k_ hk => (⟨hk, hk⟩ : _ ∧ k_ ≠ gb109))) (fun _ hk => hk.2) (.int .i64 0)) (fun _ hk => hk.2) (.int .i64 0)) (fun _ hk => hk.1)⟩, ⟨by (with_reducible repeat (first | refine blk_drewN ?_ _ | refine blk_drew ?_ | refine blk_alloc ?_ _)); refine blk_put (cs := #[.int .i64 0, .int .i64 x110001_1]) ?_ 1 _ rfl; (with_reducible repeat (first | refine blk_drewN ?_ _ | refine blk_drew ?_ | refine blk_alloc ?_ _)); refine blk_put (cs := #[.int .i64 x110000_1, .int .i64 x110001_1]) ?_ 0 _ rfl; (with_reducible repeat (first | refine blk_drewN ?_ _ | refine blk_drew ?_ | refine blk_alloc ?_ _)); exact BK109.out⟩, ⟨by (with_reducible repeat (first | refine blk_drewN ?_ _ | refine blk_drew ?_ | refine blk_alloc ?_ _)); refine blk_far ?_ NB111_109.out _; (with_reducible repeat (first | refine blk_drewN ?_ _ | refine blk_drew ?_ | refine blk_alloc ?_ _)); refine blk_far ?_ NB111_109.out _; (with_reducible repeat (first | refine blk_drewN ?_ _ | refine blk_drew ?_ | refine blk_alloc ?_ _)); exact BK111.out⟩, ⟨by repeat (first | (with_reducible first | exact HB.out | apply below_alloc | apply pw_below_drewN | apply below_drew1 | refine below_set ?_ GE109.out | refine below_set ?_ GE111.out) | exact HB.out)⟩⟩
                      · replace c28 := Bool.eq_false_iff.mpr c28
                        subst c28
                        have H1 : (lineno_Number.j2 kj10 l0 a1 x5_1 x14_1 l0 (l0.length : Int) x14_1 x110000_1 x110001_1 ((rd_T29 l0 x14_1).f0) ((rd_T29 l0 x14_1).f1) ((rd_T29 l0 x14_1).f2) ((rd_T29 l0 x14_1).f3) ((rd_T29 l0 x14_1).f4) ((rd_T29 l0 x14_1).f5) ((rd_T29 l0 x14_1).f6)) = some r := by rw [if_neg (show ¬ (false = true) by decide)] at H; exact H
                        clear H
                        have H := H1
                        clear H1
                        have H' := Aside0.mk H
                        clear H
                        go_wp2
                        go_meet
                        case rel => exact ⟨_, (x110000_1), (x110001_1), H', ⟨by have := HK1.out; have := HJ10.out; first | omega | exact Nat.le_refl _⟩, ⟨by (with_reducible repeat (first | apply Kd.R_alloc | apply Kd.R_drewN | apply Kd.R_drew)); exact HO_5.out⟩, ⟨by (with_reducible repeat (first | refine blk_drewN ?_ _ | refine blk_drew ?_ | refine blk_alloc ?_ _)); exact BK109.out⟩, ⟨by (with_reducible repeat (first | refine blk_drewN ?_ _ | refine blk_drew ?_ | refine blk_alloc ?_ _)); exact BK111.out⟩, ⟨by repeat (first | (with_reducible first | exact HB.out | apply below_alloc | apply pw_below_drewN | apply below_drew1 | refine below_set ?_ GE109.out | refine below_set ?_ GE111.out) | exact HB.out)⟩⟩
                    case rest =>
                      clear HC27
                      try clear c1
                      try clear p1
                      try clear q1
                      try clear hx1
                      try clear c2
                      try clear p2
                      try clear c3
                      try clear c3b0
                      try clear c3b1
                      try clear c4
                      try clear c4b0
                      try clear c4b1
                      try clear p6
                      try clear c7
                      try clear c8
                      try clear c8b0
                      try clear c9
                      try clear c9b0
                      try clear c10
                      try clear c10b0
                      try clear p11
                      try clear q11
                      try clear hx11
                      try clear c13
                      try clear c15
                      try clear c15b0
                      try clear c18
                      try clear c18b0
                      try clear c19
                      try clear c19b0
                      try clear c28
                      try clear c29
                      try clear hcz14_0
                      try clear hcz14_1
                      try clear hcz14_2
                      try clear hcz14_3
                      try clear hcz14_4
                      try clear hcz14_5
                      try clear hcz14_6
                      try clear hcz30_0
                      try clear hcz30_1
                      try clear hfz14_0
                      try clear hfz14_1
                      try clear hfz14_2
                      try clear hfz14_3
                      try clear hfz14_4
                      try clear hfz14_5
                      try clear hfz14_6
                      try clear hfz30_0
                      try clear hfz30_1
                      try clear hx110_0
                      try clear hx110_1
                      try clear hx110_2
                      try clear hx110_3
                      try clear hx110_4
                      try clear hx110_5
                      try clear hx110_6
                      try clear hx115_0
                      try clear hx115_1
                      try clear hx115_2
                      try clear hx115_3
                      try clear hx115_4
                      try clear hx115_5
                      try clear hx115_6
                      try clear p1
                      try clear p11
                      try clear p110
                      try clear p115
                      try clear p2
                      try clear p6
                      try clear q1
                      try clear q11
                      try clear q110
                      try clear q115
                      obtain ⟨kq, x110000_26, x110001_26, HA, HJ26, HO_5, BK109, BK111, HB⟩ := hcut
                      cases kq with
                      | zero => exact absurd HA.out (by simp [lineno_Number.j2])
                      | succ kj26 =>
                        have H := HA.out
                        clear HA
                        simp only [lineno_Number.j2] at H
                        by_cases c31 : ((rd_T29 l0 x14_1).f5) = true
                        · rw [if_pos c31] at H
                          have c31b0 : ((rd_T29 l0 x14_1).f5) = true := c31
                          clear c31
                          have H' := Aside0.mk H
                          clear H
                          have hnb32 := NB111_109.out
                          have hnc32 := NB109_111.out
                          have hcz33_0 : wc.cell? ⟨gb111, 0, none⟩ = some (.int .i64 ((rd_T29 l0 x14_1).f0)) := (blk_cell BK111.out 0).trans rfl
                          have hcz33_1 : wc.cell? ⟨gb111, 1, none⟩ = some (.int .i64 ((rd_T29 l0 x14_1).f1)) := (blk_cell BK111.out 1).trans rfl
                          have hcz33_2 : wc.cell? ⟨gb111, 2, none⟩ = some (.int .i64 ((rd_T29 l0 x14_1).f2)) := (blk_cell BK111.out 2).trans rfl
                          have hcz33_3 : wc.cell? ⟨gb111, 3, none⟩ = some (.int .i64 ((rd_T29 l0 x14_1).f3)) := (blk_cell BK111.out 3).trans rfl
                          have hcz33_4 : wc.cell? ⟨gb111, 4, none⟩ = some (.bool ((rd_T29 l0 x14_1).f4)) := (blk_cell BK111.out 4).trans rfl
                          have hcz33_5 : wc.cell? ⟨gb111, 5, none⟩ = some (.bool ((rd_T29 l0 x14_1).f5)) := (blk_cell BK111.out 5).trans rfl
                          have hcz33_6 : wc.cell? ⟨gb111, 6, none⟩ = some (.bool ((rd_T29 l0 x14_1).f6)) := (blk_cell BK111.out 6).trans rfl
                          have hfz33_0 := blk_frozen BK111.out 0
                          have hfz33_1 := blk_frozen BK111.out 1
                          have hfz33_2 := blk_frozen BK111.out 2
                          have hfz33_3 := blk_frozen BK111.out 3
                          have hfz33_4 := blk_frozen BK111.out 4
                          have hfz33_5 := blk_frozen BK111.out 5
                          have hfz33_6 := blk_frozen BK111.out 6
                          go_wp2
                          go_roundg kj26
                          case measure => have := HK1.out; have := HJ10.out; have := HJ26.out; omega
                          case rel => exact ⟨(x5_1), (wrap64 (x14_1 + 1)), (x110000_26), (x110001_26), (by first | rfl | (simp; done) | (simp [*]; done)), H', ⟨by have := HK1.out; have := HJ10.out; have := HJ26.out; omega⟩, ⟨by (with_reducible repeat (first | apply Kd.R_alloc | apply Kd.R_drewN | apply Kd.R_drew)); exact HO_5.out⟩, ⟨by (with_reducible repeat (first | refine blk_drewN ?_ _ | refine blk_drew ?_ | refine blk_alloc ?_ _)); exact BK109.out⟩, ⟨by repeat (first | (with_reducible first | exact HB.out | apply below_alloc | apply pw_below_drewN | apply below_drew1 | refine below_set ?_ GE109.out | refine below_set ?_ GE111.out) | exact HB.out)⟩⟩
                        · rw [if_neg c31] at H
                          have c31b0 : ((rd_T29 l0 x14_1).f5) = false := by simpa using c31
                          clear c31
                          replace H := Option.bind_eq_some_iff.mp H
                          obtain ⟨⟨t119, t120⟩, A340, H⟩ := H
                          replace H : (if 0 ≤ x14_1 then (if x14_1 < (x5_1.length : Int) then (lineno_Number.l0 kj26 l0 a1 (x5_1.set (x14_1 : Int).toNat (⟨t119, t120⟩ : S31)) l0 (l0.length : Int) (wrap64 (x14_1 + 1)) t119 t120) else (none)) else (none)) = some r := H
                          have A34 := Aside0.mk A340
                          clear A340
                          by_cases c35 : 0 ≤ x14_1
                          · rw [if_pos c35] at H
                            have c35b0 : decide (0 ≤ x14_1) = true := decide_eq_true c35
                            clear c35
                            by_cases c36 : x14_1 < (x5_1.length : Int)
                            · rw [if_pos c36] at H
                              have c36b0 : decide (x14_1 < (x5_1.length : Int)) = true := decide_eq_true c36
                              clear c36
                              obtain ⟨y121, hy121⟩ : ∃ y_ : List (S31), y_ = (x5_1.set (x14_1 : Int).toNat (⟨t119, t120⟩ : S31)) := ⟨_, rfl⟩
                              replace H : (lineno_Number.l0 kj26 l0 a1 y121 l0 (l0.length : Int) (wrap64 (x14_1 + 1)) t119 t120) = some r := by first | (rw [hy121]; with_reducible exact H) | (have H2_ := (Option.bind_some _ _).symm.trans H; rw [hy121]; with_reducible exact H2_) | (have H2_ := (Option.bind_some _ _).symm.trans H; with_reducible exact H2_) | with_reducible exact H | (rw [hy121]; exact H) | exact H
                              have Ny121 := Aside0.mk hy121
                              clear hy121
                              have H' := Aside0.mk H
                              clear H
                              have hnb38 := NB111_109.out
                              have hnc38 := NB109_111.out
                              have hcz39_0 : wc.cell? ⟨gb111, 0, none⟩ = some (.int .i64 ((rd_T29 l0 x14_1).f0)) := (blk_cell BK111.out 0).trans rfl
                              have hcz39_1 : wc.cell? ⟨gb111, 1, none⟩ = some (.int .i64 ((rd_T29 l0 x14_1).f1)) := (blk_cell BK111.out 1).trans rfl
                              have hcz39_2 : wc.cell? ⟨gb111, 2, none⟩ = some (.int .i64 ((rd_T29 l0 x14_1).f2)) := (blk_cell BK111.out 2).trans rfl
                              have hcz39_3 : wc.cell? ⟨gb111, 3, none⟩ = some (.int .i64 ((rd_T29 l0 x14_1).f3)) := (blk_cell BK111.out 3).trans rfl
                              have hcz39_4 : wc.cell? ⟨gb111, 4, none⟩ = some (.bool ((rd_T29 l0 x14_1).f4)) := (blk_cell BK111.out 4).trans rfl
                              have hcz39_5 : wc.cell? ⟨gb111, 5, none⟩ = some (.bool ((rd_T29 l0 x14_1).f5)) := (blk_cell BK111.out 5).trans rfl
                              have hcz39_6 : wc.cell? ⟨gb111, 6, none⟩ = some (.bool ((rd_T29 l0 x14_1).f6)) := (blk_cell BK111.out 6).trans rfl
                              have hfz39_0 := blk_frozen BK111.out 0
                              have hfz39_1 := blk_frozen BK111.out 1
                              have hfz39_2 := blk_frozen BK111.out 2
                              have hfz39_3 := blk_frozen BK111.out 3
                              have hfz39_4 := blk_frozen BK111.out 4
                              have hfz39_5 := blk_frozen BK111.out 5
                              have hfz39_6 := blk_frozen BK111.out 6
                              have hcz40_0 : wc.cell? ⟨gb109, 0, none⟩ = some (.int .i64 x110000_26) := (blk_cell BK109.out 0).trans rfl
                              have hcz40_1 : wc.cell? ⟨gb109, 1, none⟩ = some (.int .i64 x110001_26) := (blk_cell BK109.out 1).trans rfl
                              have hfz40_0 := blk_frozen BK109.out 0
                              have hfz40_1 := blk_frozen BK109.out 1
                              go_wp2_with (first | ((with_reducible refine gate_callee (f := 12) rfl ?_); refine goesL_ (some 40) rfl rfl Try.func12 (by kernel_rfl) rfl #[.agg #[.int .i64 x110000_26, .int .i64 x110001_26], .agg #[.int .i64 ((rd_T29 l0 x14_1).f0), .int .i64 ((rd_T29 l0 x14_1).f1), .int .i64 ((rd_T29 l0 x14_1).f2), .int .i64 ((rd_T29 l0 x14_1).f3), .bool ((rd_T29 l0 x14_1).f4), .bool ((rd_T29 l0 x14_1).f5), .bool ((rd_T29 l0 x14_1).f6)]] rfl (by (try simp only [List.map_toArray, List.map_cons, List.map_nil]); first | done | rfl | (simp only [List.length_drop, List.length_take]; rfl) | (simp only [*]; first | done | rfl)) ?_; (with_reducible refine (lineno_next.calls x110000_26 x110001_26 ((rd_T29 l0 x14_1).f0) ((rd_T29 l0 x14_1).f1) ((rd_T29 l0 x14_1).f2) ((rd_T29 l0 x14_1).f3) ((rd_T29 l0 x14_1).f4) ((rd_T29 l0 x14_1).f5) ((rd_T29 l0 x14_1).f6) t119 t120 _ A34.out).mono ?_); rintro e w41 ⟨rfl, hb⟩; refine ⟨_, rfl, ?_⟩; have n0_ := Aside0.mk (Kd.R_below (by (with_reducible repeat (first | apply Kd.R_alloc | apply Kd.R_drewN | apply Kd.R_drew)); exact HO_5.out) hb); have n1_ := Aside0.mk (blk_below (g := gb109) (o := .cells #[.int .i64 x110000_26, .int .i64 x110001_26] 31 (0, 0)) (by (with_reducible repeat (first | refine blk_drewN ?_ _ | refine blk_drew ?_ | refine blk_alloc ?_ _)); exact BK109.out) hb); have n2_ := Aside0.mk (blk_below (g := gb111) (o := .cells #[.int .i64 ((rd_T29 l0 x14_1).f0), .int .i64 ((rd_T29 l0 x14_1).f1), .int .i64 ((rd_T29 l0 x14_1).f2), .int .i64 ((rd_T29 l0 x14_1).f3), .bool ((rd_T29 l0 x14_1).f4), .bool ((rd_T29 l0 x14_1).f5), .bool ((rd_T29 l0 x14_1).f6)] 29 (0, 0)) (by (with_reducible repeat (first | refine blk_drewN ?_ _ | refine blk_drew ?_ | refine blk_alloc ?_ _)); exact BK111.out) hb); have n3_ := Aside0.mk (below_step (by repeat (first | (with_reducible first | exact HB.out | apply below_alloc | apply pw_below_drewN | apply below_drew1 | refine below_set ?_ GE109.out | refine below_set ?_ GE111.out) | exact HB.out)) hb); clear HO_5; clear BK109; clear BK111; clear HB; have HO_5 := n0_; have BK109 := n1_; have BK111 := n2_; have HB := n3_; clear n0_ n1_ n2_ n3_; (try clear hb); (try clear hb2); (try clear hk); (try clear hi); have hcz42_0 : w41.cell? ⟨gb109, 0, none⟩ = some (.int .i64 x110000_26) := (blk_cell BK109.out 0).trans rfl; have hcz42_1 : w41.cell? ⟨gb109, 1, none⟩ = some (.int .i64 x110001_26) := (blk_cell BK109.out 1).trans rfl; have hfz42_0 := blk_frozen BK109.out 0; have hfz42_1 := blk_frozen BK109.out 1) | ((with_reducible refine gate_store (t := 31) (p := 6) rfl ?_); refine store_event (t := 31) (p := 6) (v := ?vo_w43) (w1 := ((w41.setCell ⟨gb109, 0, none⟩ (.int .i64 t119)).setCell ⟨gb109, 1, none⟩ (.int .i64 t120))) ?hg ?ho ?hn ?hr ?_; (case ho => rfl); (case hg => rfl); (case hn => rfl); (case hr => first | (go_simp; done) | (go_simp; rfl)); intro w43 hw; have n0_ : Aside0 (Kd.R k31 31 w43 w.heap.size (fun k_ => k_ ≠ gb109) v107 x5_1) := ⟨(by rw [hw]; exact (by (with_reducible repeat (first | apply Kd.R_alloc | apply Kd.R_drewN | apply Kd.R_drew)); exact Kd.R_mono (Kd.R_far (p := ⟨gb109, 1, none⟩) (Kd.R_far (p := ⟨gb109, 0, none⟩) (Kd.R_mono HO_5.out (fun k_ hk => (⟨hk, hk⟩ : _ ∧ k_ ≠ gb109))) (fun _ hk => hk.2) (.int .i64 t119)) (fun _ hk => hk.2) (.int .i64 t120)) (fun _ hk => hk.1)))⟩; have n1_ : Aside0 (w43.heap[gb109]? = some (.cells #[.int .i64 t119, .int .i64 t120] 31 (0, 0))) := ⟨(by rw [hw]; exact (by (with_reducible repeat (first | refine blk_drewN ?_ _ | refine blk_drew ?_ | refine blk_alloc ?_ _)); refine blk_put (cs := #[.int .i64 t119, .int .i64 x110001_26]) ?_ 1 _ rfl; (with_reducible repeat (first | refine blk_drewN ?_ _ | refine blk_drew ?_ | refine blk_alloc ?_ _)); refine blk_put (cs := #[.int .i64 x110000_26, .int .i64 x110001_26]) ?_ 0 _ rfl; (with_reducible repeat (first | refine blk_drewN ?_ _ | refine blk_drew ?_ | refine blk_alloc ?_ _)); exact BK109.out))⟩; have n2_ : Aside0 (w43.heap[gb111]? = some (.cells #[.int .i64 ((rd_T29 l0 x14_1).f0), .int .i64 ((rd_T29 l0 x14_1).f1), .int .i64 ((rd_T29 l0 x14_1).f2), .int .i64 ((rd_T29 l0 x14_1).f3), .bool ((rd_T29 l0 x14_1).f4), .bool ((rd_T29 l0 x14_1).f5), .bool ((rd_T29 l0 x14_1).f6)] 29 (0, 0))) := ⟨(by rw [hw]; exact (by (with_reducible repeat (first | refine blk_drewN ?_ _ | refine blk_drew ?_ | refine blk_alloc ?_ _)); refine blk_far ?_ NB111_109.out _; (with_reducible repeat (first | refine blk_drewN ?_ _ | refine blk_drew ?_ | refine blk_alloc ?_ _)); refine blk_far ?_ NB111_109.out _; (with_reducible repeat (first | refine blk_drewN ?_ _ | refine blk_drew ?_ | refine blk_alloc ?_ _)); exact BK111.out))⟩; have n3_ : Aside0 (Below w.heap.size w w43) := ⟨(by rw [hw]; exact (by repeat (first | (with_reducible first | exact HB.out | apply below_alloc | apply pw_below_drewN | apply below_drew1 | refine below_set ?_ GE109.out | refine below_set ?_ GE111.out) | exact HB.out)))⟩; clear hw; clear HO_5; clear BK109; clear BK111; clear HB; have HO_5 := n0_; have BK109 := n1_; have BK111 := n2_; have HB := n3_; clear n0_ n1_ n2_ n3_; have hcz44_0 : w43.cell? ⟨gb109, 0, none⟩ = some (.int .i64 t119) := (blk_cell BK109.out 0).trans rfl; have hcz44_1 : w43.cell? ⟨gb109, 1, none⟩ = some (.int .i64 t120) := (blk_cell BK109.out 1).trans rfl; have hfz44_0 := blk_frozen BK109.out 0; have hfz44_1 := blk_frozen BK109.out 1; have p37 : 0 ≤ (x14_1 : Int) := of_decide_eq_true (by first | (with_reducible assumption) | assumption); have q37 : (x14_1 : Int) < ((x5_1.length : Int) : Int) := of_decide_eq_true (by first | (with_reducible assumption) | assumption); obtain ⟨go37, co37, eo37, gb37, gl37, cl37, HG37⟩ := Kd.R_form HO_5.out (by omega); (first | cases eo37 | (injection eo37 with ea_ en_ ec_; (first | subst ea_ | (injection ea_ with ea_; subst ea_)); subst ec_; clear en_)); have GB37 := Aside0.mk gb37; have GG37 := Aside0.mk HG37; clear gb37 gl37 HG37; obtain ⟨ce37, hcl37, hM37, hcc37, hfr37⟩ := Kd.R_elem HO_5.out z31 (x14_1 : Int) p37 q37; obtain rfl := k31_openM hM37; have hx37_0 : w43.cell? ⟨go37, (x14_1 : Int).toNat * 2, none⟩ = some (.int .i64 ((rd_T31 x5_1 x14_1).f0)) := hcc37 0 _ rfl; have hx37_1 : w43.cell? ⟨go37, (x14_1 : Int).toNat * 2 + 1, none⟩ = some (.int .i64 ((rd_T31 x5_1 x14_1).f1)) := hcc37 1 _ rfl; have hf37_0 : w43.frozen? ⟨go37, (x14_1 : Int).toNat * 2, none⟩ = false := hfr37 0; have hf37_1 : w43.frozen? ⟨go37, (x14_1 : Int).toNat * 2 + 1, none⟩ = false := hfr37 1; clear hcl37 hcc37 hfr37 hM37; replace p37 := eq_true p37; replace q37 := eq_true q37; have HX45 := Aside0.mk (show Kd.R k31 31 w43 w.heap.size (fun k_ => k_ ≠ gb109) (.slice (some ⟨go37, 0, none⟩) x5_1.length co37) x5_1 from (by (with_reducible repeat (first | apply Kd.R_alloc | apply Kd.R_drewN | apply Kd.R_drew)); exact HO_5.out)); obtain ⟨ce45, hcl45, hM45, hcc45, hfr45⟩ := Kd.R_elem HX45.out z31 (x14_1 : Int) (of_decide_eq_true (by first | (with_reducible assumption) | assumption)) (by have h_ : (x14_1 : Int) < ((x5_1.length : Int) : Int) := of_decide_eq_true (by first | (with_reducible assumption) | assumption); first | exact h_ | (have e_ := (Kd.R_reads' HO_5.out).1; omega) | simpa using h_); obtain rfl := k31_openM hM45; have HP45 := Kd.R_seg HX45.out (x14_1 : Int) (of_decide_eq_true (by first | (with_reducible assumption) | assumption)) (by have h_ : (x14_1 : Int) < ((x5_1.length : Int) : Int) := of_decide_eq_true (by first | (with_reducible assumption) | assumption); first | exact h_ | (have e_ := (Kd.R_reads' HO_5.out).1; omega) | simpa using h_) (seg := [.int .i64 t119, .int .i64 t120]) (j := 0) hcl45 hcc45 (show 2 ≤ 2 from by decide) (x' := (⟨t119, t120⟩ : S31)) (k31_mkM _ _ _ (⟨t119, t120⟩ : S31) ) (fun _ hk => hk); have hx45_0 := hcc45 0 _ rfl; (try simp only [show (k31).sz = 2 from rfl, Nat.mul_one, Nat.add_zero] at hx45_0); have hf45_0 := hfr45 0; (try simp only [show (k31).sz = 2 from rfl, Nat.mul_one, Nat.add_zero] at hf45_0); have hx45_1 := hcc45 1 _ rfl; (try simp only [show (k31).sz = 2 from rfl, Nat.mul_one, Nat.add_zero] at hx45_1); have hf45_1 := hfr45 1; (try simp only [show (k31).sz = 2 from rfl, Nat.mul_one, Nat.add_zero] at hf45_1); clear hcl45 hcc45 hfr45 hM45) | ((with_reducible refine gate_store (t := 31) (p := 44) rfl ?_); refine store_event (t := 31) (p := 44) (v := ?vo_w46) (w1 := ((w43.setCell ⟨go37, (x14_1 : Int).toNat * 2, none⟩ (.int .i64 t119)).setCell ⟨go37, (x14_1 : Int).toNat * 2 + 1, none⟩ (.int .i64 t120))) ?hg ?ho ?hn ?hr ?_; (case ho => rfl); (case hg => rfl); (case hn => rfl); (case hr => first | (go_simp; done) | (go_simp; rfl)); intro w46 hw; have hg : w43.grownBy w46 (some go37) := (by rw [hw]; exact HP45.2); have hp_ : Kd.R k31 31 w46 w.heap.size (fun k_ => k_ ≠ gb109) (.slice (some ⟨go37, 0, none⟩) x5_1.length co37) y121 := (by rw [hw, Ny121.out]; exact HP45.1); clear HP45; have n0_ := Aside0.mk (hp_); have n1_ := Aside0.mk (blk_grown (g := gb109) (o := .cells #[.int .i64 t119, .int .i64 t120] 31 (0, 0)) (by (with_reducible repeat (first | refine blk_drewN ?_ _ | refine blk_drew ?_ | refine blk_alloc ?_ _)); exact BK109.out) hg (Kd.R_away HO_5.out (fun _ hk => hk))); have n2_ := Aside0.mk (blk_grown (g := gb111) (o := .cells #[.int .i64 ((rd_T29 l0 x14_1).f0), .int .i64 ((rd_T29 l0 x14_1).f1), .int .i64 ((rd_T29 l0 x14_1).f2), .int .i64 ((rd_T29 l0 x14_1).f3), .bool ((rd_T29 l0 x14_1).f4), .bool ((rd_T29 l0 x14_1).f5), .bool ((rd_T29 l0 x14_1).f6)] 29 (0, 0)) (by (with_reducible repeat (first | refine blk_drewN ?_ _ | refine blk_drew ?_ | refine blk_alloc ?_ _)); exact BK111.out) hg (Kd.R_ne HO_5.out BK111.out (by decide))); have n3_ := Aside0.mk ((by rw [hw]; exact below_set (below_set (HB.out) GB37.out) GB37.out : Below w.heap.size w w46)); clear HO_5; clear BK109; clear BK111; clear HB; have HO_5 := n0_; have BK109 := n1_; have BK111 := n2_; have HB := n3_; clear n0_ n1_ n2_ n3_; clear hg hw hp_))
                              go_roundg kj26
                              case measure => have := HK1.out; have := HJ10.out; have := HJ26.out; omega
                              case rel => exact ⟨(y121), (wrap64 (x14_1 + 1)), (t119), (t120), (by first | rfl | (simp; done) | (simp [*]; done)), H', ⟨by have := HK1.out; have := HJ10.out; have := HJ26.out; omega⟩, ⟨by (with_reducible repeat (first | apply Kd.R_alloc | apply Kd.R_drewN | apply Kd.R_drew)); exact HO_5.out⟩, ⟨by (with_reducible repeat (first | refine blk_drewN ?_ _ | refine blk_drew ?_ | refine blk_alloc ?_ _)); exact BK109.out⟩, ⟨by repeat (first | (with_reducible first | exact HB.out | apply below_alloc | apply pw_below_drewN | apply below_drew1 | refine below_set ?_ GE109.out | refine below_set ?_ GE111.out) | exact HB.out)⟩⟩
                            · rw [if_neg c36] at H
                              exact absurd H (by simp)
                          · rw [if_neg c35] at H
                            exact absurd H (by simp)
              · rw [if_neg c10] at H
                exact absurd H (by simp)
            · rw [if_neg c9] at H
              exact absurd H (by simp)
          · rw [if_neg c8] at H
            have c8b0 : decide (x14_1 < (l0.length : Int)) = false := decide_eq_false c8
            clear c8
            obtain rfl := Option.some.inj H
            go_wp2
            go_ret
            exact ⟨_, by first | rfl | (simp [errW_none, errW_some] <;> rfl) | (simp [*, errW_none, errW_some] <;> rfl), by (with_reducible repeat (first | apply Kd.R_alloc | apply Kd.R_drewN | apply Kd.R_drew)); exact Kd.R_mono HO_5.out (fun _ hk => trivial), by repeat (first | (with_reducible first | exact HB.out | apply below_alloc | apply pw_below_drewN | apply below_drew1 | refine below_set ?_ GE109.out) | exact HB.out)⟩
    · rw [if_neg c4] at H
      exact absurd H (by simp)
  · rw [if_neg c3] at H
    exact absurd H (by simp)

end Go.Proofs.Ytbpomibholcpfaa.PAll

/- Written by a program of this session: functions of the given program as plain Lean functions, the walks that show it, and the row of each law, for every input that its statement speaks of. -/
import Derived.Test.YtmhnccjdhhcjoaaPAllx0
import Derived.Test.YtmhnccjdhhcjoaaPAllx2
import Derived.Test.YtmhnccjdhhcjoaaPAllx3
namespace Go.Proofs.Ytmhnccjdhhcjoaa.PAll
open Go.RowKit Go.Proofs.YtmhnccjdhhcjoaaW.PrintWords Go.Proofs.YtmhnccjdhhcjoaaW.PrintLast Go.Proofs.YtmhnccjdhhcjoaaW.PrintMore
attribute [local go_sem] max2_int min2_int max_two min_two max_three min_three max_four min_four   -- for this text's walks alone
set_option linter.unusedVariables false
set_option linter.unusedSimpArgs false

/-! ### block_Clear: function 13 -/
mutual
def block_Clear.l0 : Nat → List (S32) → List Int → List (S32) → Int → Int → Option (Bool)
  | 0, _, _, _, _, _ => none
  | k + 1, x0, x1, x14, x15, x16 => if x16 < x15 then (if 0 ≤ x16 then (if x16 < (x14.length : Int) then ((scaled_Fits.f ((rd_T32 x14 x16).f1)).bind fun t134 => (if t134 = true then (if x16 < (x1.length : Int) then ((scaled_Fits.f (rd x1 x16)).bind fun t136 => (block_Clear.j1 k x0 x1 x16 x14 x15 x16 (!t136) ((rd_T32 x14 x16).f0) ((rd_T32 x14 x16).f1))) else (none)) else (block_Clear.j1 k x0 x1 x16 x14 x15 x16 true ((rd_T32 x14 x16).f0) ((rd_T32 x14 x16).f1)))) else (none)) else (none)) else (some true)
def block_Clear.j1 : Nat → List (S32) → List Int → Int → List (S32) → Int → Int → Bool → Int → Int → Option (Bool)
  | 0, _, _, _, _, _, _, _, _, _ => none
  | k + 1, x0, x1, x5, x14, x15, x16, x32, x134000, x134001 => if x32 = true then (some false) else (block_Clear.l1 k x0 x1 x5 x14 x15 x16 x0 (x0.length : Int) 0 x134000 x134001)
def block_Clear.l1 : Nat → List (S32) → List Int → Int → List (S32) → Int → Int → List (S32) → Int → Int → Int → Int → Option (Bool)
  | 0, _, _, _, _, _, _, _, _, _, _, _ => none
  | k + 1, x0, x1, x5, x14, x15, x16, x33, x34, x35, x134000, x134001 => if x35 < x34 then (if 0 ≤ x35 then (if x35 < (x33.length : Int) then (if x5 = x35 then (block_Clear.l1 k x0 x1 x5 x14 x15 x16 x33 x34 (wrap64 (x35 + 1)) x134000 x134001) else (if x134000 = ((rd_T32 x33 x35).f0) then (if 0 ≤ x5 then (if x5 < (x1.length : Int) then (if (rd x1 x5) > 0 then (if x134001 ≥ ((rd_T32 x33 x35).f1) then (if x35 < (x1.length : Int) then (if (wrap64 (x134001 - ((rd_T32 x33 x35).f1))) < (rd x1 x35) then (some false) else (block_Clear.l1 k x0 x1 x5 x14 x15 x16 x33 x34 (wrap64 (x35 + 1)) x134000 x134001)) else (none)) else (block_Clear.l1 k x0 x1 x5 x14 x15 x16 x33 x34 (wrap64 (x35 + 1)) x134000 x134001)) else (block_Clear.l1 k x0 x1 x5 x14 x15 x16 x33 x34 (wrap64 (x35 + 1)) x134000 x134001)) else (none)) else (none)) else (block_Clear.l1 k x0 x1 x5 x14 x15 x16 x33 x34 (wrap64 (x35 + 1)) x134000 x134001))) else (none)) else (none)) else (block_Clear.l0 k x0 x1 x14 x15 (wrap64 (x16 + 1)))
end
def block_Clear.f (k : Nat) (l0 : List (S32)) (l1 : List Int) : Option (Bool) := if (l0.length : Int) = (l1.length : Int) then (block_Clear.l0 k l0 l1 l0 (l0.length : Int) 0) else (some false)
theorem block_Clear.mono_l : ∀ k, (∀ y0 y1 y2 y3 y4, LeO (block_Clear.l0 k y0 y1 y2 y3 y4) (block_Clear.l0 (k + 1) y0 y1 y2 y3 y4)) ∧ (∀ y0 y1 y2 y3 y4 y5 y6 y7 y8, LeO (block_Clear.j1 k y0 y1 y2 y3 y4 y5 y6 y7 y8) (block_Clear.j1 (k + 1) y0 y1 y2 y3 y4 y5 y6 y7 y8)) ∧ (∀ y0 y1 y2 y3 y4 y5 y6 y7 y8 y9 y10, LeO (block_Clear.l1 k y0 y1 y2 y3 y4 y5 y6 y7 y8 y9 y10) (block_Clear.l1 (k + 1) y0 y1 y2 y3 y4 y5 y6 y7 y8 y9 y10))
  | 0 => ⟨fun _ _ _ _ _ r h => by simp [block_Clear.l0] at h, fun _ _ _ _ _ _ _ _ _ r h => by simp [block_Clear.j1] at h, fun _ _ _ _ _ _ _ _ _ _ _ r h => by simp [block_Clear.l1] at h⟩
  | k + 1 => by
    obtain ⟨ih0, ih1, ih2⟩ := block_Clear.mono_l k
    refine ⟨?_, ?_, ?_⟩
    · intro y0 y1 y2 y3 y4
      unfold block_Clear.l0
      repeat' first
      | (with_reducible exact ih0 _ _ _ _ _)
      | (with_reducible exact ih1 _ _ _ _ _ _ _ _ _)
      | (with_reducible exact ih2 _ _ _ _ _ _ _ _ _ _ _)
      | (with_reducible exact LeO.refl _)
      | (with_reducible exact LeO.none _)
      | (with_reducible refine LeO.ite ?_ ?_)
      | (with_reducible refine LeO.bind ?_ (fun _ => ?_))
      | exact ih0 _ _ _ _ _
      | exact ih1 _ _ _ _ _ _ _ _ _
      | exact ih2 _ _ _ _ _ _ _ _ _ _ _
      | exact LeO.none _
      | refine LeO.ite ?_ ?_
      | refine LeO.bind ?_ (fun _ => ?_)
    · intro y0 y1 y2 y3 y4 y5 y6 y7 y8
      unfold block_Clear.j1
      repeat' first
      | (with_reducible exact ih0 _ _ _ _ _)
      | (with_reducible exact ih1 _ _ _ _ _ _ _ _ _)
      | (with_reducible exact ih2 _ _ _ _ _ _ _ _ _ _ _)
      | (with_reducible exact LeO.refl _)
      | (with_reducible exact LeO.none _)
      | (with_reducible refine LeO.ite ?_ ?_)
      | (with_reducible refine LeO.bind ?_ (fun _ => ?_))
      | exact ih0 _ _ _ _ _
      | exact ih1 _ _ _ _ _ _ _ _ _
      | exact ih2 _ _ _ _ _ _ _ _ _ _ _
      | exact LeO.none _
      | refine LeO.ite ?_ ?_
      | refine LeO.bind ?_ (fun _ => ?_)
    · intro y0 y1 y2 y3 y4 y5 y6 y7 y8 y9 y10
      unfold block_Clear.l1
      repeat' first
      | (with_reducible exact ih0 _ _ _ _ _)
      | (with_reducible exact ih1 _ _ _ _ _ _ _ _ _)
      | (with_reducible exact ih2 _ _ _ _ _ _ _ _ _ _ _)
      | (with_reducible exact LeO.refl _)
      | (with_reducible exact LeO.none _)
      | (with_reducible refine LeO.ite ?_ ?_)
      | (with_reducible refine LeO.bind ?_ (fun _ => ?_))
      | exact ih0 _ _ _ _ _
      | exact ih1 _ _ _ _ _ _ _ _ _
      | exact ih2 _ _ _ _ _ _ _ _ _ _ _
      | exact LeO.none _
      | refine LeO.ite ?_ ?_
      | refine LeO.bind ?_ (fun _ => ?_)
theorem block_Clear.mono : ∀ a0 a1 k, LeO (block_Clear.f k a0 a1) (block_Clear.f (k + 1) a0 a1) := by
  intro a0 a1 k
  obtain ⟨ih0, ih1, ih2⟩ := block_Clear.mono_l k
  unfold block_Clear.f
  repeat' first
      | (with_reducible exact ih0 _ _ _ _ _)
      | (with_reducible exact ih1 _ _ _ _ _ _ _ _ _)
      | (with_reducible exact ih2 _ _ _ _ _ _ _ _ _ _ _)
      | (with_reducible exact LeO.refl _)
      | (with_reducible exact LeO.none _)
      | (with_reducible refine LeO.ite ?_ ?_)
      | (with_reducible refine LeO.bind ?_ (fun _ => ?_))
      | exact ih0 _ _ _ _ _
      | exact ih1 _ _ _ _ _ _ _ _ _
      | exact ih2 _ _ _ _ _ _ _ _ _ _ _
      | exact LeO.none _
      | refine LeO.ite ?_ ?_
      | refine LeO.bind ?_ (fun _ => ?_)
set_option maxHeartbeats 8000000 in
set_option maxRecDepth 100000 in
theorem block_Clear.calls (k : Nat) (A0 : Option Addr) (c0 : Nat) (l0 : List (S32)) (A1 : Option Addr) (c1 : Nat) (l1 : List Int) (r : Bool) (w : World) (hr0 : Kd.C k32 w A0 l0.length l0) (hc0 : l0.length ≤ c0) (hr1 : Kd.C (Kd.int .i64) w A1 l1.length l1) (hc1 : l1.length ≤ c1) (h : block_Clear.f k l0 l1 = some r) :
    Calls Try.prog 13 #[.slice A0 l0.length c0, .slice A1 l1.length c1] w fun e w' => e = .returned (.bool r) ∧ Below w.heap.size w w' := by
  have hu32 := Try.underlying32
  have HR0 := Aside0.mk hr0
  have HC0 := Aside0.mk hc0
  clear hr0 hc0
  have HR1 := Aside0.mk hr1
  have HC1 := Aside0.mk hc1
  clear hr1 hc1
  have HB := Aside0.mk (Below.refl w.heap.size w)
  have H : (if (l0.length : Int) = (l1.length : Int) then (block_Clear.l0 k l0 l1 l0 (l0.length : Int) 0) else (some false)) = some r := h
  clear h
  by_cases c3 : (l0.length : Int) = (l1.length : Int)
  · rw [if_pos c3] at H
    have c3b0 : ((l0.length : Int) == (l1.length : Int)) = true := beq_iff_eq.mpr c3
    have c3b1 : ((l0.length : Int) != (l1.length : Int)) = false := bne_eq_false_iff_eq.mpr c3
    have c3b2 : (l0.length == l1.length) = true := by first | simpa using c3 | (simp at c3 ⊢; omega)
    clear c3
    have H' := Aside0.mk H
    clear H
    go_enter Try.func13, Try.ntmps13
    go_wp2
    repeat (go_quiet (fail); try go_wp2)
    go_loopg [16] k (fun kq v16 w' => ∃ (x16_1 : Int), v16 = .int .i64 x16_1 ∧ Aside0 (block_Clear.l0 kq l0 l1 l0 (l0.length : Int) x16_1 = some r) ∧ Aside0 (kq ≤ k) ∧ Aside0 (Below w.heap.size w w'))
    case atStart => exact ⟨(0), (by first | rfl | (simp; done) | (simp [*]; done)), H', ⟨Nat.le_refl _⟩, ⟨by repeat (first | (with_reducible first | exact HB.out | apply below_alloc | apply pw_below_drewN | apply below_drew1) | exact HB.out)⟩⟩
    case round =>
      clear H'
      try clear c1
      try clear p2
      try clear c3
      try clear c3b0
      try clear c3b1
      try clear c3b2
      obtain ⟨x16_1, rfl, HA, HK1, HB⟩ := hrel
      cases gk with
      | zero => exact absurd HA.out (by simp [block_Clear.l0])
      | succ k1 =>
        have H := HA.out
        clear HA
        simp only [block_Clear.l0] at H
        by_cases c4 : x16_1 < (l0.length : Int)
        · rw [if_pos c4] at H
          have c4b0 : decide (x16_1 < (l0.length : Int)) = true := decide_eq_true c4
          clear c4
          by_cases c5 : 0 ≤ x16_1
          · rw [if_pos c5] at H
            have c5b0 : decide (0 ≤ x16_1) = true := decide_eq_true c5
            clear c5
            by_cases c6 : x16_1 < (l0.length : Int)
            · rw [if_pos c6] at H
              have c6b0 : decide (x16_1 < (l0.length : Int)) = true := decide_eq_true c6
              clear c6
              have HC7 := Aside0.mk H
              clear H
              have p132 : 0 ≤ (x16_1 : Int) := of_decide_eq_true (by first | (with_reducible assumption) | assumption)
              have q132 : x16_1 < (l0.length : Int) := of_decide_eq_true (by first | (with_reducible assumption) | assumption)
              obtain ⟨ad132, e132, hx132_0, hx132_1⟩ := at_T32 HR0.out x16_1 p132 q132
              cases e132
              replace hx132_0 := (HB.out.cell (World.block_lt_of_cell? w _ hx132_0)).trans hx132_0
              replace hx132_1 := (HB.out.cell (World.block_lt_of_cell? w _ hx132_1)).trans hx132_1
              replace p132 := eq_true p132
              replace q132 := eq_true q132
              go_upto_region 6 with (first | ((with_reducible refine gate_dst (N := 6) rfl ?_); refine box_event ?hg (N := 6) ?hd (cs := #[.int .i64 0, .int .i64 0]) (t := 32) ?hr ?_; (case hd => rfl); (case hg => rfl); (case hr => first | (go_simp; done) | (go_simp; rfl)); intro gb133 hg w8 hbox hb; have n0_ := Aside0.mk (below_step (by repeat (first | (with_reducible first | exact HB.out | apply below_alloc | apply pw_below_drewN | apply below_drew1) | exact HB.out)) hb); have n1_ := Aside0.mk (hbox); have n2_ := Aside0.mk ((by rw [hg]; exact (below_size (by repeat (first | (with_reducible first | exact HB.out | apply below_alloc | apply pw_below_drewN | apply below_drew1) | exact HB.out))) : w.heap.size ≤ gb133)); have n3_ := Aside0.mk ((by rw [hg]; exact (below_size (by repeat (first | (with_reducible first | exact HB.out | apply below_alloc | apply pw_below_drewN | apply below_drew1) | exact HB.out))) : w.heap.size ≤ gb133)); clear HB; have HB := n0_; have BK133 := n1_; have GW133 := n2_; have GE133 := n3_; clear n0_ n1_ n2_ n3_; clear hb hbox hg; have hcz9_0 : w8.cell? ⟨gb133, 0, none⟩ = some (.int .i64 0) := (blk_cell BK133.out 0).trans rfl; have hcz9_1 : w8.cell? ⟨gb133, 1, none⟩ = some (.int .i64 0) := (blk_cell BK133.out 1).trans rfl; have hfz9_0 := blk_frozen BK133.out 0; have hfz9_1 := blk_frozen BK133.out 1))
              repeat (go_quiet (first | ((with_reducible refine gate_dst (N := 6) rfl ?_); refine box_event ?hg (N := 6) ?hd (cs := #[.int .i64 0, .int .i64 0]) (t := 32) ?hr ?_; (case hd => rfl); (case hg => rfl); (case hr => first | (go_simp; done) | (go_simp; rfl)); intro gb133 hg w8 hbox hb; have n0_ := Aside0.mk (below_step (by repeat (first | (with_reducible first | exact HB.out | apply below_alloc | apply pw_below_drewN | apply below_drew1) | exact HB.out)) hb); have n1_ := Aside0.mk (hbox); have n2_ := Aside0.mk ((by rw [hg]; exact (below_size (by repeat (first | (with_reducible first | exact HB.out | apply below_alloc | apply pw_below_drewN | apply below_drew1) | exact HB.out))) : w.heap.size ≤ gb133)); have n3_ := Aside0.mk ((by rw [hg]; exact (below_size (by repeat (first | (with_reducible first | exact HB.out | apply below_alloc | apply pw_below_drewN | apply below_drew1) | exact HB.out))) : w.heap.size ≤ gb133)); clear HB; have HB := n0_; have BK133 := n1_; have GW133 := n2_; have GE133 := n3_; clear n0_ n1_ n2_ n3_; clear hb hbox hg; have hcz9_0 : w8.cell? ⟨gb133, 0, none⟩ = some (.int .i64 0) := (blk_cell BK133.out 0).trans rfl; have hcz9_1 : w8.cell? ⟨gb133, 1, none⟩ = some (.int .i64 0) := (blk_cell BK133.out 1).trans rfl; have hfz9_0 := blk_frozen BK133.out 0; have hfz9_1 := blk_frozen BK133.out 1)); go_upto_region 6 with (first | ((with_reducible refine gate_dst (N := 6) rfl ?_); refine box_event ?hg (N := 6) ?hd (cs := #[.int .i64 0, .int .i64 0]) (t := 32) ?hr ?_; (case hd => rfl); (case hg => rfl); (case hr => first | (go_simp; done) | (go_simp; rfl)); intro gb133 hg w8 hbox hb; have n0_ := Aside0.mk (below_step (by repeat (first | (with_reducible first | exact HB.out | apply below_alloc | apply pw_below_drewN | apply below_drew1) | exact HB.out)) hb); have n1_ := Aside0.mk (hbox); have n2_ := Aside0.mk ((by rw [hg]; exact (below_size (by repeat (first | (with_reducible first | exact HB.out | apply below_alloc | apply pw_below_drewN | apply below_drew1) | exact HB.out))) : w.heap.size ≤ gb133)); have n3_ := Aside0.mk ((by rw [hg]; exact (below_size (by repeat (first | (with_reducible first | exact HB.out | apply below_alloc | apply pw_below_drewN | apply below_drew1) | exact HB.out))) : w.heap.size ≤ gb133)); clear HB; have HB := n0_; have BK133 := n1_; have GW133 := n2_; have GE133 := n3_; clear n0_ n1_ n2_ n3_; clear hb hbox hg; have hcz9_0 : w8.cell? ⟨gb133, 0, none⟩ = some (.int .i64 0) := (blk_cell BK133.out 0).trans rfl; have hcz9_1 : w8.cell? ⟨gb133, 1, none⟩ = some (.int .i64 0) := (blk_cell BK133.out 1).trans rfl; have hfz9_0 := blk_frozen BK133.out 0; have hfz9_1 := blk_frozen BK133.out 1)))
              (try simp only [Act.put, List.setIfInBounds_toArray, List.set_cons_zero, List.set_cons_succ])
              go_cut [32] (fun v32 wc => ∃ (kq : Nat) (x32_6 : Bool), v32 = .bool x32_6 ∧ Aside0 (block_Clear.j1 kq l0 l1 x16_1 l0 (l0.length : Int) x16_1 x32_6 ((rd_T32 l0 x16_1).f0) ((rd_T32 l0 x16_1).f1) = some r) ∧ Aside0 (kq ≤ k1) ∧ Aside0 (wc.heap[gb133]? = some (.cells #[.int .i64 ((rd_T32 l0 x16_1).f0), .int .i64 ((rd_T32 l0 x16_1).f1)] 32 (0, 0))) ∧ Aside0 (Below w.heap.size w wc))
              case first =>
                have H := HC7.out
                clear HC7
                replace H := Option.bind_eq_some_iff.mp H
                obtain ⟨t134, A100, H⟩ := H
                replace H : (if t134 = true then (if x16_1 < (l1.length : Int) then ((scaled_Fits.f (rd l1 x16_1)).bind fun t136 => (block_Clear.j1 k1 l0 l1 x16_1 l0 (l0.length : Int) x16_1 (!t136) ((rd_T32 l0 x16_1).f0) ((rd_T32 l0 x16_1).f1))) else (none)) else (block_Clear.j1 k1 l0 l1 x16_1 l0 (l0.length : Int) x16_1 true ((rd_T32 l0 x16_1).f0) ((rd_T32 l0 x16_1).f1))) = some r := H
                have A10 := Aside0.mk A100
                clear A100
                by_cases c11 : t134 = true
                · subst c11
                  have H1 : (if x16_1 < (l1.length : Int) then ((scaled_Fits.f (rd l1 x16_1)).bind fun t136 => (block_Clear.j1 k1 l0 l1 x16_1 l0 (l0.length : Int) x16_1 (!t136) ((rd_T32 l0 x16_1).f0) ((rd_T32 l0 x16_1).f1))) else (none)) = some r := by rw [if_pos rfl] at H; exact H
                  clear H
                  have H := H1
                  clear H1
                  by_cases c12 : x16_1 < (l1.length : Int)
                  · rw [if_pos c12] at H
                    have c12b0 : decide (x16_1 < (l1.length : Int)) = true := decide_eq_true c12
                    clear c12
                    (first | rw [c12b0] | (simp only [i64_w, i32_w]; rw [c12b0]) | skip)
                    replace H := Option.bind_eq_some_iff.mp H
                    obtain ⟨t136, A130, H⟩ := H
                    replace H : (block_Clear.j1 k1 l0 l1 x16_1 l0 (l0.length : Int) x16_1 (!t136) ((rd_T32 l0 x16_1).f0) ((rd_T32 l0 x16_1).f1)) = some r := H
                    have A13 := Aside0.mk A130
                    clear A130
                    have H' := Aside0.mk H
                    clear H
                    have hcz14_0 : w8.cell? ⟨gb133, 0, none⟩ = some (.int .i64 0) := (blk_cell BK133.out 0).trans rfl
                    have hcz14_1 : w8.cell? ⟨gb133, 1, none⟩ = some (.int .i64 0) := (blk_cell BK133.out 1).trans rfl
                    have hfz14_0 := blk_frozen BK133.out 0
                    have hfz14_1 := blk_frozen BK133.out 1
                    go_wp2_with (first | (go_at_call 18; (with_reducible refine (scaled_Fits.calls ((rd_T32 l0 x16_1).f1) true _ A10.out).mono ?_); rintro e w' ⟨rfl, ⟨nd, rfl⟩⟩; (try first | exact ⟨rfl, _, World.drewN_drewN _ _ _⟩ | exact ⟨rfl, _, Eq.trans (World.drewN_drewN _ _ _) (congrArg (World.drewN _) (Nat.add_assoc _ _ _))⟩); have p135 : 0 ≤ (x16_1 : Int) := of_decide_eq_true (by first | (with_reducible assumption) | assumption); have q135 : x16_1 < (l1.length : Int) := of_decide_eq_true (by first | (with_reducible assumption) | assumption); obtain ⟨ad135, e135, hx135_0⟩ := Kd.at_int HR1.out x16_1 p135 q135; cases e135; have hn135_0 : ad135.block ≠ gb133 := Nat.ne_of_lt (Nat.lt_of_lt_of_le (by have := World.block_lt_of_cell? _ _ hx135_0; first | rwa [add_block] at this | exact this) GW133.out); have hn135_1 : ad135.block ≠ gb133 := Nat.ne_of_lt (Nat.lt_of_lt_of_le (by have := World.block_lt_of_cell? _ _ hx135_0; first | rwa [add_block] at this | exact this) GW133.out); replace hx135_0 := (HB.out.cell (World.block_lt_of_cell? w _ hx135_0)).trans hx135_0; replace hx135_0 := (cell_far (p := ⟨gb133, 0, none⟩) (by first | (rw [add_block]; exact hn135_0) | (show (Addr.add _ _).block ≠ _; rw [add_block]; exact hn135_0) | exact hn135_0) (.int .i64 ((rd_T32 l0 x16_1).f0))).trans hx135_0; replace hx135_0 := (cell_far (p := ⟨gb133, 1, none⟩) (by first | (rw [add_block]; exact hn135_1) | (show (Addr.add _ _).block ≠ _; rw [add_block]; exact hn135_1) | exact hn135_1) (.int .i64 ((rd_T32 l0 x16_1).f1))).trans hx135_0; (try have hy135_0 := fun (n_ : Nat) => (show ((((w8.drewN n_).setCell ⟨gb133, 0, none⟩ (.int .i64 ((rd_T32 l0 x16_1).f0))).setCell ⟨gb133, 1, none⟩ (.int .i64 ((rd_T32 l0 x16_1).f1)))).cell? _ = some _ from hx135_0)); clear hn135_0; clear hn135_1; replace p135 := eq_true p135; replace q135 := eq_true q135) | (go_at_call 18; (with_reducible refine (scaled_Fits.calls (rd l1 x16_1) t136 _ A13.out).mono ?_); rintro e w' ⟨rfl, ⟨nd, rfl⟩⟩; (try first | exact ⟨rfl, _, World.drewN_drewN _ _ _⟩ | exact ⟨rfl, _, Eq.trans (World.drewN_drewN _ _ _) (congrArg (World.drewN _) (Nat.add_assoc _ _ _))⟩)))
                    repeat (go_quiet (first | (go_at_call 18; (with_reducible refine (scaled_Fits.calls ((rd_T32 l0 x16_1).f1) true _ A10.out).mono ?_); rintro e w' ⟨rfl, ⟨nd, rfl⟩⟩; (try first | exact ⟨rfl, _, World.drewN_drewN _ _ _⟩ | exact ⟨rfl, _, Eq.trans (World.drewN_drewN _ _ _) (congrArg (World.drewN _) (Nat.add_assoc _ _ _))⟩); have p135 : 0 ≤ (x16_1 : Int) := of_decide_eq_true (by first | (with_reducible assumption) | assumption); have q135 : x16_1 < (l1.length : Int) := of_decide_eq_true (by first | (with_reducible assumption) | assumption); obtain ⟨ad135, e135, hx135_0⟩ := Kd.at_int HR1.out x16_1 p135 q135; cases e135; have hn135_0 : ad135.block ≠ gb133 := Nat.ne_of_lt (Nat.lt_of_lt_of_le (by have := World.block_lt_of_cell? _ _ hx135_0; first | rwa [add_block] at this | exact this) GW133.out); have hn135_1 : ad135.block ≠ gb133 := Nat.ne_of_lt (Nat.lt_of_lt_of_le (by have := World.block_lt_of_cell? _ _ hx135_0; first | rwa [add_block] at this | exact this) GW133.out); replace hx135_0 := (HB.out.cell (World.block_lt_of_cell? w _ hx135_0)).trans hx135_0; replace hx135_0 := (cell_far (p := ⟨gb133, 0, none⟩) (by first | (rw [add_block]; exact hn135_0) | (show (Addr.add _ _).block ≠ _; rw [add_block]; exact hn135_0) | exact hn135_0) (.int .i64 ((rd_T32 l0 x16_1).f0))).trans hx135_0; replace hx135_0 := (cell_far (p := ⟨gb133, 1, none⟩) (by first | (rw [add_block]; exact hn135_1) | (show (Addr.add _ _).block ≠ _; rw [add_block]; exact hn135_1) | exact hn135_1) (.int .i64 ((rd_T32 l0 x16_1).f1))).trans hx135_0; (try have hy135_0 := fun (n_ : Nat) => (show ((((w8.drewN n_).setCell ⟨gb133, 0, none⟩ (.int .i64 ((rd_T32 l0 x16_1).f0))).setCell ⟨gb133, 1, none⟩ (.int .i64 ((rd_T32 l0 x16_1).f1)))).cell? _ = some _ from hx135_0)); clear hn135_0; clear hn135_1; replace p135 := eq_true p135; replace q135 := eq_true q135) | (go_at_call 18; (with_reducible refine (scaled_Fits.calls (rd l1 x16_1) t136 _ A13.out).mono ?_); rintro e w' ⟨rfl, ⟨nd, rfl⟩⟩; (try first | exact ⟨rfl, _, World.drewN_drewN _ _ _⟩ | exact ⟨rfl, _, Eq.trans (World.drewN_drewN _ _ _) (congrArg (World.drewN _) (Nat.add_assoc _ _ _))⟩))); try go_wp2_with (first | (go_at_call 18; (with_reducible refine (scaled_Fits.calls ((rd_T32 l0 x16_1).f1) true _ A10.out).mono ?_); rintro e w' ⟨rfl, ⟨nd, rfl⟩⟩; (try first | exact ⟨rfl, _, World.drewN_drewN _ _ _⟩ | exact ⟨rfl, _, Eq.trans (World.drewN_drewN _ _ _) (congrArg (World.drewN _) (Nat.add_assoc _ _ _))⟩); have p135 : 0 ≤ (x16_1 : Int) := of_decide_eq_true (by first | (with_reducible assumption) | assumption); have q135 : x16_1 < (l1.length : Int) := of_decide_eq_true (by first | (with_reducible assumption) | assumption); obtain ⟨ad135, e135, hx135_0⟩ := Kd.at_int HR1.out x16_1 p135 q135; cases e135; have hn135_0 : ad135.block ≠ gb133 := Nat.ne_of_lt (Nat.lt_of_lt_of_le (by have := World.block_lt_of_cell? _ _ hx135_0; first | rwa [add_block] at this | exact this) GW133.out); have hn135_1 : ad135.block ≠ gb133 := Nat.ne_of_lt (Nat.lt_of_lt_of_le (by have := World.block_lt_of_cell? _ _ hx135_0; first | rwa [add_block] at this | exact this) GW133.out); replace hx135_0 := (HB.out.cell (World.block_lt_of_cell? w _ hx135_0)).trans hx135_0; replace hx135_0 := (cell_far (p := ⟨gb133, 0, none⟩) (by first | (rw [add_block]; exact hn135_0) | (show (Addr.add _ _).block ≠ _; rw [add_block]; exact hn135_0) | exact hn135_0) (.int .i64 ((rd_T32 l0 x16_1).f0))).trans hx135_0; replace hx135_0 := (cell_far (p := ⟨gb133, 1, none⟩) (by first | (rw [add_block]; exact hn135_1) | (show (Addr.add _ _).block ≠ _; rw [add_block]; exact hn135_1) | exact hn135_1) (.int .i64 ((rd_T32 l0 x16_1).f1))).trans hx135_0; (try have hy135_0 := fun (n_ : Nat) => (show ((((w8.drewN n_).setCell ⟨gb133, 0, none⟩ (.int .i64 ((rd_T32 l0 x16_1).f0))).setCell ⟨gb133, 1, none⟩ (.int .i64 ((rd_T32 l0 x16_1).f1)))).cell? _ = some _ from hx135_0)); clear hn135_0; clear hn135_1; replace p135 := eq_true p135; replace q135 := eq_true q135) | (go_at_call 18; (with_reducible refine (scaled_Fits.calls (rd l1 x16_1) t136 _ A13.out).mono ?_); rintro e w' ⟨rfl, ⟨nd, rfl⟩⟩; (try first | exact ⟨rfl, _, World.drewN_drewN _ _ _⟩ | exact ⟨rfl, _, Eq.trans (World.drewN_drewN _ _ _) (congrArg (World.drewN _) (Nat.add_assoc _ _ _))⟩))))
                    go_meet
                    case rel => exact ⟨_, (!t136), (by first | rfl | (simp; done) | (simp [*]; done)), H', ⟨by have := HK1.out; first | omega | exact Nat.le_refl _⟩, ⟨by (with_reducible repeat (first | refine blk_drewN ?_ _ | refine blk_drew ?_ | refine blk_alloc ?_ _)); refine blk_put (cs := #[.int .i64 ((rd_T32 l0 x16_1).f0), .int .i64 0]) ?_ 1 _ rfl; (with_reducible repeat (first | refine blk_drewN ?_ _ | refine blk_drew ?_ | refine blk_alloc ?_ _)); refine blk_put (cs := #[.int .i64 0, .int .i64 0]) ?_ 0 _ rfl; (with_reducible repeat (first | refine blk_drewN ?_ _ | refine blk_drew ?_ | refine blk_alloc ?_ _)); exact BK133.out⟩, ⟨by repeat (first | (with_reducible first | exact HB.out | apply below_alloc | apply pw_below_drewN | apply below_drew1 | refine below_set ?_ GE133.out) | exact HB.out)⟩⟩
                  · rw [if_neg c12] at H
                    exact absurd H (by simp)
                · replace c11 := Bool.eq_false_iff.mpr c11
                  subst c11
                  have H1 : (block_Clear.j1 k1 l0 l1 x16_1 l0 (l0.length : Int) x16_1 true ((rd_T32 l0 x16_1).f0) ((rd_T32 l0 x16_1).f1)) = some r := by rw [if_neg (show ¬ (false = true) by decide)] at H; exact H
                  clear H
                  have H := H1
                  clear H1
                  have H' := Aside0.mk H
                  clear H
                  have hcz15_0 : w8.cell? ⟨gb133, 0, none⟩ = some (.int .i64 0) := (blk_cell BK133.out 0).trans rfl
                  have hcz15_1 : w8.cell? ⟨gb133, 1, none⟩ = some (.int .i64 0) := (blk_cell BK133.out 1).trans rfl
                  have hfz15_0 := blk_frozen BK133.out 0
                  have hfz15_1 := blk_frozen BK133.out 1
                  go_wp2_with (first | (go_at_call 18; (with_reducible refine (scaled_Fits.calls ((rd_T32 l0 x16_1).f1) false _ A10.out).mono ?_); rintro e w' ⟨rfl, ⟨nd, rfl⟩⟩; (try first | exact ⟨rfl, _, World.drewN_drewN _ _ _⟩ | exact ⟨rfl, _, Eq.trans (World.drewN_drewN _ _ _) (congrArg (World.drewN _) (Nat.add_assoc _ _ _))⟩)))
                  repeat (go_quiet (first | (go_at_call 18; (with_reducible refine (scaled_Fits.calls ((rd_T32 l0 x16_1).f1) false _ A10.out).mono ?_); rintro e w' ⟨rfl, ⟨nd, rfl⟩⟩; (try first | exact ⟨rfl, _, World.drewN_drewN _ _ _⟩ | exact ⟨rfl, _, Eq.trans (World.drewN_drewN _ _ _) (congrArg (World.drewN _) (Nat.add_assoc _ _ _))⟩))); try go_wp2_with (first | (go_at_call 18; (with_reducible refine (scaled_Fits.calls ((rd_T32 l0 x16_1).f1) false _ A10.out).mono ?_); rintro e w' ⟨rfl, ⟨nd, rfl⟩⟩; (try first | exact ⟨rfl, _, World.drewN_drewN _ _ _⟩ | exact ⟨rfl, _, Eq.trans (World.drewN_drewN _ _ _) (congrArg (World.drewN _) (Nat.add_assoc _ _ _))⟩))))
                  go_meet
                  case rel => exact ⟨_, (true), (by first | rfl | (simp; done) | (simp [*]; done)), H', ⟨by have := HK1.out; first | omega | exact Nat.le_refl _⟩, ⟨by (with_reducible repeat (first | refine blk_drewN ?_ _ | refine blk_drew ?_ | refine blk_alloc ?_ _)); refine blk_put (cs := #[.int .i64 ((rd_T32 l0 x16_1).f0), .int .i64 0]) ?_ 1 _ rfl; (with_reducible repeat (first | refine blk_drewN ?_ _ | refine blk_drew ?_ | refine blk_alloc ?_ _)); refine blk_put (cs := #[.int .i64 0, .int .i64 0]) ?_ 0 _ rfl; (with_reducible repeat (first | refine blk_drewN ?_ _ | refine blk_drew ?_ | refine blk_alloc ?_ _)); exact BK133.out⟩, ⟨by repeat (first | (with_reducible first | exact HB.out | apply below_alloc | apply pw_below_drewN | apply below_drew1 | refine below_set ?_ GE133.out) | exact HB.out)⟩⟩
              case rest =>
                clear HC7
                try clear c1
                try clear p1
                try clear q1
                try clear hx1
                try clear p2
                try clear c3
                try clear c3b0
                try clear c3b1
                try clear c3b2
                try clear c4
                try clear c4b0
                try clear c5
                try clear c5b0
                try clear c6
                try clear c6b0
                try clear c11
                try clear c12
                try clear c12b0
                try clear c13
                try clear p13
                try clear q13
                try clear hx13
                try clear hcz14_0
                try clear hcz14_1
                try clear hcz15_0
                try clear hcz15_1
                try clear hcz9_0
                try clear hcz9_1
                try clear hfz14_0
                try clear hfz14_1
                try clear hfz15_0
                try clear hfz15_1
                try clear hfz9_0
                try clear hfz9_1
                try clear hx132_0
                try clear hx132_1
                try clear hx135_0
                try clear p132
                try clear p135
                try clear p2
                try clear q132
                try clear q135
                obtain ⟨kq, x32_6, rfl, HA, HJ6, BK133, HB⟩ := hcut
                cases kq with
                | zero => exact absurd HA.out (by simp [block_Clear.j1])
                | succ kj6 =>
                  have H := HA.out
                  clear HA
                  simp only [block_Clear.j1] at H
                  by_cases c16 : x32_6 = true
                  · subst c16
                    have H1 : (some false) = some r := by rw [if_pos rfl] at H; exact H
                    clear H
                    have H := H1
                    clear H1
                    obtain rfl := Option.some.inj H
                    go_wp2
                    repeat (go_quiet (fail); try go_wp2)
                    go_ret
                    exact ⟨by first | rfl | (simp [errW_none, errW_some] <;> rfl) | (simp [*, errW_none, errW_some] <;> rfl), by repeat (first | (with_reducible first | exact HB.out | apply below_alloc | apply pw_below_drewN | apply below_drew1 | refine below_set ?_ GE133.out) | exact HB.out)⟩
                  · replace c16 := Bool.eq_false_iff.mpr c16
                    subst c16
                    have H1 : (block_Clear.l1 kj6 l0 l1 x16_1 l0 (l0.length : Int) x16_1 l0 (l0.length : Int) 0 ((rd_T32 l0 x16_1).f0) ((rd_T32 l0 x16_1).f1)) = some r := by rw [if_neg (show ¬ (false = true) by decide)] at H; exact H
                    clear H
                    have H := H1
                    clear H1
                    have H' := Aside0.mk H
                    clear H
                    go_wp2
                    repeat (go_quiet (fail); try go_wp2)
                    go_loopg [35] kj6 (fun kq v35 w' => ∃ (x35_3 : Int), v35 = .int .i64 x35_3 ∧ Aside0 (block_Clear.l1 kq l0 l1 x16_1 l0 (l0.length : Int) x16_1 l0 (l0.length : Int) x35_3 ((rd_T32 l0 x16_1).f0) ((rd_T32 l0 x16_1).f1) = some r) ∧ Aside0 (kq ≤ kj6) ∧ Aside0 (w'.heap[gb133]? = some (.cells #[.int .i64 ((rd_T32 l0 x16_1).f0), .int .i64 ((rd_T32 l0 x16_1).f1)] 32 (0, 0))) ∧ Aside0 (Below w.heap.size w w'))
                    case atStart => exact ⟨(0), (by first | rfl | (simp; done) | (simp [*]; done)), H', ⟨Nat.le_refl _⟩, ⟨by (with_reducible repeat (first | refine blk_drewN ?_ _ | refine blk_drew ?_ | refine blk_alloc ?_ _)); exact BK133.out⟩, ⟨by repeat (first | (with_reducible first | exact HB.out | apply below_alloc | apply pw_below_drewN | apply below_drew1 | refine below_set ?_ GE133.out) | exact HB.out)⟩⟩
                    case round =>
                      clear H'
                      try clear c1
                      try clear p1
                      try clear q1
                      try clear hx1
                      try clear p2
                      try clear c3
                      try clear c3b0
                      try clear c3b1
                      try clear c3b2
                      try clear c4
                      try clear c4b0
                      try clear c5
                      try clear c5b0
                      try clear c6
                      try clear c6b0
                      try clear c11
                      try clear c12
                      try clear c12b0
                      try clear c13
                      try clear p13
                      try clear q13
                      try clear hx13
                      try clear c16
                      try clear hcz14_0
                      try clear hcz14_1
                      try clear hcz15_0
                      try clear hcz15_1
                      try clear hcz9_0
                      try clear hcz9_1
                      try clear hfz14_0
                      try clear hfz14_1
                      try clear hfz15_0
                      try clear hfz15_1
                      try clear hfz9_0
                      try clear hfz9_1
                      try clear hx132_0
                      try clear hx132_1
                      try clear hx135_0
                      try clear p1
                      try clear p13
                      try clear p132
                      try clear p135
                      try clear p2
                      try clear q1
                      try clear q13
                      try clear q132
                      try clear q135
                      obtain ⟨x35_3, rfl, HA, HK3, BK133, HB⟩ := hrel
                      cases gk with
                      | zero => exact absurd HA.out (by simp [block_Clear.l1])
                      | succ k3 =>
                        have H := HA.out
                        clear HA
                        simp only [block_Clear.l1] at H
                        by_cases c17 : x35_3 < (l0.length : Int)
                        · rw [if_pos c17] at H
                          have c17b0 : decide (x35_3 < (l0.length : Int)) = true := decide_eq_true c17
                          clear c17
                          by_cases c18 : 0 ≤ x35_3
                          · rw [if_pos c18] at H
                            have c18b0 : decide (0 ≤ x35_3) = true := decide_eq_true c18
                            clear c18
                            by_cases c19 : x35_3 < (l0.length : Int)
                            · rw [if_pos c19] at H
                              have c19b0 : decide (x35_3 < (l0.length : Int)) = true := decide_eq_true c19
                              clear c19
                              by_cases c20 : x16_1 = x35_3
                              · rw [if_pos c20] at H
                                have c20b0 : (x16_1 == x35_3) = true := beq_iff_eq.mpr c20
                                have c20b1 : (x16_1 != x35_3) = false := bne_eq_false_iff_eq.mpr c20
                                clear c20
                                have H' := Aside0.mk H
                                clear H
                                have p137 : 0 ≤ (x35_3 : Int) := of_decide_eq_true (by first | (with_reducible assumption) | assumption)
                                have q137 : x35_3 < (l0.length : Int) := of_decide_eq_true (by first | (with_reducible assumption) | assumption)
                                obtain ⟨ad137, e137, hx137_0, hx137_1⟩ := at_T32 HR0.out x35_3 p137 q137
                                obtain rfl : ad132 = ad137 := (by injection e137)
                                replace hx137_0 := (HB.out.cell (World.block_lt_of_cell? w _ hx137_0)).trans hx137_0
                                replace hx137_1 := (HB.out.cell (World.block_lt_of_cell? w _ hx137_1)).trans hx137_1
                                replace p137 := eq_true p137
                                replace q137 := eq_true q137
                                go_wp2_with (first | ((with_reducible refine gate_dst (N := 8) rfl ?_); refine box_event ?hg (N := 8) ?hd (cs := #[.int .i64 0, .int .i64 0]) (t := 32) ?hr ?_; (case hd => rfl); (case hg => rfl); (case hr => first | (go_simp; done) | (go_simp; rfl)); intro gb138 hg w21 hbox hb; have n0_ := Aside0.mk (blk_below (g := gb133) (o := .cells #[.int .i64 ((rd_T32 l0 x16_1).f0), .int .i64 ((rd_T32 l0 x16_1).f1)] 32 (0, 0)) (by (with_reducible repeat (first | refine blk_drewN ?_ _ | refine blk_drew ?_ | refine blk_alloc ?_ _)); exact BK133.out) hb); have n1_ := Aside0.mk (below_step (by repeat (first | (with_reducible first | exact HB.out | apply below_alloc | apply pw_below_drewN | apply below_drew1 | refine below_set ?_ GE133.out) | exact HB.out)) hb); have n2_ := Aside0.mk (hbox); have n3_ := Aside0.mk ((by rw [hg]; exact (below_size (by repeat (first | (with_reducible first | exact HB.out | apply below_alloc | apply pw_below_drewN | apply below_drew1 | refine below_set ?_ GE133.out) | exact HB.out))) : w.heap.size ≤ gb138)); have n4_ := Aside0.mk ((by rw [hg]; exact (below_size (by repeat (first | (with_reducible first | exact HB.out | apply below_alloc | apply pw_below_drewN | apply below_drew1 | refine below_set ?_ GE133.out) | exact HB.out))) : w.heap.size ≤ gb138)); have n5_ := Aside0.mk ((by rw [hg]; exact Nat.ne_of_lt (blk_lt (g := gb133) (o := .cells #[.int .i64 ((rd_T32 l0 x16_1).f0), .int .i64 ((rd_T32 l0 x16_1).f1)] 32 (0, 0)) (by (with_reducible repeat (first | refine blk_drewN ?_ _ | refine blk_drew ?_ | refine blk_alloc ?_ _)); exact BK133.out)) : gb133 ≠ gb138)); have n6_ := Aside0.mk ((by rw [hg]; exact Nat.ne_of_gt (blk_lt (g := gb133) (o := .cells #[.int .i64 ((rd_T32 l0 x16_1).f0), .int .i64 ((rd_T32 l0 x16_1).f1)] 32 (0, 0)) (by (with_reducible repeat (first | refine blk_drewN ?_ _ | refine blk_drew ?_ | refine blk_alloc ?_ _)); exact BK133.out)) : gb138 ≠ gb133)); clear BK133; clear HB; have BK133 := n0_; have HB := n1_; have BK138 := n2_; have GW138 := n3_; have GE138 := n4_; have NB133_138 := n5_; have NB138_133 := n6_; clear n0_ n1_ n2_ n3_ n4_ n5_ n6_; clear hb hbox hg; have hnb22 := NB138_133.out; have hnc22 := NB133_138.out; have hcz23_0 : w21.cell? ⟨gb138, 0, none⟩ = some (.int .i64 0) := (blk_cell BK138.out 0).trans rfl; have hcz23_1 : w21.cell? ⟨gb138, 1, none⟩ = some (.int .i64 0) := (blk_cell BK138.out 1).trans rfl; have hfz23_0 := blk_frozen BK138.out 0; have hfz23_1 := blk_frozen BK138.out 1))
                                repeat (go_quiet (first | ((with_reducible refine gate_dst (N := 8) rfl ?_); refine box_event ?hg (N := 8) ?hd (cs := #[.int .i64 0, .int .i64 0]) (t := 32) ?hr ?_; (case hd => rfl); (case hg => rfl); (case hr => first | (go_simp; done) | (go_simp; rfl)); intro gb138 hg w21 hbox hb; have n0_ := Aside0.mk (blk_below (g := gb133) (o := .cells #[.int .i64 ((rd_T32 l0 x16_1).f0), .int .i64 ((rd_T32 l0 x16_1).f1)] 32 (0, 0)) (by (with_reducible repeat (first | refine blk_drewN ?_ _ | refine blk_drew ?_ | refine blk_alloc ?_ _)); exact BK133.out) hb); have n1_ := Aside0.mk (below_step (by repeat (first | (with_reducible first | exact HB.out | apply below_alloc | apply pw_below_drewN | apply below_drew1 | refine below_set ?_ GE133.out) | exact HB.out)) hb); have n2_ := Aside0.mk (hbox); have n3_ := Aside0.mk ((by rw [hg]; exact (below_size (by repeat (first | (with_reducible first | exact HB.out | apply below_alloc | apply pw_below_drewN | apply below_drew1 | refine below_set ?_ GE133.out) | exact HB.out))) : w.heap.size ≤ gb138)); have n4_ := Aside0.mk ((by rw [hg]; exact (below_size (by repeat (first | (with_reducible first | exact HB.out | apply below_alloc | apply pw_below_drewN | apply below_drew1 | refine below_set ?_ GE133.out) | exact HB.out))) : w.heap.size ≤ gb138)); have n5_ := Aside0.mk ((by rw [hg]; exact Nat.ne_of_lt (blk_lt (g := gb133) (o := .cells #[.int .i64 ((rd_T32 l0 x16_1).f0), .int .i64 ((rd_T32 l0 x16_1).f1)] 32 (0, 0)) (by (with_reducible repeat (first | refine blk_drewN ?_ _ | refine blk_drew ?_ | refine blk_alloc ?_ _)); exact BK133.out)) : gb133 ≠ gb138)); have n6_ := Aside0.mk ((by rw [hg]; exact Nat.ne_of_gt (blk_lt (g := gb133) (o := .cells #[.int .i64 ((rd_T32 l0 x16_1).f0), .int .i64 ((rd_T32 l0 x16_1).f1)] 32 (0, 0)) (by (with_reducible repeat (first | refine blk_drewN ?_ _ | refine blk_drew ?_ | refine blk_alloc ?_ _)); exact BK133.out)) : gb138 ≠ gb133)); clear BK133; clear HB; have BK133 := n0_; have HB := n1_; have BK138 := n2_; have GW138 := n3_; have GE138 := n4_; have NB133_138 := n5_; have NB138_133 := n6_; clear n0_ n1_ n2_ n3_ n4_ n5_ n6_; clear hb hbox hg; have hnb22 := NB138_133.out; have hnc22 := NB133_138.out; have hcz23_0 : w21.cell? ⟨gb138, 0, none⟩ = some (.int .i64 0) := (blk_cell BK138.out 0).trans rfl; have hcz23_1 : w21.cell? ⟨gb138, 1, none⟩ = some (.int .i64 0) := (blk_cell BK138.out 1).trans rfl; have hfz23_0 := blk_frozen BK138.out 0; have hfz23_1 := blk_frozen BK138.out 1)); try go_wp2_with (first | ((with_reducible refine gate_dst (N := 8) rfl ?_); refine box_event ?hg (N := 8) ?hd (cs := #[.int .i64 0, .int .i64 0]) (t := 32) ?hr ?_; (case hd => rfl); (case hg => rfl); (case hr => first | (go_simp; done) | (go_simp; rfl)); intro gb138 hg w21 hbox hb; have n0_ := Aside0.mk (blk_below (g := gb133) (o := .cells #[.int .i64 ((rd_T32 l0 x16_1).f0), .int .i64 ((rd_T32 l0 x16_1).f1)] 32 (0, 0)) (by (with_reducible repeat (first | refine blk_drewN ?_ _ | refine blk_drew ?_ | refine blk_alloc ?_ _)); exact BK133.out) hb); have n1_ := Aside0.mk (below_step (by repeat (first | (with_reducible first | exact HB.out | apply below_alloc | apply pw_below_drewN | apply below_drew1 | refine below_set ?_ GE133.out) | exact HB.out)) hb); have n2_ := Aside0.mk (hbox); have n3_ := Aside0.mk ((by rw [hg]; exact (below_size (by repeat (first | (with_reducible first | exact HB.out | apply below_alloc | apply pw_below_drewN | apply below_drew1 | refine below_set ?_ GE133.out) | exact HB.out))) : w.heap.size ≤ gb138)); have n4_ := Aside0.mk ((by rw [hg]; exact (below_size (by repeat (first | (with_reducible first | exact HB.out | apply below_alloc | apply pw_below_drewN | apply below_drew1 | refine below_set ?_ GE133.out) | exact HB.out))) : w.heap.size ≤ gb138)); have n5_ := Aside0.mk ((by rw [hg]; exact Nat.ne_of_lt (blk_lt (g := gb133) (o := .cells #[.int .i64 ((rd_T32 l0 x16_1).f0), .int .i64 ((rd_T32 l0 x16_1).f1)] 32 (0, 0)) (by (with_reducible repeat (first | refine blk_drewN ?_ _ | refine blk_drew ?_ | refine blk_alloc ?_ _)); exact BK133.out)) : gb133 ≠ gb138)); have n6_ := Aside0.mk ((by rw [hg]; exact Nat.ne_of_gt (blk_lt (g := gb133) (o := .cells #[.int .i64 ((rd_T32 l0 x16_1).f0), .int .i64 ((rd_T32 l0 x16_1).f1)] 32 (0, 0)) (by (with_reducible repeat (first | refine blk_drewN ?_ _ | refine blk_drew ?_ | refine blk_alloc ?_ _)); exact BK133.out)) : gb138 ≠ gb133)); clear BK133; clear HB; have BK133 := n0_; have HB := n1_; have BK138 := n2_; have GW138 := n3_; have GE138 := n4_; have NB133_138 := n5_; have NB138_133 := n6_; clear n0_ n1_ n2_ n3_ n4_ n5_ n6_; clear hb hbox hg; have hnb22 := NB138_133.out; have hnc22 := NB133_138.out; have hcz23_0 : w21.cell? ⟨gb138, 0, none⟩ = some (.int .i64 0) := (blk_cell BK138.out 0).trans rfl; have hcz23_1 : w21.cell? ⟨gb138, 1, none⟩ = some (.int .i64 0) := (blk_cell BK138.out 1).trans rfl; have hfz23_0 := blk_frozen BK138.out 0; have hfz23_1 := blk_frozen BK138.out 1)))
                                go_roundg k3
                                case measure => have := HK1.out; have := HJ6.out; have := HK3.out; omega
                                case rel => exact ⟨(wrap64 (x35_3 + 1)), (by first | rfl | (simp; done) | (simp [*]; done)), H', ⟨by have := HK1.out; have := HJ6.out; have := HK3.out; omega⟩, ⟨by (with_reducible repeat (first | refine blk_drewN ?_ _ | refine blk_drew ?_ | refine blk_alloc ?_ _)); refine blk_far ?_ NB133_138.out _; (with_reducible repeat (first | refine blk_drewN ?_ _ | refine blk_drew ?_ | refine blk_alloc ?_ _)); refine blk_far ?_ NB133_138.out _; (with_reducible repeat (first | refine blk_drewN ?_ _ | refine blk_drew ?_ | refine blk_alloc ?_ _)); exact BK133.out⟩, ⟨by repeat (first | (with_reducible first | exact HB.out | apply below_alloc | apply pw_below_drewN | apply below_drew1 | refine below_set ?_ GE133.out | refine below_set ?_ GE138.out) | exact HB.out)⟩⟩
                              · rw [if_neg c20] at H
                                have c20b0 : (x16_1 == x35_3) = false := beq_eq_false_iff_ne.mpr c20
                                have c20b1 : (x16_1 != x35_3) = true := bne_iff_ne.mpr c20
                                by_cases c24 : ((rd_T32 l0 x16_1).f0) = ((rd_T32 l0 x35_3).f0)
                                · rw [if_pos c24] at H
                                  have c24b0 : (((rd_T32 l0 x16_1).f0) == ((rd_T32 l0 x35_3).f0)) = true := beq_iff_eq.mpr c24
                                  have c24b1 : (((rd_T32 l0 x16_1).f0) != ((rd_T32 l0 x35_3).f0)) = false := bne_eq_false_iff_eq.mpr c24
                                  clear c24
                                  by_cases c25 : 0 ≤ x16_1
                                  · rw [if_pos c25] at H
                                    have c25b0 : decide (0 ≤ x16_1) = true := decide_eq_true c25
                                    clear c25
                                    by_cases c26 : x16_1 < (l1.length : Int)
                                    · rw [if_pos c26] at H
                                      have c26b0 : decide (x16_1 < (l1.length : Int)) = true := decide_eq_true c26
                                      clear c26
                                      by_cases c27 : (rd l1 x16_1) > 0
                                      · rw [if_pos c27] at H
                                        have c27b0 : decide (0 < (rd l1 x16_1)) = true := decide_eq_true c27
                                        clear c27
                                        by_cases c28 : ((rd_T32 l0 x16_1).f1) ≥ ((rd_T32 l0 x35_3).f1)
                                        · rw [if_pos c28] at H
                                          have c28b0 : decide (((rd_T32 l0 x35_3).f1) ≤ ((rd_T32 l0 x16_1).f1)) = true := decide_eq_true c28
                                          clear c28
                                          by_cases c29 : x35_3 < (l1.length : Int)
                                          · rw [if_pos c29] at H
                                            have c29b0 : decide (x35_3 < (l1.length : Int)) = true := decide_eq_true c29
                                            clear c29
                                            by_cases c30 : (wrap64 (((rd_T32 l0 x16_1).f1) - ((rd_T32 l0 x35_3).f1))) < (rd l1 x35_3)
                                            · rw [if_pos c30] at H
                                              have c30b0 : decide ((wrap64 (((rd_T32 l0 x16_1).f1) - ((rd_T32 l0 x35_3).f1))) < (rd l1 x35_3)) = true := decide_eq_true c30
                                              clear c30
                                              obtain rfl := Option.some.inj H
                                              have p137 : 0 ≤ (x35_3 : Int) := of_decide_eq_true (by first | (with_reducible assumption) | assumption)
                                              have q137 : x35_3 < (l0.length : Int) := of_decide_eq_true (by first | (with_reducible assumption) | assumption)
                                              obtain ⟨ad137, e137, hx137_0, hx137_1⟩ := at_T32 HR0.out x35_3 p137 q137
                                              obtain rfl : ad132 = ad137 := (by injection e137)
                                              replace hx137_0 := (HB.out.cell (World.block_lt_of_cell? w _ hx137_0)).trans hx137_0
                                              replace hx137_1 := (HB.out.cell (World.block_lt_of_cell? w _ hx137_1)).trans hx137_1
                                              replace p137 := eq_true p137
                                              replace q137 := eq_true q137
                                              go_wp2_with (first | ((with_reducible refine gate_dst (N := 8) rfl ?_); refine box_event ?hg (N := 8) ?hd (cs := #[.int .i64 0, .int .i64 0]) (t := 32) ?hr ?_; (case hd => rfl); (case hg => rfl); (case hr => first | (go_simp; done) | (go_simp; rfl)); intro gb138 hg w31 hbox hb; have n0_ := Aside0.mk (blk_below (g := gb133) (o := .cells #[.int .i64 ((rd_T32 l0 x16_1).f0), .int .i64 ((rd_T32 l0 x16_1).f1)] 32 (0, 0)) (by (with_reducible repeat (first | refine blk_drewN ?_ _ | refine blk_drew ?_ | refine blk_alloc ?_ _)); exact BK133.out) hb); have n1_ := Aside0.mk (below_step (by repeat (first | (with_reducible first | exact HB.out | apply below_alloc | apply pw_below_drewN | apply below_drew1 | refine below_set ?_ GE133.out) | exact HB.out)) hb); have n2_ := Aside0.mk (hbox); have n3_ := Aside0.mk ((by rw [hg]; exact (below_size (by repeat (first | (with_reducible first | exact HB.out | apply below_alloc | apply pw_below_drewN | apply below_drew1 | refine below_set ?_ GE133.out) | exact HB.out))) : w.heap.size ≤ gb138)); have n4_ := Aside0.mk ((by rw [hg]; exact (below_size (by repeat (first | (with_reducible first | exact HB.out | apply below_alloc | apply pw_below_drewN | apply below_drew1 | refine below_set ?_ GE133.out) | exact HB.out))) : w.heap.size ≤ gb138)); have n5_ := Aside0.mk ((by rw [hg]; exact Nat.ne_of_lt (blk_lt (g := gb133) (o := .cells #[.int .i64 ((rd_T32 l0 x16_1).f0), .int .i64 ((rd_T32 l0 x16_1).f1)] 32 (0, 0)) (by (with_reducible repeat (first | refine blk_drewN ?_ _ | refine blk_drew ?_ | refine blk_alloc ?_ _)); exact BK133.out)) : gb133 ≠ gb138)); have n6_ := Aside0.mk ((by rw [hg]; exact Nat.ne_of_gt (blk_lt (g := gb133) (o := .cells #[.int .i64 ((rd_T32 l0 x16_1).f0), .int .i64 ((rd_T32 l0 x16_1).f1)] 32 (0, 0)) (by (with_reducible repeat (first | refine blk_drewN ?_ _ | refine blk_drew ?_ | refine blk_alloc ?_ _)); exact BK133.out)) : gb138 ≠ gb133)); clear BK133; clear HB; have BK133 := n0_; have HB := n1_; have BK138 := n2_; have GW138 := n3_; have GE138 := n4_; have NB133_138 := n5_; have NB138_133 := n6_; clear n0_ n1_ n2_ n3_ n4_ n5_ n6_; clear hb hbox hg; have hnb32 := NB138_133.out; have hnc32 := NB133_138.out; have hcz33_0 : w31.cell? ⟨gb138, 0, none⟩ = some (.int .i64 0) := (blk_cell BK138.out 0).trans rfl; have hcz33_1 : w31.cell? ⟨gb138, 1, none⟩ = some (.int .i64 0) := (blk_cell BK138.out 1).trans rfl; have hfz33_0 := blk_frozen BK138.out 0; have hfz33_1 := blk_frozen BK138.out 1; have hcz34_0 : w31.cell? ⟨gb133, 0, none⟩ = some (.int .i64 ((rd_T32 l0 x16_1).f0)) := (blk_cell BK133.out 0).trans rfl; have hcz34_1 : w31.cell? ⟨gb133, 1, none⟩ = some (.int .i64 ((rd_T32 l0 x16_1).f1)) := (blk_cell BK133.out 1).trans rfl; have hfz34_0 := blk_frozen BK133.out 0; have hfz34_1 := blk_frozen BK133.out 1; have p139 : 0 ≤ (x16_1 : Int) := of_decide_eq_true (by first | (with_reducible assumption) | assumption); have q139 : x16_1 < (l1.length : Int) := of_decide_eq_true (by first | (with_reducible assumption) | assumption); obtain ⟨ad139, e139, hx139_0⟩ := Kd.at_int HR1.out x16_1 p139 q139; cases e139; have hn139_0 : ad139.block ≠ gb138 := Nat.ne_of_lt (Nat.lt_of_lt_of_le (by have := World.block_lt_of_cell? _ _ hx139_0; first | rwa [add_block] at this | exact this) GW138.out); have hn139_1 : ad139.block ≠ gb138 := Nat.ne_of_lt (Nat.lt_of_lt_of_le (by have := World.block_lt_of_cell? _ _ hx139_0; first | rwa [add_block] at this | exact this) GW138.out); replace hx139_0 := (HB.out.cell (World.block_lt_of_cell? w _ hx139_0)).trans hx139_0; replace hx139_0 := (cell_far (p := ⟨gb138, 0, none⟩) (by first | (rw [add_block]; exact hn139_0) | (show (Addr.add _ _).block ≠ _; rw [add_block]; exact hn139_0) | exact hn139_0) (.int .i64 ((rd_T32 l0 x35_3).f0))).trans hx139_0; replace hx139_0 := (cell_far (p := ⟨gb138, 1, none⟩) (by first | (rw [add_block]; exact hn139_1) | (show (Addr.add _ _).block ≠ _; rw [add_block]; exact hn139_1) | exact hn139_1) (.int .i64 ((rd_T32 l0 x35_3).f1))).trans hx139_0; (try have hy139_0 := fun (n_ : Nat) => (show ((((w31.drewN n_).setCell ⟨gb138, 0, none⟩ (.int .i64 ((rd_T32 l0 x35_3).f0))).setCell ⟨gb138, 1, none⟩ (.int .i64 ((rd_T32 l0 x35_3).f1)))).cell? _ = some _ from hx139_0)); clear hn139_0; clear hn139_1; replace p139 := eq_true p139; replace q139 := eq_true q139; have p140 : 0 ≤ (x35_3 : Int) := of_decide_eq_true (by first | (with_reducible assumption) | assumption); have q140 : x35_3 < (l1.length : Int) := of_decide_eq_true (by first | (with_reducible assumption) | assumption); obtain ⟨ad140, e140, hx140_0⟩ := Kd.at_int HR1.out x35_3 p140 q140; obtain rfl : ad139 = ad140 := (by injection e140); have hn140_0 : ad139.block ≠ gb138 := Nat.ne_of_lt (Nat.lt_of_lt_of_le (by have := World.block_lt_of_cell? _ _ hx140_0; first | rwa [add_block] at this | exact this) GW138.out); have hn140_1 : ad139.block ≠ gb138 := Nat.ne_of_lt (Nat.lt_of_lt_of_le (by have := World.block_lt_of_cell? _ _ hx140_0; first | rwa [add_block] at this | exact this) GW138.out); replace hx140_0 := (HB.out.cell (World.block_lt_of_cell? w _ hx140_0)).trans hx140_0; replace hx140_0 := (cell_far (p := ⟨gb138, 0, none⟩) (by first | (rw [add_block]; exact hn140_0) | (show (Addr.add _ _).block ≠ _; rw [add_block]; exact hn140_0) | exact hn140_0) (.int .i64 ((rd_T32 l0 x35_3).f0))).trans hx140_0; replace hx140_0 := (cell_far (p := ⟨gb138, 1, none⟩) (by first | (rw [add_block]; exact hn140_1) | (show (Addr.add _ _).block ≠ _; rw [add_block]; exact hn140_1) | exact hn140_1) (.int .i64 ((rd_T32 l0 x35_3).f1))).trans hx140_0; (try have hy140_0 := fun (n_ : Nat) => (show ((((w31.drewN n_).setCell ⟨gb138, 0, none⟩ (.int .i64 ((rd_T32 l0 x35_3).f0))).setCell ⟨gb138, 1, none⟩ (.int .i64 ((rd_T32 l0 x35_3).f1)))).cell? _ = some _ from hx140_0)); clear hn140_0; clear hn140_1; replace p140 := eq_true p140; replace q140 := eq_true q140))
                                              repeat (go_quiet (first | ((with_reducible refine gate_dst (N := 8) rfl ?_); refine box_event ?hg (N := 8) ?hd (cs := #[.int .i64 0, .int .i64 0]) (t := 32) ?hr ?_; (case hd => rfl); (case hg => rfl); (case hr => first | (go_simp; done) | (go_simp; rfl)); intro gb138 hg w31 hbox hb; have n0_ := Aside0.mk (blk_below (g := gb133) (o := .cells #[.int .i64 ((rd_T32 l0 x16_1).f0), .int .i64 ((rd_T32 l0 x16_1).f1)] 32 (0, 0)) (by (with_reducible repeat (first | refine blk_drewN ?_ _ | refine blk_drew ?_ | refine blk_alloc ?_ _)); exact BK133.out) hb); have n1_ := Aside0.mk (below_step (by repeat (first | (with_reducible first | exact HB.out | apply below_alloc | apply pw_below_drewN | apply below_drew1 | refine below_set ?_ GE133.out) | exact HB.out)) hb); have n2_ := Aside0.mk (hbox); have n3_ := Aside0.mk ((by rw [hg]; exact (below_size (by repeat (first | (with_reducible first | exact HB.out | apply below_alloc | apply pw_below_drewN | apply below_drew1 | refine below_set ?_ GE133.out) | exact HB.out))) : w.heap.size ≤ gb138)); have n4_ := Aside0.mk ((by rw [hg]; exact (below_size (by repeat (first | (with_reducible first | exact HB.out | apply below_alloc | apply pw_below_drewN | apply below_drew1 | refine below_set ?_ GE133.out) | exact HB.out))) : w.heap.size ≤ gb138)); have n5_ := Aside0.mk ((by rw [hg]; exact Nat.ne_of_lt (blk_lt (g := gb133) (o := .cells #[.int .i64 ((rd_T32 l0 x16_1).f0), .int .i64 ((rd_T32 l0 x16_1).f1)] 32 (0, 0)) (by (with_reducible repeat (first | refine blk_drewN ?_ _ | refine blk_drew ?_ | refine blk_alloc ?_ _)); exact BK133.out)) : gb133 ≠ gb138)); have n6_ := Aside0.mk ((by rw [hg]; exact Nat.ne_of_gt (blk_lt (g := gb133) (o := .cells #[.int .i64 ((rd_T32 l0 x16_1).f0), .int .i64 ((rd_T32 l0 x16_1).f1)] 32 (0, 0)) (by (with_reducible repeat (first | refine blk_drewN ?_ _ | refine blk_drew ?_ | refine blk_alloc ?_ _)); exact BK133.out)) : gb138 ≠ gb133)); clear BK133; clear HB; have BK133 := n0_; have HB := n1_; have BK138 := n2_; have GW138 := n3_; have GE138 := n4_; have NB133_138 := n5_; have NB138_133 := n6_; clear n0_ n1_ n2_ n3_ n4_ n5_ n6_; clear hb hbox hg; have hnb32 := NB138_133.out; have hnc32 := NB133_138.out; have hcz33_0 : w31.cell? ⟨gb138, 0, none⟩ = some (.int .i64 0) := (blk_cell BK138.out 0).trans rfl; have hcz33_1 : w31.cell? ⟨gb138, 1, none⟩ = some (.int .i64 0) := (blk_cell BK138.out 1).trans rfl; have hfz33_0 := blk_frozen BK138.out 0; have hfz33_1 := blk_frozen BK138.out 1; have hcz34_0 : w31.cell? ⟨gb133, 0, none⟩ = some (.int .i64 ((rd_T32 l0 x16_1).f0)) := (blk_cell BK133.out 0).trans rfl; have hcz34_1 : w31.cell? ⟨gb133, 1, none⟩ = some (.int .i64 ((rd_T32 l0 x16_1).f1)) := (blk_cell BK133.out 1).trans rfl; have hfz34_0 := blk_frozen BK133.out 0; have hfz34_1 := blk_frozen BK133.out 1; have p139 : 0 ≤ (x16_1 : Int) := of_decide_eq_true (by first | (with_reducible assumption) | assumption); have q139 : x16_1 < (l1.length : Int) := of_decide_eq_true (by first | (with_reducible assumption) | assumption); obtain ⟨ad139, e139, hx139_0⟩ := Kd.at_int HR1.out x16_1 p139 q139; cases e139; have hn139_0 : ad139.block ≠ gb138 := Nat.ne_of_lt (Nat.lt_of_lt_of_le (by have := World.block_lt_of_cell? _ _ hx139_0; first | rwa [add_block] at this | exact this) GW138.out); have hn139_1 : ad139.block ≠ gb138 := Nat.ne_of_lt (Nat.lt_of_lt_of_le (by have := World.block_lt_of_cell? _ _ hx139_0; first | rwa [add_block] at this | exact this) GW138.out); replace hx139_0 := (HB.out.cell (World.block_lt_of_cell? w _ hx139_0)).trans hx139_0; replace hx139_0 := (cell_far (p := ⟨gb138, 0, none⟩) (by first | (rw [add_block]; exact hn139_0) | (show (Addr.add _ _).block ≠ _; rw [add_block]; exact hn139_0) | exact hn139_0) (.int .i64 ((rd_T32 l0 x35_3).f0))).trans hx139_0; replace hx139_0 := (cell_far (p := ⟨gb138, 1, none⟩) (by first | (rw [add_block]; exact hn139_1) | (show (Addr.add _ _).block ≠ _; rw [add_block]; exact hn139_1) | exact hn139_1) (.int .i64 ((rd_T32 l0 x35_3).f1))).trans hx139_0; (try have hy139_0 := fun (n_ : Nat) => (show ((((w31.drewN n_).setCell ⟨gb138, 0, none⟩ (.int .i64 ((rd_T32 l0 x35_3).f0))).setCell ⟨gb138, 1, none⟩ (.int .i64 ((rd_T32 l0 x35_3).f1)))).cell? _ = some _ from hx139_0)); clear hn139_0; clear hn139_1; replace p139 := eq_true p139; replace q139 := eq_true q139; have p140 : 0 ≤ (x35_3 : Int) := of_decide_eq_true (by first | (with_reducible assumption) | assumption); have q140 : x35_3 < (l1.length : Int) := of_decide_eq_true (by first | (with_reducible assumption) | assumption); obtain ⟨ad140, e140, hx140_0⟩ := Kd.at_int HR1.out x35_3 p140 q140; obtain rfl : ad139 = ad140 := (by injection e140); have hn140_0 : ad139.block ≠ gb138 := Nat.ne_of_lt (Nat.lt_of_lt_of_le (by have := World.block_lt_of_cell? _ _ hx140_0; first | rwa [add_block] at this | exact this) GW138.out); have hn140_1 : ad139.block ≠ gb138 := Nat.ne_of_lt (Nat.lt_of_lt_of_le (by have := World.block_lt_of_cell? _ _ hx140_0; first | rwa [add_block] at this | exact this) GW138.out); replace hx140_0 := (HB.out.cell (World.block_lt_of_cell? w _ hx140_0)).trans hx140_0; replace hx140_0 := (cell_far (p := ⟨gb138, 0, none⟩) (by first | (rw [add_block]; exact hn140_0) | (show (Addr.add _ _).block ≠ _; rw [add_block]; exact hn140_0) | exact hn140_0) (.int .i64 ((rd_T32 l0 x35_3).f0))).trans hx140_0; replace hx140_0 := (cell_far (p := ⟨gb138, 1, none⟩) (by first | (rw [add_block]; exact hn140_1) | (show (Addr.add _ _).block ≠ _; rw [add_block]; exact hn140_1) | exact hn140_1) (.int .i64 ((rd_T32 l0 x35_3).f1))).trans hx140_0; (try have hy140_0 := fun (n_ : Nat) => (show ((((w31.drewN n_).setCell ⟨gb138, 0, none⟩ (.int .i64 ((rd_T32 l0 x35_3).f0))).setCell ⟨gb138, 1, none⟩ (.int .i64 ((rd_T32 l0 x35_3).f1)))).cell? _ = some _ from hx140_0)); clear hn140_0; clear hn140_1; replace p140 := eq_true p140; replace q140 := eq_true q140)); try go_wp2_with (first | ((with_reducible refine gate_dst (N := 8) rfl ?_); refine box_event ?hg (N := 8) ?hd (cs := #[.int .i64 0, .int .i64 0]) (t := 32) ?hr ?_; (case hd => rfl); (case hg => rfl); (case hr => first | (go_simp; done) | (go_simp; rfl)); intro gb138 hg w31 hbox hb; have n0_ := Aside0.mk (blk_below (g := gb133) (o := .cells #[.int .i64 ((rd_T32 l0 x16_1).f0), .int .i64 ((rd_T32 l0 x16_1).f1)] 32 (0, 0)) (by (with_reducible repeat (first | refine blk_drewN ?_ _ | refine blk_drew ?_ | refine blk_alloc ?_ _)); exact BK133.out) hb); have n1_ := Aside0.mk (below_step (by repeat (first | (with_reducible first | exact HB.out | apply below_alloc | apply pw_below_drewN | apply below_drew1 | refine below_set ?_ GE133.out) | exact HB.out)) hb); have n2_ := Aside0.mk (hbox); have n3_ := Aside0.mk ((by rw [hg]; exact (below_size (by repeat (first | (with_reducible first | exact HB.out | apply below_alloc | apply pw_below_drewN | apply below_drew1 | refine below_set ?_ GE133.out) | exact HB.out))) : w.heap.size ≤ gb138)); have n4_ := Aside0.mk ((by rw [hg]; exact (below_size (by repeat (first | (with_reducible first | exact HB.out | apply below_alloc | apply pw_below_drewN | apply below_drew1 | refine below_set ?_ GE133.out) | exact HB.out))) : w.heap.size ≤ gb138)); have n5_ := Aside0.mk ((by rw [hg]; exact Nat.ne_of_lt (blk_lt (g := gb133) (o := .cells #[.int .i64 ((rd_T32 l0 x16_1).f0), .int .i64 ((rd_T32 l0 x16_1).f1)] 32 (0, 0)) (by (with_reducible repeat (first | refine blk_drewN ?_ _ | refine blk_drew ?_ | refine blk_alloc ?_ _)); exact BK133.out)) : gb133 ≠ gb138)); have n6_ := Aside0.mk ((by rw [hg]; exact Nat.ne_of_gt (blk_lt (g := gb133) (o := .cells #[.int .i64 ((rd_T32 l0 x16_1).f0), .int .i64 ((rd_T32 l0 x16_1).f1)] 32 (0, 0)) (by (with_reducible repeat (first | refine blk_drewN ?_ _ | refine blk_drew ?_ | refine blk_alloc ?_ _)); exact BK133.out)) : gb138 ≠ gb133)); clear BK133; clear HB; have BK133 := n0_; have HB := n1_; have BK138 := n2_; have GW138 := n3_; have GE138 := n4_; have NB133_138 := n5_; have NB138_133 := n6_; clear n0_ n1_ n2_ n3_ n4_ n5_ n6_; clear hb hbox hg; have hnb32 := NB138_133.out; have hnc32 := NB133_138.out; have hcz33_0 : w31.cell? ⟨gb138, 0, none⟩ = some (.int .i64 0) := (blk_cell BK138.out 0).trans rfl; have hcz33_1 : w31.cell? ⟨gb138, 1, none⟩ = some (.int .i64 0) := (blk_cell BK138.out 1).trans rfl; have hfz33_0 := blk_frozen BK138.out 0; have hfz33_1 := blk_frozen BK138.out 1; have hcz34_0 : w31.cell? ⟨gb133, 0, none⟩ = some (.int .i64 ((rd_T32 l0 x16_1).f0)) := (blk_cell BK133.out 0).trans rfl; have hcz34_1 : w31.cell? ⟨gb133, 1, none⟩ = some (.int .i64 ((rd_T32 l0 x16_1).f1)) := (blk_cell BK133.out 1).trans rfl; have hfz34_0 := blk_frozen BK133.out 0; have hfz34_1 := blk_frozen BK133.out 1; have p139 : 0 ≤ (x16_1 : Int) := of_decide_eq_true (by first | (with_reducible assumption) | assumption); have q139 : x16_1 < (l1.length : Int) := of_decide_eq_true (by first | (with_reducible assumption) | assumption); obtain ⟨ad139, e139, hx139_0⟩ := Kd.at_int HR1.out x16_1 p139 q139; cases e139; have hn139_0 : ad139.block ≠ gb138 := Nat.ne_of_lt (Nat.lt_of_lt_of_le (by have := World.block_lt_of_cell? _ _ hx139_0; first | rwa [add_block] at this | exact this) GW138.out); have hn139_1 : ad139.block ≠ gb138 := Nat.ne_of_lt (Nat.lt_of_lt_of_le (by have := World.block_lt_of_cell? _ _ hx139_0; first | rwa [add_block] at this | exact this) GW138.out); replace hx139_0 := (HB.out.cell (World.block_lt_of_cell? w _ hx139_0)).trans hx139_0; replace hx139_0 := (cell_far (p := ⟨gb138, 0, none⟩) (by first | (rw [add_block]; exact hn139_0) | (show (Addr.add _ _).block ≠ _; rw [add_block]; exact hn139_0) | exact hn139_0) (.int .i64 ((rd_T32 l0 x35_3).f0))).trans hx139_0; replace hx139_0 := (cell_far (p := ⟨gb138, 1, none⟩) (by first | (rw [add_block]; exact hn139_1) | (show (Addr.add _ _).block ≠ _; rw [add_block]; exact hn139_1) | exact hn139_1) (.int .i64 ((rd_T32 l0 x35_3).f1))).trans hx139_0; (try have hy139_0 := fun (n_ : Nat) => (show ((((w31.drewN n_).setCell ⟨gb138, 0, none⟩ (.int .i64 ((rd_T32 l0 x35_3).f0))).setCell ⟨gb138, 1, none⟩ (.int .i64 ((rd_T32 l0 x35_3).f1)))).cell? _ = some _ from hx139_0)); clear hn139_0; clear hn139_1; replace p139 := eq_true p139; replace q139 := eq_true q139; have p140 : 0 ≤ (x35_3 : Int) := of_decide_eq_true (by first | (with_reducible assumption) | assumption); have q140 : x35_3 < (l1.length : Int) := of_decide_eq_true (by first | (with_reducible assumption) | assumption); obtain ⟨ad140, e140, hx140_0⟩ := Kd.at_int HR1.out x35_3 p140 q140; obtain rfl : ad139 = ad140 := (by injection e140); have hn140_0 : ad139.block ≠ gb138 := Nat.ne_of_lt (Nat.lt_of_lt_of_le (by have := World.block_lt_of_cell? _ _ hx140_0; first | rwa [add_block] at this | exact this) GW138.out); have hn140_1 : ad139.block ≠ gb138 := Nat.ne_of_lt (Nat.lt_of_lt_of_le (by have := World.block_lt_of_cell? _ _ hx140_0; first | rwa [add_block] at this | exact this) GW138.out); replace hx140_0 := (HB.out.cell (World.block_lt_of_cell? w _ hx140_0)).trans hx140_0; replace hx140_0 := (cell_far (p := ⟨gb138, 0, none⟩) (by first | (rw [add_block]; exact hn140_0) | (show (Addr.add _ _).block ≠ _; rw [add_block]; exact hn140_0) | exact hn140_0) (.int .i64 ((rd_T32 l0 x35_3).f0))).trans hx140_0; replace hx140_0 := (cell_far (p := ⟨gb138, 1, none⟩) (by first | (rw [add_block]; exact hn140_1) | (show (Addr.add _ _).block ≠ _; rw [add_block]; exact hn140_1) | exact hn140_1) (.int .i64 ((rd_T32 l0 x35_3).f1))).trans hx140_0; (try have hy140_0 := fun (n_ : Nat) => (show ((((w31.drewN n_).setCell ⟨gb138, 0, none⟩ (.int .i64 ((rd_T32 l0 x35_3).f0))).setCell ⟨gb138, 1, none⟩ (.int .i64 ((rd_T32 l0 x35_3).f1)))).cell? _ = some _ from hx140_0)); clear hn140_0; clear hn140_1; replace p140 := eq_true p140; replace q140 := eq_true q140)))
                                              go_ret
                                              exact ⟨by first | rfl | (simp [errW_none, errW_some] <;> rfl) | (simp [*, errW_none, errW_some] <;> rfl), by repeat (first | (with_reducible first | exact HB.out | apply below_alloc | apply pw_below_drewN | apply below_drew1 | refine below_set ?_ GE133.out | refine below_set ?_ GE138.out) | exact HB.out)⟩
                                            · rw [if_neg c30] at H
                                              have c30b0 : decide ((wrap64 (((rd_T32 l0 x16_1).f1) - ((rd_T32 l0 x35_3).f1))) < (rd l1 x35_3)) = false := decide_eq_false c30
                                              clear c30
                                              have H' := Aside0.mk H
                                              clear H
                                              have p137 : 0 ≤ (x35_3 : Int) := of_decide_eq_true (by first | (with_reducible assumption) | assumption)
                                              have q137 : x35_3 < (l0.length : Int) := of_decide_eq_true (by first | (with_reducible assumption) | assumption)
                                              obtain ⟨ad137, e137, hx137_0, hx137_1⟩ := at_T32 HR0.out x35_3 p137 q137
                                              obtain rfl : ad132 = ad137 := (by injection e137)
                                              replace hx137_0 := (HB.out.cell (World.block_lt_of_cell? w _ hx137_0)).trans hx137_0
                                              replace hx137_1 := (HB.out.cell (World.block_lt_of_cell? w _ hx137_1)).trans hx137_1
                                              replace p137 := eq_true p137
                                              replace q137 := eq_true q137
                                              go_wp2_with (first | ((with_reducible refine gate_dst (N := 8) rfl ?_); refine box_event ?hg (N := 8) ?hd (cs := #[.int .i64 0, .int .i64 0]) (t := 32) ?hr ?_; (case hd => rfl); (case hg => rfl); (case hr => first | (go_simp; done) | (go_simp; rfl)); intro gb138 hg w35 hbox hb; have n0_ := Aside0.mk (blk_below (g := gb133) (o := .cells #[.int .i64 ((rd_T32 l0 x16_1).f0), .int .i64 ((rd_T32 l0 x16_1).f1)] 32 (0, 0)) (by (with_reducible repeat (first | refine blk_drewN ?_ _ | refine blk_drew ?_ | refine blk_alloc ?_ _)); exact BK133.out) hb); have n1_ := Aside0.mk (below_step (by repeat (first | (with_reducible first | exact HB.out | apply below_alloc | apply pw_below_drewN | apply below_drew1 | refine below_set ?_ GE133.out) | exact HB.out)) hb); have n2_ := Aside0.mk (hbox); have n3_ := Aside0.mk ((by rw [hg]; exact (below_size (by repeat (first | (with_reducible first | exact HB.out | apply below_alloc | apply pw_below_drewN | apply below_drew1 | refine below_set ?_ GE133.out) | exact HB.out))) : w.heap.size ≤ gb138)); have n4_ := Aside0.mk ((by rw [hg]; exact (below_size (by repeat (first | (with_reducible first | exact HB.out | apply below_alloc | apply pw_below_drewN | apply below_drew1 | refine below_set ?_ GE133.out) | exact HB.out))) : w.heap.size ≤ gb138)); have n5_ := Aside0.mk ((by rw [hg]; exact Nat.ne_of_lt (blk_lt (g := gb133) (o := .cells #[.int .i64 ((rd_T32 l0 x16_1).f0), .int .i64 ((rd_T32 l0 x16_1).f1)] 32 (0, 0)) (by (with_reducible repeat (first | refine blk_drewN ?_ _ | refine blk_drew ?_ | refine blk_alloc ?_ _)); exact BK133.out)) : gb133 ≠ gb138)); have n6_ := Aside0.mk ((by rw [hg]; exact Nat.ne_of_gt (blk_lt (g := gb133) (o := .cells #[.int .i64 ((rd_T32 l0 x16_1).f0), .int .i64 ((rd_T32 l0 x16_1).f1)] 32 (0, 0)) (by (with_reducible repeat (first | refine blk_drewN ?_ _ | refine blk_drew ?_ | refine blk_alloc ?_ _)); exact BK133.out)) : gb138 ≠ gb133)); clear BK133; clear HB; have BK133 := n0_; have HB := n1_; have BK138 := n2_; have GW138 := n3_; have GE138 := n4_; have NB133_138 := n5_; have NB138_133 := n6_; clear n0_ n1_ n2_ n3_ n4_ n5_ n6_; clear hb hbox hg; have hnb36 := NB138_133.out; have hnc36 := NB133_138.out; have hcz37_0 : w35.cell? ⟨gb138, 0, none⟩ = some (.int .i64 0) := (blk_cell BK138.out 0).trans rfl; have hcz37_1 : w35.cell? ⟨gb138, 1, none⟩ = some (.int .i64 0) := (blk_cell BK138.out 1).trans rfl; have hfz37_0 := blk_frozen BK138.out 0; have hfz37_1 := blk_frozen BK138.out 1; have hcz38_0 : w35.cell? ⟨gb133, 0, none⟩ = some (.int .i64 ((rd_T32 l0 x16_1).f0)) := (blk_cell BK133.out 0).trans rfl; have hcz38_1 : w35.cell? ⟨gb133, 1, none⟩ = some (.int .i64 ((rd_T32 l0 x16_1).f1)) := (blk_cell BK133.out 1).trans rfl; have hfz38_0 := blk_frozen BK133.out 0; have hfz38_1 := blk_frozen BK133.out 1; have p139 : 0 ≤ (x16_1 : Int) := of_decide_eq_true (by first | (with_reducible assumption) | assumption); have q139 : x16_1 < (l1.length : Int) := of_decide_eq_true (by first | (with_reducible assumption) | assumption); obtain ⟨ad139, e139, hx139_0⟩ := Kd.at_int HR1.out x16_1 p139 q139; cases e139; have hn139_0 : ad139.block ≠ gb138 := Nat.ne_of_lt (Nat.lt_of_lt_of_le (by have := World.block_lt_of_cell? _ _ hx139_0; first | rwa [add_block] at this | exact this) GW138.out); have hn139_1 : ad139.block ≠ gb138 := Nat.ne_of_lt (Nat.lt_of_lt_of_le (by have := World.block_lt_of_cell? _ _ hx139_0; first | rwa [add_block] at this | exact this) GW138.out); replace hx139_0 := (HB.out.cell (World.block_lt_of_cell? w _ hx139_0)).trans hx139_0; replace hx139_0 := (cell_far (p := ⟨gb138, 0, none⟩) (by first | (rw [add_block]; exact hn139_0) | (show (Addr.add _ _).block ≠ _; rw [add_block]; exact hn139_0) | exact hn139_0) (.int .i64 ((rd_T32 l0 x35_3).f0))).trans hx139_0; replace hx139_0 := (cell_far (p := ⟨gb138, 1, none⟩) (by first | (rw [add_block]; exact hn139_1) | (show (Addr.add _ _).block ≠ _; rw [add_block]; exact hn139_1) | exact hn139_1) (.int .i64 ((rd_T32 l0 x35_3).f1))).trans hx139_0; (try have hy139_0 := fun (n_ : Nat) => (show ((((w35.drewN n_).setCell ⟨gb138, 0, none⟩ (.int .i64 ((rd_T32 l0 x35_3).f0))).setCell ⟨gb138, 1, none⟩ (.int .i64 ((rd_T32 l0 x35_3).f1)))).cell? _ = some _ from hx139_0)); clear hn139_0; clear hn139_1; replace p139 := eq_true p139; replace q139 := eq_true q139; have p140 : 0 ≤ (x35_3 : Int) := of_decide_eq_true (by first | (with_reducible assumption) | assumption); have q140 : x35_3 < (l1.length : Int) := of_decide_eq_true (by first | (with_reducible assumption) | assumption); obtain ⟨ad140, e140, hx140_0⟩ := Kd.at_int HR1.out x35_3 p140 q140; obtain rfl : ad139 = ad140 := (by injection e140); have hn140_0 : ad139.block ≠ gb138 := Nat.ne_of_lt (Nat.lt_of_lt_of_le (by have := World.block_lt_of_cell? _ _ hx140_0; first | rwa [add_block] at this | exact this) GW138.out); have hn140_1 : ad139.block ≠ gb138 := Nat.ne_of_lt (Nat.lt_of_lt_of_le (by have := World.block_lt_of_cell? _ _ hx140_0; first | rwa [add_block] at this | exact this) GW138.out); replace hx140_0 := (HB.out.cell (World.block_lt_of_cell? w _ hx140_0)).trans hx140_0; replace hx140_0 := (cell_far (p := ⟨gb138, 0, none⟩) (by first | (rw [add_block]; exact hn140_0) | (show (Addr.add _ _).block ≠ _; rw [add_block]; exact hn140_0) | exact hn140_0) (.int .i64 ((rd_T32 l0 x35_3).f0))).trans hx140_0; replace hx140_0 := (cell_far (p := ⟨gb138, 1, none⟩) (by first | (rw [add_block]; exact hn140_1) | (show (Addr.add _ _).block ≠ _; rw [add_block]; exact hn140_1) | exact hn140_1) (.int .i64 ((rd_T32 l0 x35_3).f1))).trans hx140_0; (try have hy140_0 := fun (n_ : Nat) => (show ((((w35.drewN n_).setCell ⟨gb138, 0, none⟩ (.int .i64 ((rd_T32 l0 x35_3).f0))).setCell ⟨gb138, 1, none⟩ (.int .i64 ((rd_T32 l0 x35_3).f1)))).cell? _ = some _ from hx140_0)); clear hn140_0; clear hn140_1; replace p140 := eq_true p140; replace q140 := eq_true q140))
                                              repeat (go_quiet (first | ((with_reducible refine gate_dst (N := 8) rfl ?_); refine box_event ?hg (N := 8) ?hd (cs := #[.int .i64 0, .int .i64 0]) (t := 32) ?hr ?_; (case hd => rfl); (case hg => rfl); (case hr => first | (go_simp; done) | (go_simp; rfl)); intro gb138 hg w35 hbox hb; have n0_ := Aside0.mk (blk_below (g := gb133) (o := .cells #[.int .i64 ((rd_T32 l0 x16_1).f0), .int .i64 ((rd_T32 l0 x16_1).f1)] 32 (0, 0)) (by (with_reducible repeat (first | refine blk_drewN ?_ _ | refine blk_drew ?_ | refine blk_alloc ?_ _)); exact BK133.out) hb); have n1_ := Aside0.mk (below_step (by repeat (first | (with_reducible first | exact HB.out | apply below_alloc | apply pw_below_drewN | apply below_drew1 | refine below_set ?_ GE133.out) | exact HB.out)) hb); have n2_ := Aside0.mk (hbox); have n3_ := Aside0.mk ((by rw [hg]; exact (below_size (by repeat (first | (with_reducible first | exact HB.out | apply below_alloc | apply pw_below_drewN | apply below_drew1 | refine below_set ?_ GE133.out) | exact HB.out))) : w.heap.size ≤ gb138)); have n4_ := Aside0.mk ((by rw [hg]; exact (below_size (by repeat (first | (with_reducible first | exact HB.out | apply below_alloc | apply pw_below_drewN | apply below_drew1 | refine below_set ?_ GE133.out) | exact HB.out))) : w.heap.size ≤ gb138)); have n5_ := Aside0.mk ((by rw [hg]; exact Nat.ne_of_lt (blk_lt (g := gb133) (o := .cells #[.int .i64 ((rd_T32 l0 x16_1).f0), .int .i64 ((rd_T32 l0 x16_1).f1)] 32 (0, 0)) (by (with_reducible repeat (first | refine blk_drewN ?_ _ | refine blk_drew ?_ | refine blk_alloc ?_ _)); exact BK133.out)) : gb133 ≠ gb138)); have n6_ := Aside0.mk ((by rw [hg]; exact Nat.ne_of_gt (blk_lt (g := gb133) (o := .cells #[.int .i64 ((rd_T32 l0 x16_1).f0), .int .i64 ((rd_T32 l0 x16_1).f1)] 32 (0, 0)) (by (with_reducible repeat (first | refine blk_drewN ?_ _ | refine blk_drew ?_ | refine blk_alloc ?_ _)); exact BK133.out)) : gb138 ≠ gb133)); clear BK133; clear HB; have BK133 := n0_; have HB := n1_; have BK138 := n2_; have GW138 := n3_; have GE138 := n4_; have NB133_138 := n5_; have NB138_133 := n6_; clear n0_ n1_ n2_ n3_ n4_ n5_ n6_; clear hb hbox hg; have hnb36 := NB138_133.out; have hnc36 := NB133_138.out; have hcz37_0 : w35.cell? ⟨gb138, 0, none⟩ = some (.int .i64 0) := (blk_cell BK138.out 0).trans rfl; have hcz37_1 : w35.cell? ⟨gb138, 1, none⟩ = some (.int .i64 0) := (blk_cell BK138.out 1).trans rfl; have hfz37_0 := blk_frozen BK138.out 0; have hfz37_1 := blk_frozen BK138.out 1; have hcz38_0 : w35.cell? ⟨gb133, 0, none⟩ = some (.int .i64 ((rd_T32 l0 x16_1).f0)) := (blk_cell BK133.out 0).trans rfl; have hcz38_1 : w35.cell? ⟨gb133, 1, none⟩ = some (.int .i64 ((rd_T32 l0 x16_1).f1)) := (blk_cell BK133.out 1).trans rfl; have hfz38_0 := blk_frozen BK133.out 0; have hfz38_1 := blk_frozen BK133.out 1; have p139 : 0 ≤ (x16_1 : Int) := of_decide_eq_true (by first | (with_reducible assumption) | assumption); have q139 : x16_1 < (l1.length : Int) := of_decide_eq_true (by first | (with_reducible assumption) | assumption); obtain ⟨ad139, e139, hx139_0⟩ := Kd.at_int HR1.out x16_1 p139 q139; cases e139; have hn139_0 : ad139.block ≠ gb138 := Nat.ne_of_lt (Nat.lt_of_lt_of_le (by have := World.block_lt_of_cell? _ _ hx139_0; first | rwa [add_block] at this | exact this) GW138.out); have hn139_1 : ad139.block ≠ gb138 := Nat.ne_of_lt (Nat.lt_of_lt_of_le (by have := World.block_lt_of_cell? _ _ hx139_0; first | rwa [add_block] at this | exact this) GW138.out); replace hx139_0 := (HB.out.cell (World.block_lt_of_cell? w _ hx139_0)).trans hx139_0; replace hx139_0 := (cell_far (p := ⟨gb138, 0, none⟩) (by first | (rw [add_block]; exact hn139_0) | (show (Addr.add _ _).block ≠ _; rw [add_block]; exact hn139_0) | exact hn139_0) (.int .i64 ((rd_T32 l0 x35_3).f0))).trans hx139_0; replace hx139_0 := (cell_far (p := ⟨gb138, 1, none⟩) (by first | (rw [add_block]; exact hn139_1) | (show (Addr.add _ _).block ≠ _; rw [add_block]; exact hn139_1) | exact hn139_1) (.int .i64 ((rd_T32 l0 x35_3).f1))).trans hx139_0; (try have hy139_0 := fun (n_ : Nat) => (show ((((w35.drewN n_).setCell ⟨gb138, 0, none⟩ (.int .i64 ((rd_T32 l0 x35_3).f0))).setCell ⟨gb138, 1, none⟩ (.int .i64 ((rd_T32 l0 x35_3).f1)))).cell? _ = some _ from hx139_0)); clear hn139_0; clear hn139_1; replace p139 := eq_true p139; replace q139 := eq_true q139; have p140 : 0 ≤ (x35_3 : Int) := of_decide_eq_true (by first | (with_reducible assumption) | assumption); have q140 : x35_3 < (l1.length : Int) := of_decide_eq_true (by first | (with_reducible assumption) | assumption); obtain ⟨ad140, e140, hx140_0⟩ := Kd.at_int HR1.out x35_3 p140 q140; obtain rfl : ad139 = ad140 := (by injection e140); have hn140_0 : ad139.block ≠ gb138 := Nat.ne_of_lt (Nat.lt_of_lt_of_le (by have := World.block_lt_of_cell? _ _ hx140_0; first | rwa [add_block] at this | exact this) GW138.out); have hn140_1 : ad139.block ≠ gb138 := Nat.ne_of_lt (Nat.lt_of_lt_of_le (by have := World.block_lt_of_cell? _ _ hx140_0; first | rwa [add_block] at this | exact this) GW138.out); replace hx140_0 := (HB.out.cell (World.block_lt_of_cell? w _ hx140_0)).trans hx140_0; replace hx140_0 := (cell_far (p := ⟨gb138, 0, none⟩) (by first | (rw [add_block]; exact hn140_0) | (show (Addr.add _ _).block ≠ _; rw [add_block]; exact hn140_0) | exact hn140_0) (.int .i64 ((rd_T32 l0 x35_3).f0))).trans hx140_0; replace hx140_0 := (cell_far (p := ⟨gb138, 1, none⟩) (by first | (rw [add_block]; exact hn140_1) | (show (Addr.add _ _).block ≠ _; rw [add_block]; exact hn140_1) | exact hn140_1) (.int .i64 ((rd_T32 l0 x35_3).f1))).trans hx140_0; (try have hy140_0 := fun (n_ : Nat) => (show ((((w35.drewN n_).setCell ⟨gb138, 0, none⟩ (.int .i64 ((rd_T32 l0 x35_3).f0))).setCell ⟨gb138, 1, none⟩ (.int .i64 ((rd_T32 l0 x35_3).f1)))).cell? _ = some _ from hx140_0)); clear hn140_0; clear hn140_1; replace p140 := eq_true p140; replace q140 := eq_true q140)); try go_wp2_with (first | ((with_reducible refine gate_dst (N := 8) rfl ?_); refine box_event ?hg (N := 8) ?hd (cs := #[.int .i64 0, .int .i64 0]) (t := 32) ?hr ?_; (case hd => rfl); (case hg => rfl); (case hr => first | (go_simp; done) | (go_simp; rfl)); intro gb138 hg w35 hbox hb; have n0_ := Aside0.mk (blk_below (g := gb133) (o := .cells #[.int .i64 ((rd_T32 l0 x16_1).f0), .int .i64 ((rd_T32 l0 x16_1).f1)] 32 (0, 0)) (by (with_reducible repeat (first | refine blk_drewN ?_ _ | refine blk_drew ?_ | refine blk_alloc ?_ _)); exact BK133.out) hb); have n1_ := Aside0.mk (below_step (by repeat (first | (with_reducible first | exact HB.out | apply below_alloc | apply pw_below_drewN | apply below_drew1 | refine below_set ?_ GE133.out) | exact HB.out)) hb); have n2_ := Aside0.mk (hbox); have n3_ := Aside0.mk ((by rw [hg]; exact (below_size (by repeat (first | (with_reducible first | exact HB.out | apply below_alloc | apply pw_below_drewN | apply below_drew1 | refine below_set ?_ GE133.out) | exact HB.out))) : w.heap.size ≤ gb138)); have n4_ := Aside0.mk ((by rw [hg]; exact (below_size (by repeat (first | (with_reducible first | exact HB.out | apply below_alloc | apply pw_below_drewN | apply below_drew1 | refine below_set ?_ GE133.out) | exact HB.out))) : w.heap.size ≤ gb138)); have n5_ := Aside0.mk ((by rw [hg]; exact Nat.ne_of_lt (blk_lt (g := gb133) (o := .cells #[.int .i64 ((rd_T32 l0 x16_1).f0), .int .i64 ((rd_T32 l0 x16_1).f1)] 32 (0, 0)) (by (with_reducible repeat (first | refine blk_drewN ?_ _ | refine blk_drew ?_ | refine blk_alloc ?_ _)); exact BK133.out)) : gb133 ≠ gb138)); have n6_ := Aside0.mk ((by rw [hg]; exact Nat.ne_of_gt (blk_lt (g := gb133) (o := .cells #[.int .i64 ((rd_T32 l0 x16_1).f0), .int .i64 ((rd_T32 l0 x16_1).f1)] 32 (0, 0)) (by (with_reducible repeat (first | refine blk_drewN ?_ _ | refine blk_drew ?_ | refine blk_alloc ?_ _)); exact BK133.out)) : gb138 ≠ gb133)); clear BK133; clear HB; have BK133 := n0_; have HB := n1_; have BK138 := n2_; have GW138 := n3_; have GE138 := n4_; have NB133_138 := n5_; have NB138_133 := n6_; clear n0_ n1_ n2_ n3_ n4_ n5_ n6_; clear hb hbox hg; have hnb36 := NB138_133.out; have hnc36 := NB133_138.out; have hcz37_0 : w35.cell? ⟨gb138, 0, none⟩ = some (.int .i64 0) := (blk_cell BK138.out 0).trans rfl; have hcz37_1 : w35.cell? ⟨gb138, 1, none⟩ = some (.int .i64 0) := (blk_cell BK138.out 1).trans rfl; have hfz37_0 := blk_frozen BK138.out 0; have hfz37_1 := blk_frozen BK138.out 1; have hcz38_0 : w35.cell? ⟨gb133, 0, none⟩ = some (.int .i64 ((rd_T32 l0 x16_1).f0)) := (blk_cell BK133.out 0).trans rfl; have hcz38_1 : w35.cell? ⟨gb133, 1, none⟩ = some (.int .i64 ((rd_T32 l0 x16_1).f1)) := (blk_cell BK133.out 1).trans rfl; have hfz38_0 := blk_frozen BK133.out 0; have hfz38_1 := blk_frozen BK133.out 1; have p139 : 0 ≤ (x16_1 : Int) := of_decide_eq_true (by first | (with_reducible assumption) | assumption); have q139 : x16_1 < (l1.length : Int) := of_decide_eq_true (by first | (with_reducible assumption) | assumption); obtain ⟨ad139, e139, hx139_0⟩ := Kd.at_int HR1.out x16_1 p139 q139; cases e139; have hn139_0 : ad139.block ≠ gb138 := Nat.ne_of_lt (Nat.lt_of_lt_of_le (by have := World.block_lt_of_cell? _ _ hx139_0; first | rwa [add_block] at this | exact this) GW138.out); have hn139_1 : ad139.block ≠ gb138 := Nat.ne_of_lt (Nat.lt_of_lt_of_le (by have := World.block_lt_of_cell? _ _ hx139_0; first | rwa [add_block] at this | exact this) GW138.out); replace hx139_0 := (HB.out.cell (World.block_lt_of_cell? w _ hx139_0)).trans hx139_0; replace hx139_0 := (cell_far (p := ⟨gb138, 0, none⟩) (by first | (rw [add_block]; exact hn139_0) | (show (Addr.add _ _).block ≠ _; rw [add_block]; exact hn139_0) | exact hn139_0) (.int .i64 ((rd_T32 l0 x35_3).f0))).trans hx139_0; replace hx139_0 := (cell_far (p := ⟨gb138, 1, none⟩) (by first | (rw [add_block]; exact hn139_1) | (show (Addr.add _ _).block ≠ _; rw [add_block]; exact hn139_1) | exact hn139_1) (.int .i64 ((rd_T32 l0 x35_3).f1))).trans hx139_0; (try have hy139_0 := fun (n_ : Nat) => (show ((((w35.drewN n_).setCell ⟨gb138, 0, none⟩ (.int .i64 ((rd_T32 l0 x35_3).f0))).setCell ⟨gb138, 1, none⟩ (.int .i64 ((rd_T32 l0 x35_3).f1)))).cell? _ = some _ from hx139_0)); clear hn139_0; clear hn139_1; replace p139 := eq_true p139; replace q139 := eq_true q139; have p140 : 0 ≤ (x35_3 : Int) := of_decide_eq_true (by first | (with_reducible assumption) | assumption); have q140 : x35_3 < (l1.length : Int) := of_decide_eq_true (by first | (with_reducible assumption) | assumption); obtain ⟨ad140, e140, hx140_0⟩ := Kd.at_int HR1.out x35_3 p140 q140; obtain rfl : ad139 = ad140 := (by injection e140); have hn140_0 : ad139.block ≠ gb138 := Nat.ne_of_lt (Nat.lt_of_lt_of_le (by have := World.block_lt_of_cell? _ _ hx140_0; first | rwa [add_block] at this | exact this) GW138.out); have hn140_1 : ad139.block ≠ gb138 := Nat.ne_of_lt (Nat.lt_of_lt_of_le (by have := World.block_lt_of_cell? _ _ hx140_0; first | rwa [add_block] at this | exact this) GW138.out); replace hx140_0 := (HB.out.cell (World.block_lt_of_cell? w _ hx140_0)).trans hx140_0; replace hx140_0 := (cell_far (p := ⟨gb138, 0, none⟩) (by first | (rw [add_block]; exact hn140_0) | (show (Addr.add _ _).block ≠ _; rw [add_block]; exact hn140_0) | exact hn140_0) (.int .i64 ((rd_T32 l0 x35_3).f0))).trans hx140_0; replace hx140_0 := (cell_far (p := ⟨gb138, 1, none⟩) (by first | (rw [add_block]; exact hn140_1) | (show (Addr.add _ _).block ≠ _; rw [add_block]; exact hn140_1) | exact hn140_1) (.int .i64 ((rd_T32 l0 x35_3).f1))).trans hx140_0; (try have hy140_0 := fun (n_ : Nat) => (show ((((w35.drewN n_).setCell ⟨gb138, 0, none⟩ (.int .i64 ((rd_T32 l0 x35_3).f0))).setCell ⟨gb138, 1, none⟩ (.int .i64 ((rd_T32 l0 x35_3).f1)))).cell? _ = some _ from hx140_0)); clear hn140_0; clear hn140_1; replace p140 := eq_true p140; replace q140 := eq_true q140)))
                                              go_roundg k3
                                              case measure => have := HK1.out; have := HJ6.out; have := HK3.out; omega
                                              case rel => exact ⟨(wrap64 (x35_3 + 1)), (by first | rfl | (simp; done) | (simp [*]; done)), H', ⟨by have := HK1.out; have := HJ6.out; have := HK3.out; omega⟩, ⟨by (with_reducible repeat (first | refine blk_drewN ?_ _ | refine blk_drew ?_ | refine blk_alloc ?_ _)); refine blk_far ?_ NB133_138.out _; (with_reducible repeat (first | refine blk_drewN ?_ _ | refine blk_drew ?_ | refine blk_alloc ?_ _)); refine blk_far ?_ NB133_138.out _; (with_reducible repeat (first | refine blk_drewN ?_ _ | refine blk_drew ?_ | refine blk_alloc ?_ _)); exact BK133.out⟩, ⟨by repeat (first | (with_reducible first | exact HB.out | apply below_alloc | apply pw_below_drewN | apply below_drew1 | refine below_set ?_ GE133.out | refine below_set ?_ GE138.out) | exact HB.out)⟩⟩
                                          · rw [if_neg c29] at H
                                            exact absurd H (by simp)
                                        · rw [if_neg c28] at H
                                          have c28b0 : decide (((rd_T32 l0 x35_3).f1) ≤ ((rd_T32 l0 x16_1).f1)) = false := decide_eq_false c28
                                          clear c28
                                          have H' := Aside0.mk H
                                          clear H
                                          have p137 : 0 ≤ (x35_3 : Int) := of_decide_eq_true (by first | (with_reducible assumption) | assumption)
                                          have q137 : x35_3 < (l0.length : Int) := of_decide_eq_true (by first | (with_reducible assumption) | assumption)
                                          obtain ⟨ad137, e137, hx137_0, hx137_1⟩ := at_T32 HR0.out x35_3 p137 q137
                                          obtain rfl : ad132 = ad137 := (by injection e137)
                                          replace hx137_0 := (HB.out.cell (World.block_lt_of_cell? w _ hx137_0)).trans hx137_0
                                          replace hx137_1 := (HB.out.cell (World.block_lt_of_cell? w _ hx137_1)).trans hx137_1
                                          replace p137 := eq_true p137
                                          replace q137 := eq_true q137
                                          go_wp2_with (first | ((with_reducible refine gate_dst (N := 8) rfl ?_); refine box_event ?hg (N := 8) ?hd (cs := #[.int .i64 0, .int .i64 0]) (t := 32) ?hr ?_; (case hd => rfl); (case hg => rfl); (case hr => first | (go_simp; done) | (go_simp; rfl)); intro gb138 hg w39 hbox hb; have n0_ := Aside0.mk (blk_below (g := gb133) (o := .cells #[.int .i64 ((rd_T32 l0 x16_1).f0), .int .i64 ((rd_T32 l0 x16_1).f1)] 32 (0, 0)) (by (with_reducible repeat (first | refine blk_drewN ?_ _ | refine blk_drew ?_ | refine blk_alloc ?_ _)); exact BK133.out) hb); have n1_ := Aside0.mk (below_step (by repeat (first | (with_reducible first | exact HB.out | apply below_alloc | apply pw_below_drewN | apply below_drew1 | refine below_set ?_ GE133.out) | exact HB.out)) hb); have n2_ := Aside0.mk (hbox); have n3_ := Aside0.mk ((by rw [hg]; exact (below_size (by repeat (first | (with_reducible first | exact HB.out | apply below_alloc | apply pw_below_drewN | apply below_drew1 | refine below_set ?_ GE133.out) | exact HB.out))) : w.heap.size ≤ gb138)); have n4_ := Aside0.mk ((by rw [hg]; exact (below_size (by repeat (first | (with_reducible first | exact HB.out | apply below_alloc | apply pw_below_drewN | apply below_drew1 | refine below_set ?_ GE133.out) | exact HB.out))) : w.heap.size ≤ gb138)); have n5_ := Aside0.mk ((by rw [hg]; exact Nat.ne_of_lt (blk_lt (g := gb133) (o := .cells #[.int .i64 ((rd_T32 l0 x16_1).f0), .int .i64 ((rd_T32 l0 x16_1).f1)] 32 (0, 0)) (by (with_reducible repeat (first | refine blk_drewN ?_ _ | refine blk_drew ?_ | refine blk_alloc ?_ _)); exact BK133.out)) : gb133 ≠ gb138)); have n6_ := Aside0.mk ((by rw [hg]; exact Nat.ne_of_gt (blk_lt (g := gb133) (o := .cells #[.int .i64 ((rd_T32 l0 x16_1).f0), .int .i64 ((rd_T32 l0 x16_1).f1)] 32 (0, 0)) (by (with_reducible repeat (first | refine blk_drewN ?_ _ | refine blk_drew ?_ | refine blk_alloc ?_ _)); exact BK133.out)) : gb138 ≠ gb133)); clear BK133; clear HB; have BK133 := n0_; have HB := n1_; have BK138 := n2_; have GW138 := n3_; have GE138 := n4_; have NB133_138 := n5_; have NB138_133 := n6_; clear n0_ n1_ n2_ n3_ n4_ n5_ n6_; clear hb hbox hg; have hnb40 := NB138_133.out; have hnc40 := NB133_138.out; have hcz41_0 : w39.cell? ⟨gb138, 0, none⟩ = some (.int .i64 0) := (blk_cell BK138.out 0).trans rfl; have hcz41_1 : w39.cell? ⟨gb138, 1, none⟩ = some (.int .i64 0) := (blk_cell BK138.out 1).trans rfl; have hfz41_0 := blk_frozen BK138.out 0; have hfz41_1 := blk_frozen BK138.out 1; have hcz42_0 : w39.cell? ⟨gb133, 0, none⟩ = some (.int .i64 ((rd_T32 l0 x16_1).f0)) := (blk_cell BK133.out 0).trans rfl; have hcz42_1 : w39.cell? ⟨gb133, 1, none⟩ = some (.int .i64 ((rd_T32 l0 x16_1).f1)) := (blk_cell BK133.out 1).trans rfl; have hfz42_0 := blk_frozen BK133.out 0; have hfz42_1 := blk_frozen BK133.out 1; have p139 : 0 ≤ (x16_1 : Int) := of_decide_eq_true (by first | (with_reducible assumption) | assumption); have q139 : x16_1 < (l1.length : Int) := of_decide_eq_true (by first | (with_reducible assumption) | assumption); obtain ⟨ad139, e139, hx139_0⟩ := Kd.at_int HR1.out x16_1 p139 q139; cases e139; have hn139_0 : ad139.block ≠ gb138 := Nat.ne_of_lt (Nat.lt_of_lt_of_le (by have := World.block_lt_of_cell? _ _ hx139_0; first | rwa [add_block] at this | exact this) GW138.out); have hn139_1 : ad139.block ≠ gb138 := Nat.ne_of_lt (Nat.lt_of_lt_of_le (by have := World.block_lt_of_cell? _ _ hx139_0; first | rwa [add_block] at this | exact this) GW138.out); replace hx139_0 := (HB.out.cell (World.block_lt_of_cell? w _ hx139_0)).trans hx139_0; replace hx139_0 := (cell_far (p := ⟨gb138, 0, none⟩) (by first | (rw [add_block]; exact hn139_0) | (show (Addr.add _ _).block ≠ _; rw [add_block]; exact hn139_0) | exact hn139_0) (.int .i64 ((rd_T32 l0 x35_3).f0))).trans hx139_0; replace hx139_0 := (cell_far (p := ⟨gb138, 1, none⟩) (by first | (rw [add_block]; exact hn139_1) | (show (Addr.add _ _).block ≠ _; rw [add_block]; exact hn139_1) | exact hn139_1) (.int .i64 ((rd_T32 l0 x35_3).f1))).trans hx139_0; (try have hy139_0 := fun (n_ : Nat) => (show ((((w39.drewN n_).setCell ⟨gb138, 0, none⟩ (.int .i64 ((rd_T32 l0 x35_3).f0))).setCell ⟨gb138, 1, none⟩ (.int .i64 ((rd_T32 l0 x35_3).f1)))).cell? _ = some _ from hx139_0)); clear hn139_0; clear hn139_1; replace p139 := eq_true p139; replace q139 := eq_true q139))
                                          repeat (go_quiet (first | ((with_reducible refine gate_dst (N := 8) rfl ?_); refine box_event ?hg (N := 8) ?hd (cs := #[.int .i64 0, .int .i64 0]) (t := 32) ?hr ?_; (case hd => rfl); (case hg => rfl); (case hr => first | (go_simp; done) | (go_simp; rfl)); intro gb138 hg w39 hbox hb; have n0_ := Aside0.mk (blk_below (g := gb133) (o := .cells #[.int .i64 ((rd_T32 l0 x16_1).f0), .int .i64 ((rd_T32 l0 x16_1).f1)] 32 (0, 0)) (by (with_reducible repeat (first | refine blk_drewN ?_ _ | refine blk_drew ?_ | refine blk_alloc ?_ _)); exact BK133.out) hb); have n1_ := Aside0.mk (below_step (by repeat (first | (with_reducible first | exact HB.out | apply below_alloc | apply pw_below_drewN | apply below_drew1 | refine below_set ?_ GE133.out) | exact HB.out)) hb); have n2_ := Aside0.mk (hbox); have n3_ := Aside0.mk ((by rw [hg]; exact (below_size (by repeat (first | (with_reducible first | exact HB.out | apply below_alloc | apply pw_below_drewN | apply below_drew1 | refine below_set ?_ GE133.out) | exact HB.out))) : w.heap.size ≤ gb138)); have n4_ := Aside0.mk ((by rw [hg]; exact (below_size (by repeat (first | (with_reducible first | exact HB.out | apply below_alloc | apply pw_below_drewN | apply below_drew1 | refine below_set ?_ GE133.out) | exact HB.out))) : w.heap.size ≤ gb138)); have n5_ := Aside0.mk ((by rw [hg]; exact Nat.ne_of_lt (blk_lt (g := gb133) (o := .cells #[.int .i64 ((rd_T32 l0 x16_1).f0), .int .i64 ((rd_T32 l0 x16_1).f1)] 32 (0, 0)) (by (with_reducible repeat (first | refine blk_drewN ?_ _ | refine blk_drew ?_ | refine blk_alloc ?_ _)); exact BK133.out)) : gb133 ≠ gb138)); have n6_ := Aside0.mk ((by rw [hg]; exact Nat.ne_of_gt (blk_lt (g := gb133) (o := .cells #[.int .i64 ((rd_T32 l0 x16_1).f0), .int .i64 ((rd_T32 l0 x16_1).f1)] 32 (0, 0)) (by (with_reducible repeat (first | refine blk_drewN ?_ _ | refine blk_drew ?_ | refine blk_alloc ?_ _)); exact BK133.out)) : gb138 ≠ gb133)); clear BK133; clear HB; have BK133 := n0_; have HB := n1_; have BK138 := n2_; have GW138 := n3_; have GE138 := n4_; have NB133_138 := n5_; have NB138_133 := n6_; clear n0_ n1_ n2_ n3_ n4_ n5_ n6_; clear hb hbox hg; have hnb40 := NB138_133.out; have hnc40 := NB133_138.out; have hcz41_0 : w39.cell? ⟨gb138, 0, none⟩ = some (.int .i64 0) := (blk_cell BK138.out 0).trans rfl; have hcz41_1 : w39.cell? ⟨gb138, 1, none⟩ = some (.int .i64 0) := (blk_cell BK138.out 1).trans rfl; have hfz41_0 := blk_frozen BK138.out 0; have hfz41_1 := blk_frozen BK138.out 1; have hcz42_0 : w39.cell? ⟨gb133, 0, none⟩ = some (.int .i64 ((rd_T32 l0 x16_1).f0)) := (blk_cell BK133.out 0).trans rfl; have hcz42_1 : w39.cell? ⟨gb133, 1, none⟩ = some (.int .i64 ((rd_T32 l0 x16_1).f1)) := (blk_cell BK133.out 1).trans rfl; have hfz42_0 := blk_frozen BK133.out 0; have hfz42_1 := blk_frozen BK133.out 1; have p139 : 0 ≤ (x16_1 : Int) := of_decide_eq_true (by first | (with_reducible assumption) | assumption); have q139 : x16_1 < (l1.length : Int) := of_decide_eq_true (by first | (with_reducible assumption) | assumption); obtain ⟨ad139, e139, hx139_0⟩ := Kd.at_int HR1.out x16_1 p139 q139; cases e139; have hn139_0 : ad139.block ≠ gb138 := Nat.ne_of_lt (Nat.lt_of_lt_of_le (by have := World.block_lt_of_cell? _ _ hx139_0; first | rwa [add_block] at this | exact this) GW138.out); have hn139_1 : ad139.block ≠ gb138 := Nat.ne_of_lt (Nat.lt_of_lt_of_le (by have := World.block_lt_of_cell? _ _ hx139_0; first | rwa [add_block] at this | exact this) GW138.out); replace hx139_0 := (HB.out.cell (World.block_lt_of_cell? w _ hx139_0)).trans hx139_0; replace hx139_0 := (cell_far (p := ⟨gb138, 0, none⟩) (by first | (rw [add_block]; exact hn139_0) | (show (Addr.add _ _).block ≠ _; rw [add_block]; exact hn139_0) | exact hn139_0) (.int .i64 ((rd_T32 l0 x35_3).f0))).trans hx139_0; replace hx139_0 := (cell_far (p := ⟨gb138, 1, none⟩) (by first | (rw [add_block]; exact hn139_1) | (show (Addr.add _ _).block ≠ _; rw [add_block]; exact hn139_1) | exact hn139_1) (.int .i64 ((rd_T32 l0 x35_3).f1))).trans hx139_0; (try have hy139_0 := fun (n_ : Nat) => (show ((((w39.drewN n_).setCell ⟨gb138, 0, none⟩ (.int .i64 ((rd_T32 l0 x35_3).f0))).setCell ⟨gb138, 1, none⟩ (.int .i64 ((rd_T32 l0 x35_3).f1)))).cell? _ = some _ from hx139_0)); clear hn139_0; clear hn139_1; replace p139 := eq_true p139; replace q139 := eq_true q139)); try go_wp2_with (first | ((with_reducible refine gate_dst (N := 8) rfl ?_); refine box_event ?hg (N := 8) ?hd (cs := #[.int .i64 0, .int .i64 0]) (t := 32) ?hr ?_; (case hd => rfl); (case hg => rfl); (case hr => first | (go_simp; done) | (go_simp; rfl)); intro gb138 hg w39 hbox hb; have n0_ := Aside0.mk (blk_below (g := gb133) (o := .cells #[.int .i64 ((rd_T32 l0 x16_1).f0), .int .i64 ((rd_T32 l0 x16_1).f1)] 32 (0, 0)) (by (with_reducible repeat (first | refine blk_drewN ?_ _ | refine blk_drew ?_ | refine blk_alloc ?_ _)); exact BK133.out) hb); have n1_ := Aside0.mk (below_step (by repeat (first | (with_reducible first | exact HB.out | apply below_alloc | apply pw_below_drewN | apply below_drew1 | refine below_set ?_ GE133.out) | exact HB.out)) hb); have n2_ := Aside0.mk (hbox); have n3_ := Aside0.mk ((by rw [hg]; exact (below_size (by repeat (first | (with_reducible first | exact HB.out | apply below_alloc | apply pw_below_drewN | apply below_drew1 | refine below_set ?_ GE133.out) | exact HB.out))) : w.heap.size ≤ gb138)); have n4_ := Aside0.mk ((by rw [hg]; exact (below_size (by repeat (first | (with_reducible first | exact HB.out | apply below_alloc | apply pw_below_drewN | apply below_drew1 | refine below_set ?_ GE133.out) | exact HB.out))) : w.heap.size ≤ gb138)); have n5_ := Aside0.mk ((by rw [hg]; exact Nat.ne_of_lt (blk_lt (g := gb133) (o := .cells #[.int .i64 ((rd_T32 l0 x16_1).f0), .int .i64 ((rd_T32 l0 x16_1).f1)] 32 (0, 0)) (by (with_reducible repeat (first | refine blk_drewN ?_ _ | refine blk_drew ?_ | refine blk_alloc ?_ _)); exact BK133.out)) : gb133 ≠ gb138)); have n6_ := Aside0.mk ((by rw [hg]; exact Nat.ne_of_gt (blk_lt (g := gb133) (o := .cells #[.int .i64 ((rd_T32 l0 x16_1).f0), .int .i64 ((rd_T32 l0 x16_1).f1)] 32 (0, 0)) (by (with_reducible repeat (first | refine blk_drewN ?_ _ | refine blk_drew ?_ | refine blk_alloc ?_ _)); exact BK133.out)) : gb138 ≠ gb133)); clear BK133; clear HB; have BK133 := n0_; have HB := n1_; have BK138 := n2_; have GW138 := n3_; have GE138 := n4_; have NB133_138 := n5_; have NB138_133 := n6_; clear n0_ n1_ n2_ n3_ n4_ n5_ n6_; clear hb hbox hg; have hnb40 := NB138_133.out; have hnc40 := NB133_138.out; have hcz41_0 : w39.cell? ⟨gb138, 0, none⟩ = some (.int .i64 0) := (blk_cell BK138.out 0).trans rfl; have hcz41_1 : w39.cell? ⟨gb138, 1, none⟩ = some (.int .i64 0) := (blk_cell BK138.out 1).trans rfl; have hfz41_0 := blk_frozen BK138.out 0; have hfz41_1 := blk_frozen BK138.out 1; have hcz42_0 : w39.cell? ⟨gb133, 0, none⟩ = some (.int .i64 ((rd_T32 l0 x16_1).f0)) := (blk_cell BK133.out 0).trans rfl; have hcz42_1 : w39.cell? ⟨gb133, 1, none⟩ = some (.int .i64 ((rd_T32 l0 x16_1).f1)) := (blk_cell BK133.out 1).trans rfl; have hfz42_0 := blk_frozen BK133.out 0; have hfz42_1 := blk_frozen BK133.out 1; have p139 : 0 ≤ (x16_1 : Int) := of_decide_eq_true (by first | (with_reducible assumption) | assumption); have q139 : x16_1 < (l1.length : Int) := of_decide_eq_true (by first | (with_reducible assumption) | assumption); obtain ⟨ad139, e139, hx139_0⟩ := Kd.at_int HR1.out x16_1 p139 q139; cases e139; have hn139_0 : ad139.block ≠ gb138 := Nat.ne_of_lt (Nat.lt_of_lt_of_le (by have := World.block_lt_of_cell? _ _ hx139_0; first | rwa [add_block] at this | exact this) GW138.out); have hn139_1 : ad139.block ≠ gb138 := Nat.ne_of_lt (Nat.lt_of_lt_of_le (by have := World.block_lt_of_cell? _ _ hx139_0; first | rwa [add_block] at this | exact this) GW138.out); replace hx139_0 := (HB.out.cell (World.block_lt_of_cell? w _ hx139_0)).trans hx139_0; replace hx139_0 := (cell_far (p := ⟨gb138, 0, none⟩) (by first | (rw [add_block]; exact hn139_0) | (show (Addr.add _ _).block ≠ _; rw [add_block]; exact hn139_0) | exact hn139_0) (.int .i64 ((rd_T32 l0 x35_3).f0))).trans hx139_0; replace hx139_0 := (cell_far (p := ⟨gb138, 1, none⟩) (by first | (rw [add_block]; exact hn139_1) | (show (Addr.add _ _).block ≠ _; rw [add_block]; exact hn139_1) | exact hn139_1) (.int .i64 ((rd_T32 l0 x35_3).f1))).trans hx139_0; (try have hy139_0 := fun (n_ : Nat) => (show ((((w39.drewN n_).setCell ⟨gb138, 0, none⟩ (.int .i64 ((rd_T32 l0 x35_3).f0))).setCell ⟨gb138, 1, none⟩ (.int .i64 ((rd_T32 l0 x35_3).f1)))).cell? _ = some _ from hx139_0)); clear hn139_0; clear hn139_1; replace p139 := eq_true p139; replace q139 := eq_true q139)))
                                          go_roundg k3
                                          case measure => have := HK1.out; have := HJ6.out; have := HK3.out; omega
                                          case rel => exact ⟨(wrap64 (x35_3 + 1)), (by first | rfl | (simp; done) | (simp [*]; done)), H', ⟨by have := HK1.out; have := HJ6.out; have := HK3.out; omega⟩, ⟨by (with_reducible repeat (first | refine blk_drewN ?_ _ | refine blk_drew ?_ | refine blk_alloc ?_ _)); refine blk_far ?_ NB133_138.out _; (with_reducible repeat (first | refine blk_drewN ?_ _ | refine blk_drew ?_ | refine blk_alloc ?_ _)); refine blk_far ?_ NB133_138.out _; (with_reducible repeat (first | refine blk_drewN ?_ _ | refine blk_drew ?_ | refine blk_alloc ?_ _)); exact BK133.out⟩, ⟨by repeat (first | (with_reducible first | exact HB.out | apply below_alloc | apply pw_below_drewN | apply below_drew1 | refine below_set ?_ GE133.out | refine below_set ?_ GE138.out) | exact HB.out)⟩⟩
                                      · rw [if_neg c27] at H
                                        have c27b0 : decide (0 < (rd l1 x16_1)) = false := decide_eq_false c27
                                        clear c27
                                        have H' := Aside0.mk H
                                        clear H
                                        have p137 : 0 ≤ (x35_3 : Int) := of_decide_eq_true (by first | (with_reducible assumption) | assumption)
                                        have q137 : x35_3 < (l0.length : Int) := of_decide_eq_true (by first | (with_reducible assumption) | assumption)
                                        obtain ⟨ad137, e137, hx137_0, hx137_1⟩ := at_T32 HR0.out x35_3 p137 q137
                                        obtain rfl : ad132 = ad137 := (by injection e137)
                                        replace hx137_0 := (HB.out.cell (World.block_lt_of_cell? w _ hx137_0)).trans hx137_0
                                        replace hx137_1 := (HB.out.cell (World.block_lt_of_cell? w _ hx137_1)).trans hx137_1
                                        replace p137 := eq_true p137
                                        replace q137 := eq_true q137
                                        go_wp2_with (first | ((with_reducible refine gate_dst (N := 8) rfl ?_); refine box_event ?hg (N := 8) ?hd (cs := #[.int .i64 0, .int .i64 0]) (t := 32) ?hr ?_; (case hd => rfl); (case hg => rfl); (case hr => first | (go_simp; done) | (go_simp; rfl)); intro gb138 hg w43 hbox hb; have n0_ := Aside0.mk (blk_below (g := gb133) (o := .cells #[.int .i64 ((rd_T32 l0 x16_1).f0), .int .i64 ((rd_T32 l0 x16_1).f1)] 32 (0, 0)) (by (with_reducible repeat (first | refine blk_drewN ?_ _ | refine blk_drew ?_ | refine blk_alloc ?_ _)); exact BK133.out) hb); have n1_ := Aside0.mk (below_step (by repeat (first | (with_reducible first | exact HB.out | apply below_alloc | apply pw_below_drewN | apply below_drew1 | refine below_set ?_ GE133.out) | exact HB.out)) hb); have n2_ := Aside0.mk (hbox); have n3_ := Aside0.mk ((by rw [hg]; exact (below_size (by repeat (first | (with_reducible first | exact HB.out | apply below_alloc | apply pw_below_drewN | apply below_drew1 | refine below_set ?_ GE133.out) | exact HB.out))) : w.heap.size ≤ gb138)); have n4_ := Aside0.mk ((by rw [hg]; exact (below_size (by repeat (first | (with_reducible first | exact HB.out | apply below_alloc | apply pw_below_drewN | apply below_drew1 | refine below_set ?_ GE133.out) | exact HB.out))) : w.heap.size ≤ gb138)); have n5_ := Aside0.mk ((by rw [hg]; exact Nat.ne_of_lt (blk_lt (g := gb133) (o := .cells #[.int .i64 ((rd_T32 l0 x16_1).f0), .int .i64 ((rd_T32 l0 x16_1).f1)] 32 (0, 0)) (by (with_reducible repeat (first | refine blk_drewN ?_ _ | refine blk_drew ?_ | refine blk_alloc ?_ _)); exact BK133.out)) : gb133 ≠ gb138)); have n6_ := Aside0.mk ((by rw [hg]; exact Nat.ne_of_gt (blk_lt (g := gb133) (o := .cells #[.int .i64 ((rd_T32 l0 x16_1).f0), .int .i64 ((rd_T32 l0 x16_1).f1)] 32 (0, 0)) (by (with_reducible repeat (first | refine blk_drewN ?_ _ | refine blk_drew ?_ | refine blk_alloc ?_ _)); exact BK133.out)) : gb138 ≠ gb133)); clear BK133; clear HB; have BK133 := n0_; have HB := n1_; have BK138 := n2_; have GW138 := n3_; have GE138 := n4_; have NB133_138 := n5_; have NB138_133 := n6_; clear n0_ n1_ n2_ n3_ n4_ n5_ n6_; clear hb hbox hg; have hnb44 := NB138_133.out; have hnc44 := NB133_138.out; have hcz45_0 : w43.cell? ⟨gb138, 0, none⟩ = some (.int .i64 0) := (blk_cell BK138.out 0).trans rfl; have hcz45_1 : w43.cell? ⟨gb138, 1, none⟩ = some (.int .i64 0) := (blk_cell BK138.out 1).trans rfl; have hfz45_0 := blk_frozen BK138.out 0; have hfz45_1 := blk_frozen BK138.out 1; have hcz46_0 : w43.cell? ⟨gb133, 0, none⟩ = some (.int .i64 ((rd_T32 l0 x16_1).f0)) := (blk_cell BK133.out 0).trans rfl; have hcz46_1 : w43.cell? ⟨gb133, 1, none⟩ = some (.int .i64 ((rd_T32 l0 x16_1).f1)) := (blk_cell BK133.out 1).trans rfl; have hfz46_0 := blk_frozen BK133.out 0; have hfz46_1 := blk_frozen BK133.out 1; have p139 : 0 ≤ (x16_1 : Int) := of_decide_eq_true (by first | (with_reducible assumption) | assumption); have q139 : x16_1 < (l1.length : Int) := of_decide_eq_true (by first | (with_reducible assumption) | assumption); obtain ⟨ad139, e139, hx139_0⟩ := Kd.at_int HR1.out x16_1 p139 q139; cases e139; have hn139_0 : ad139.block ≠ gb138 := Nat.ne_of_lt (Nat.lt_of_lt_of_le (by have := World.block_lt_of_cell? _ _ hx139_0; first | rwa [add_block] at this | exact this) GW138.out); have hn139_1 : ad139.block ≠ gb138 := Nat.ne_of_lt (Nat.lt_of_lt_of_le (by have := World.block_lt_of_cell? _ _ hx139_0; first | rwa [add_block] at this | exact this) GW138.out); replace hx139_0 := (HB.out.cell (World.block_lt_of_cell? w _ hx139_0)).trans hx139_0; replace hx139_0 := (cell_far (p := ⟨gb138, 0, none⟩) (by first | (rw [add_block]; exact hn139_0) | (show (Addr.add _ _).block ≠ _; rw [add_block]; exact hn139_0) | exact hn139_0) (.int .i64 ((rd_T32 l0 x35_3).f0))).trans hx139_0; replace hx139_0 := (cell_far (p := ⟨gb138, 1, none⟩) (by first | (rw [add_block]; exact hn139_1) | (show (Addr.add _ _).block ≠ _; rw [add_block]; exact hn139_1) | exact hn139_1) (.int .i64 ((rd_T32 l0 x35_3).f1))).trans hx139_0; (try have hy139_0 := fun (n_ : Nat) => (show ((((w43.drewN n_).setCell ⟨gb138, 0, none⟩ (.int .i64 ((rd_T32 l0 x35_3).f0))).setCell ⟨gb138, 1, none⟩ (.int .i64 ((rd_T32 l0 x35_3).f1)))).cell? _ = some _ from hx139_0)); clear hn139_0; clear hn139_1; replace p139 := eq_true p139; replace q139 := eq_true q139))
                                        repeat (go_quiet (first | ((with_reducible refine gate_dst (N := 8) rfl ?_); refine box_event ?hg (N := 8) ?hd (cs := #[.int .i64 0, .int .i64 0]) (t := 32) ?hr ?_; (case hd => rfl); (case hg => rfl); (case hr => first | (go_simp; done) | (go_simp; rfl)); intro gb138 hg w43 hbox hb; have n0_ := Aside0.mk (blk_below (g := gb133) (o := .cells #[.int .i64 ((rd_T32 l0 x16_1).f0), .int .i64 ((rd_T32 l0 x16_1).f1)] 32 (0, 0)) (by (with_reducible repeat (first | refine blk_drewN ?_ _ | refine blk_drew ?_ | refine blk_alloc ?_ _)); exact BK133.out) hb); have n1_ := Aside0.mk (below_step (by repeat (first | (with_reducible first | exact HB.out | apply below_alloc | apply pw_below_drewN | apply below_drew1 | refine below_set ?_ GE133.out) | exact HB.out)) hb); have n2_ := Aside0.mk (hbox); have n3_ := Aside0.mk ((by rw [hg]; exact (below_size (by repeat (first | (with_reducible first | exact HB.out | apply below_alloc | apply pw_below_drewN | apply below_drew1 | refine below_set ?_ GE133.out) | exact HB.out))) : w.heap.size ≤ gb138)); have n4_ := Aside0.mk ((by rw [hg]; exact (below_size (by repeat (first | (with_reducible first | exact HB.out | apply below_alloc | apply pw_below_drewN | apply below_drew1 | refine below_set ?_ GE133.out) | exact HB.out))) : w.heap.size ≤ gb138)); have n5_ := Aside0.mk ((by rw [hg]; exact Nat.ne_of_lt (blk_lt (g := gb133) (o := .cells #[.int .i64 ((rd_T32 l0 x16_1).f0), .int .i64 ((rd_T32 l0 x16_1).f1)] 32 (0, 0)) (by (with_reducible repeat (first | refine blk_drewN ?_ _ | refine blk_drew ?_ | refine blk_alloc ?_ _)); exact BK133.out)) : gb133 ≠ gb138)); have n6_ := Aside0.mk ((by rw [hg]; exact Nat.ne_of_gt (blk_lt (g := gb133) (o := .cells #[.int .i64 ((rd_T32 l0 x16_1).f0), .int .i64 ((rd_T32 l0 x16_1).f1)] 32 (0, 0)) (by (with_reducible repeat (first | refine blk_drewN ?_ _ | refine blk_drew ?_ | refine blk_alloc ?_ _)); exact BK133.out)) : gb138 ≠ gb133)); clear BK133; clear HB; have BK133 := n0_; have HB := n1_; have BK138 := n2_; have GW138 := n3_; have GE138 := n4_; have NB133_138 := n5_; have NB138_133 := n6_; clear n0_ n1_ n2_ n3_ n4_ n5_ n6_; clear hb hbox hg; have hnb44 := NB138_133.out; have hnc44 := NB133_138.out; have hcz45_0 : w43.cell? ⟨gb138, 0, none⟩ = some (.int .i64 0) := (blk_cell BK138.out 0).trans rfl; have hcz45_1 : w43.cell? ⟨gb138, 1, none⟩ = some (.int .i64 0) := (blk_cell BK138.out 1).trans rfl; have hfz45_0 := blk_frozen BK138.out 0; have hfz45_1 := blk_frozen BK138.out 1; have hcz46_0 : w43.cell? ⟨gb133, 0, none⟩ = some (.int .i64 ((rd_T32 l0 x16_1).f0)) := (blk_cell BK133.out 0).trans rfl; have hcz46_1 : w43.cell? ⟨gb133, 1, none⟩ = some (.int .i64 ((rd_T32 l0 x16_1).f1)) := (blk_cell BK133.out 1).trans rfl; have hfz46_0 := blk_frozen BK133.out 0; have hfz46_1 := blk_frozen BK133.out 1; have p139 : 0 ≤ (x16_1 : Int) := of_decide_eq_true (by first | (with_reducible assumption) | assumption); have q139 : x16_1 < (l1.length : Int) := of_decide_eq_true (by first | (with_reducible assumption) | assumption); obtain ⟨ad139, e139, hx139_0⟩ := Kd.at_int HR1.out x16_1 p139 q139; cases e139; have hn139_0 : ad139.block ≠ gb138 := Nat.ne_of_lt (Nat.lt_of_lt_of_le (by have := World.block_lt_of_cell? _ _ hx139_0; first | rwa [add_block] at this | exact this) GW138.out); have hn139_1 : ad139.block ≠ gb138 := Nat.ne_of_lt (Nat.lt_of_lt_of_le (by have := World.block_lt_of_cell? _ _ hx139_0; first | rwa [add_block] at this | exact this) GW138.out); replace hx139_0 := (HB.out.cell (World.block_lt_of_cell? w _ hx139_0)).trans hx139_0; replace hx139_0 := (cell_far (p := ⟨gb138, 0, none⟩) (by first | (rw [add_block]; exact hn139_0) | (show (Addr.add _ _).block ≠ _; rw [add_block]; exact hn139_0) | exact hn139_0) (.int .i64 ((rd_T32 l0 x35_3).f0))).trans hx139_0; replace hx139_0 := (cell_far (p := ⟨gb138, 1, none⟩) (by first | (rw [add_block]; exact hn139_1) | (show (Addr.add _ _).block ≠ _; rw [add_block]; exact hn139_1) | exact hn139_1) (.int .i64 ((rd_T32 l0 x35_3).f1))).trans hx139_0; (try have hy139_0 := fun (n_ : Nat) => (show ((((w43.drewN n_).setCell ⟨gb138, 0, none⟩ (.int .i64 ((rd_T32 l0 x35_3).f0))).setCell ⟨gb138, 1, none⟩ (.int .i64 ((rd_T32 l0 x35_3).f1)))).cell? _ = some _ from hx139_0)); clear hn139_0; clear hn139_1; replace p139 := eq_true p139; replace q139 := eq_true q139)); try go_wp2_with (first | ((with_reducible refine gate_dst (N := 8) rfl ?_); refine box_event ?hg (N := 8) ?hd (cs := #[.int .i64 0, .int .i64 0]) (t := 32) ?hr ?_; (case hd => rfl); (case hg => rfl); (case hr => first | (go_simp; done) | (go_simp; rfl)); intro gb138 hg w43 hbox hb; have n0_ := Aside0.mk (blk_below (g := gb133) (o := .cells #[.int .i64 ((rd_T32 l0 x16_1).f0), .int .i64 ((rd_T32 l0 x16_1).f1)] 32 (0, 0)) (by (with_reducible repeat (first | refine blk_drewN ?_ _ | refine blk_drew ?_ | refine blk_alloc ?_ _)); exact BK133.out) hb); have n1_ := Aside0.mk (below_step (by repeat (first | (with_reducible first | exact HB.out | apply below_alloc | apply pw_below_drewN | apply below_drew1 | refine below_set ?_ GE133.out) | exact HB.out)) hb); have n2_ := Aside0.mk (hbox); have n3_ := Aside0.mk ((by rw [hg]; exact (below_size (by repeat (first | (with_reducible first | exact HB.out | apply below_alloc | apply pw_below_drewN | apply below_drew1 | refine below_set ?_ GE133.out) | exact HB.out))) : w.heap.size ≤ gb138)); have n4_ := Aside0.mk ((by rw [hg]; exact (below_size (by repeat (first | (with_reducible first | exact HB.out | apply below_alloc | apply pw_below_drewN | apply below_drew1 | refine below_set ?_ GE133.out) | exact HB.out))) : w.heap.size ≤ gb138)); have n5_ := Aside0.mk ((by rw [hg]; exact Nat.ne_of_lt (blk_lt (g := gb133) (o := .cells #[.int .i64 ((rd_T32 l0 x16_1).f0), .int .i64 ((rd_T32 l0 x16_1).f1)] 32 (0, 0)) (by (with_reducible repeat (first | refine blk_drewN ?_ _ | refine blk_drew ?_ | refine blk_alloc ?_ _)); exact BK133.out)) : gb133 ≠ gb138)); have n6_ := Aside0.mk ((by rw [hg]; exact Nat.ne_of_gt (blk_lt (g := gb133) (o := .cells #[.int .i64 ((rd_T32 l0 x16_1).f0), .int .i64 ((rd_T32 l0 x16_1).f1)] 32 (0, 0)) (by (with_reducible repeat (first | refine blk_drewN ?_ _ | refine blk_drew ?_ | refine blk_alloc ?_ _)); exact BK133.out)) : gb138 ≠ gb133)); clear BK133; clear HB; have BK133 := n0_; have HB := n1_; have BK138 := n2_; have GW138 := n3_; have GE138 := n4_; have NB133_138 := n5_; have NB138_133 := n6_; clear n0_ n1_ n2_ n3_ n4_ n5_ n6_; clear hb hbox hg; have hnb44 := NB138_133.out; have hnc44 := NB133_138.out; have hcz45_0 : w43.cell? ⟨gb138, 0, none⟩ = some (.int .i64 0) := (blk_cell BK138.out 0).trans rfl; have hcz45_1 : w43.cell? ⟨gb138, 1, none⟩ = some (.int .i64 0) := (blk_cell BK138.out 1).trans rfl; have hfz45_0 := blk_frozen BK138.out 0; have hfz45_1 := blk_frozen BK138.out 1; have hcz46_0 : w43.cell? ⟨gb133, 0, none⟩ = some (.int .i64 ((rd_T32 l0 x16_1).f0)) := (blk_cell BK133.out 0).trans rfl; have hcz46_1 : w43.cell? ⟨gb133, 1, none⟩ = some (.int .i64 ((rd_T32 l0 x16_1).f1)) := (blk_cell BK133.out 1).trans rfl; have hfz46_0 := blk_frozen BK133.out 0; have hfz46_1 := blk_frozen BK133.out 1; have p139 : 0 ≤ (x16_1 : Int) := of_decide_eq_true (by first | (with_reducible assumption) | assumption); have q139 : x16_1 < (l1.length : Int) := of_decide_eq_true (by first | (with_reducible assumption) | assumption); obtain ⟨ad139, e139, hx139_0⟩ := Kd.at_int HR1.out x16_1 p139 q139; cases e139; have hn139_0 : ad139.block ≠ gb138 := Nat.ne_of_lt (Nat.lt_of_lt_of_le (by have := World.block_lt_of_cell? _ _ hx139_0; first | rwa [add_block] at this | exact this) GW138.out); have hn139_1 : ad139.block ≠ gb138 := Nat.ne_of_lt (Nat.lt_of_lt_of_le (by have := World.block_lt_of_cell? _ _ hx139_0; first | rwa [add_block] at this | exact this) GW138.out); replace hx139_0 := (HB.out.cell (World.block_lt_of_cell? w _ hx139_0)).trans hx139_0; replace hx139_0 := (cell_far (p := ⟨gb138, 0, none⟩) (by first | (rw [add_block]; exact hn139_0) | (show (Addr.add _ _).block ≠ _; rw [add_block]; exact hn139_0) | exact hn139_0) (.int .i64 ((rd_T32 l0 x35_3).f0))).trans hx139_0; replace hx139_0 := (cell_far (p := ⟨gb138, 1, none⟩) (by first | (rw [add_block]; exact hn139_1) | (show (Addr.add _ _).block ≠ _; rw [add_block]; exact hn139_1) | exact hn139_1) (.int .i64 ((rd_T32 l0 x35_3).f1))).trans hx139_0; (try have hy139_0 := fun (n_ : Nat) => (show ((((w43.drewN n_).setCell ⟨gb138, 0, none⟩ (.int .i64 ((rd_T32 l0 x35_3).f0))).setCell ⟨gb138, 1, none⟩ (.int .i64 ((rd_T32 l0 x35_3).f1)))).cell? _ = some _ from hx139_0)); clear hn139_0; clear hn139_1; replace p139 := eq_true p139; replace q139 := eq_true q139)))
                                        go_roundg k3
                                        case measure => have := HK1.out; have := HJ6.out; have := HK3.out; omega
                                        case rel => exact ⟨(wrap64 (x35_3 + 1)), (by first | rfl | (simp; done) | (simp [*]; done)), H', ⟨by have := HK1.out; have := HJ6.out; have := HK3.out; omega⟩, ⟨by (with_reducible repeat (first | refine blk_drewN ?_ _ | refine blk_drew ?_ | refine blk_alloc ?_ _)); refine blk_far ?_ NB133_138.out _; (with_reducible repeat (first | refine blk_drewN ?_ _ | refine blk_drew ?_ | refine blk_alloc ?_ _)); refine blk_far ?_ NB133_138.out _; (with_reducible repeat (first | refine blk_drewN ?_ _ | refine blk_drew ?_ | refine blk_alloc ?_ _)); exact BK133.out⟩, ⟨by repeat (first | (with_reducible first | exact HB.out | apply below_alloc | apply pw_below_drewN | apply below_drew1 | refine below_set ?_ GE133.out | refine below_set ?_ GE138.out) | exact HB.out)⟩⟩
                                    · rw [if_neg c26] at H
                                      exact absurd H (by simp)
                                  · rw [if_neg c25] at H
                                    exact absurd H (by simp)
                                · rw [if_neg c24] at H
                                  have c24b0 : (((rd_T32 l0 x16_1).f0) == ((rd_T32 l0 x35_3).f0)) = false := beq_eq_false_iff_ne.mpr c24
                                  have c24b1 : (((rd_T32 l0 x16_1).f0) != ((rd_T32 l0 x35_3).f0)) = true := bne_iff_ne.mpr c24
                                  have H' := Aside0.mk H
                                  clear H
                                  have p137 : 0 ≤ (x35_3 : Int) := of_decide_eq_true (by first | (with_reducible assumption) | assumption)
                                  have q137 : x35_3 < (l0.length : Int) := of_decide_eq_true (by first | (with_reducible assumption) | assumption)
                                  obtain ⟨ad137, e137, hx137_0, hx137_1⟩ := at_T32 HR0.out x35_3 p137 q137
                                  obtain rfl : ad132 = ad137 := (by injection e137)
                                  replace hx137_0 := (HB.out.cell (World.block_lt_of_cell? w _ hx137_0)).trans hx137_0
                                  replace hx137_1 := (HB.out.cell (World.block_lt_of_cell? w _ hx137_1)).trans hx137_1
                                  replace p137 := eq_true p137
                                  replace q137 := eq_true q137
                                  go_wp2_with (first | ((with_reducible refine gate_dst (N := 8) rfl ?_); refine box_event ?hg (N := 8) ?hd (cs := #[.int .i64 0, .int .i64 0]) (t := 32) ?hr ?_; (case hd => rfl); (case hg => rfl); (case hr => first | (go_simp; done) | (go_simp; rfl)); intro gb138 hg w47 hbox hb; have n0_ := Aside0.mk (blk_below (g := gb133) (o := .cells #[.int .i64 ((rd_T32 l0 x16_1).f0), .int .i64 ((rd_T32 l0 x16_1).f1)] 32 (0, 0)) (by (with_reducible repeat (first | refine blk_drewN ?_ _ | refine blk_drew ?_ | refine blk_alloc ?_ _)); exact BK133.out) hb); have n1_ := Aside0.mk (below_step (by repeat (first | (with_reducible first | exact HB.out | apply below_alloc | apply pw_below_drewN | apply below_drew1 | refine below_set ?_ GE133.out) | exact HB.out)) hb); have n2_ := Aside0.mk (hbox); have n3_ := Aside0.mk ((by rw [hg]; exact (below_size (by repeat (first | (with_reducible first | exact HB.out | apply below_alloc | apply pw_below_drewN | apply below_drew1 | refine below_set ?_ GE133.out) | exact HB.out))) : w.heap.size ≤ gb138)); have n4_ := Aside0.mk ((by rw [hg]; exact (below_size (by repeat (first | (with_reducible first | exact HB.out | apply below_alloc | apply pw_below_drewN | apply below_drew1 | refine below_set ?_ GE133.out) | exact HB.out))) : w.heap.size ≤ gb138)); have n5_ := Aside0.mk ((by rw [hg]; exact Nat.ne_of_lt (blk_lt (g := gb133) (o := .cells #[.int .i64 ((rd_T32 l0 x16_1).f0), .int .i64 ((rd_T32 l0 x16_1).f1)] 32 (0, 0)) (by (with_reducible repeat (first | refine blk_drewN ?_ _ | refine blk_drew ?_ | refine blk_alloc ?_ _)); exact BK133.out)) : gb133 ≠ gb138)); have n6_ := Aside0.mk ((by rw [hg]; exact Nat.ne_of_gt (blk_lt (g := gb133) (o := .cells #[.int .i64 ((rd_T32 l0 x16_1).f0), .int .i64 ((rd_T32 l0 x16_1).f1)] 32 (0, 0)) (by (with_reducible repeat (first | refine blk_drewN ?_ _ | refine blk_drew ?_ | refine blk_alloc ?_ _)); exact BK133.out)) : gb138 ≠ gb133)); clear BK133; clear HB; have BK133 := n0_; have HB := n1_; have BK138 := n2_; have GW138 := n3_; have GE138 := n4_; have NB133_138 := n5_; have NB138_133 := n6_; clear n0_ n1_ n2_ n3_ n4_ n5_ n6_; clear hb hbox hg; have hnb48 := NB138_133.out; have hnc48 := NB133_138.out; have hcz49_0 : w47.cell? ⟨gb138, 0, none⟩ = some (.int .i64 0) := (blk_cell BK138.out 0).trans rfl; have hcz49_1 : w47.cell? ⟨gb138, 1, none⟩ = some (.int .i64 0) := (blk_cell BK138.out 1).trans rfl; have hfz49_0 := blk_frozen BK138.out 0; have hfz49_1 := blk_frozen BK138.out 1; have hcz50_0 : w47.cell? ⟨gb133, 0, none⟩ = some (.int .i64 ((rd_T32 l0 x16_1).f0)) := (blk_cell BK133.out 0).trans rfl; have hcz50_1 : w47.cell? ⟨gb133, 1, none⟩ = some (.int .i64 ((rd_T32 l0 x16_1).f1)) := (blk_cell BK133.out 1).trans rfl; have hfz50_0 := blk_frozen BK133.out 0; have hfz50_1 := blk_frozen BK133.out 1))
                                  repeat (go_quiet (first | ((with_reducible refine gate_dst (N := 8) rfl ?_); refine box_event ?hg (N := 8) ?hd (cs := #[.int .i64 0, .int .i64 0]) (t := 32) ?hr ?_; (case hd => rfl); (case hg => rfl); (case hr => first | (go_simp; done) | (go_simp; rfl)); intro gb138 hg w47 hbox hb; have n0_ := Aside0.mk (blk_below (g := gb133) (o := .cells #[.int .i64 ((rd_T32 l0 x16_1).f0), .int .i64 ((rd_T32 l0 x16_1).f1)] 32 (0, 0)) (by (with_reducible repeat (first | refine blk_drewN ?_ _ | refine blk_drew ?_ | refine blk_alloc ?_ _)); exact BK133.out) hb); have n1_ := Aside0.mk (below_step (by repeat (first | (with_reducible first | exact HB.out | apply below_alloc | apply pw_below_drewN | apply below_drew1 | refine below_set ?_ GE133.out) | exact HB.out)) hb); have n2_ := Aside0.mk (hbox); have n3_ := Aside0.mk ((by rw [hg]; exact (below_size (by repeat (first | (with_reducible first | exact HB.out | apply below_alloc | apply pw_below_drewN | apply below_drew1 | refine below_set ?_ GE133.out) | exact HB.out))) : w.heap.size ≤ gb138)); have n4_ := Aside0.mk ((by rw [hg]; exact (below_size (by repeat (first | (with_reducible first | exact HB.out | apply below_alloc | apply pw_below_drewN | apply below_drew1 | refine below_set ?_ GE133.out) | exact HB.out))) : w.heap.size ≤ gb138)); have n5_ := Aside0.mk ((by rw [hg]; exact Nat.ne_of_lt (blk_lt (g := gb133) (o := .cells #[.int .i64 ((rd_T32 l0 x16_1).f0), .int .i64 ((rd_T32 l0 x16_1).f1)] 32 (0, 0)) (by (with_reducible repeat (first | refine blk_drewN ?_ _ | refine blk_drew ?_ | refine blk_alloc ?_ _)); exact BK133.out)) : gb133 ≠ gb138)); have n6_ := Aside0.mk ((by rw [hg]; exact Nat.ne_of_gt (blk_lt (g := gb133) (o := .cells #[.int .i64 ((rd_T32 l0 x16_1).f0), .int .i64 ((rd_T32 l0 x16_1).f1)] 32 (0, 0)) (by (with_reducible repeat (first | refine blk_drewN ?_ _ | refine blk_drew ?_ | refine blk_alloc ?_ _)); exact BK133.out)) : gb138 ≠ gb133)); clear BK133; clear HB; have BK133 := n0_; have HB := n1_; have BK138 := n2_; have GW138 := n3_; have GE138 := n4_; have NB133_138 := n5_; have NB138_133 := n6_; clear n0_ n1_ n2_ n3_ n4_ n5_ n6_; clear hb hbox hg; have hnb48 := NB138_133.out; have hnc48 := NB133_138.out; have hcz49_0 : w47.cell? ⟨gb138, 0, none⟩ = some (.int .i64 0) := (blk_cell BK138.out 0).trans rfl; have hcz49_1 : w47.cell? ⟨gb138, 1, none⟩ = some (.int .i64 0) := (blk_cell BK138.out 1).trans rfl; have hfz49_0 := blk_frozen BK138.out 0; have hfz49_1 := blk_frozen BK138.out 1; have hcz50_0 : w47.cell? ⟨gb133, 0, none⟩ = some (.int .i64 ((rd_T32 l0 x16_1).f0)) := (blk_cell BK133.out 0).trans rfl; have hcz50_1 : w47.cell? ⟨gb133, 1, none⟩ = some (.int .i64 ((rd_T32 l0 x16_1).f1)) := (blk_cell BK133.out 1).trans rfl; have hfz50_0 := blk_frozen BK133.out 0; have hfz50_1 := blk_frozen BK133.out 1)); try go_wp2_with (first | ((with_reducible refine gate_dst (N := 8) rfl ?_); refine box_event ?hg (N := 8) ?hd (cs := #[.int .i64 0, .int .i64 0]) (t := 32) ?hr ?_; (case hd => rfl); (case hg => rfl); (case hr => first | (go_simp; done) | (go_simp; rfl)); intro gb138 hg w47 hbox hb; have n0_ := Aside0.mk (blk_below (g := gb133) (o := .cells #[.int .i64 ((rd_T32 l0 x16_1).f0), .int .i64 ((rd_T32 l0 x16_1).f1)] 32 (0, 0)) (by (with_reducible repeat (first | refine blk_drewN ?_ _ | refine blk_drew ?_ | refine blk_alloc ?_ _)); exact BK133.out) hb); have n1_ := Aside0.mk (below_step (by repeat (first | (with_reducible first | exact HB.out | apply below_alloc | apply pw_below_drewN | apply below_drew1 | refine below_set ?_ GE133.out) | exact HB.out)) hb); have n2_ := Aside0.mk (hbox); have n3_ := Aside0.mk ((by rw [hg]; exact (below_size (by repeat (first | (with_reducible first | exact HB.out | apply below_alloc | apply pw_below_drewN | apply below_drew1 | refine below_set ?_ GE133.out) | exact HB.out))) : w.heap.size ≤ gb138)); have n4_ := Aside0.mk ((by rw [hg]; exact (below_size (by repeat (first | (with_reducible first | exact HB.out | apply below_alloc | apply pw_below_drewN | apply below_drew1 | refine below_set ?_ GE133.out) | exact HB.out))) : w.heap.size ≤ gb138)); have n5_ := Aside0.mk ((by rw [hg]; exact Nat.ne_of_lt (blk_lt (g := gb133) (o := .cells #[.int .i64 ((rd_T32 l0 x16_1).f0), .int .i64 ((rd_T32 l0 x16_1).f1)] 32 (0, 0)) (by (with_reducible repeat (first | refine blk_drewN ?_ _ | refine blk_drew ?_ | refine blk_alloc ?_ _)); exact BK133.out)) : gb133 ≠ gb138)); have n6_ := Aside0.mk ((by rw [hg]; exact Nat.ne_of_gt (blk_lt (g := gb133) (o := .cells #[.int .i64 ((rd_T32 l0 x16_1).f0), .int .i64 ((rd_T32 l0 x16_1).f1)] 32 (0, 0)) (by (with_reducible repeat (first | refine blk_drewN ?_ _ | refine blk_drew ?_ | refine blk_alloc ?_ _)); exact BK133.out)) : gb138 ≠ gb133)); clear BK133; clear HB; have BK133 := n0_; have HB := n1_; have BK138 := n2_; have GW138 := n3_; have GE138 := n4_; have NB133_138 := n5_; have NB138_133 := n6_; clear n0_ n1_ n2_ n3_ n4_ n5_ n6_; clear hb hbox hg; have hnb48 := NB138_133.out; have hnc48 := NB133_138.out; have hcz49_0 : w47.cell? ⟨gb138, 0, none⟩ = some (.int .i64 0) := (blk_cell BK138.out 0).trans rfl; have hcz49_1 : w47.cell? ⟨gb138, 1, none⟩ = some (.int .i64 0) := (blk_cell BK138.out 1).trans rfl; have hfz49_0 := blk_frozen BK138.out 0; have hfz49_1 := blk_frozen BK138.out 1; have hcz50_0 : w47.cell? ⟨gb133, 0, none⟩ = some (.int .i64 ((rd_T32 l0 x16_1).f0)) := (blk_cell BK133.out 0).trans rfl; have hcz50_1 : w47.cell? ⟨gb133, 1, none⟩ = some (.int .i64 ((rd_T32 l0 x16_1).f1)) := (blk_cell BK133.out 1).trans rfl; have hfz50_0 := blk_frozen BK133.out 0; have hfz50_1 := blk_frozen BK133.out 1)))
                                  go_roundg k3
                                  case measure => have := HK1.out; have := HJ6.out; have := HK3.out; omega
                                  case rel => exact ⟨(wrap64 (x35_3 + 1)), (by first | rfl | (simp; done) | (simp [*]; done)), H', ⟨by have := HK1.out; have := HJ6.out; have := HK3.out; omega⟩, ⟨by (with_reducible repeat (first | refine blk_drewN ?_ _ | refine blk_drew ?_ | refine blk_alloc ?_ _)); refine blk_far ?_ NB133_138.out _; (with_reducible repeat (first | refine blk_drewN ?_ _ | refine blk_drew ?_ | refine blk_alloc ?_ _)); refine blk_far ?_ NB133_138.out _; (with_reducible repeat (first | refine blk_drewN ?_ _ | refine blk_drew ?_ | refine blk_alloc ?_ _)); exact BK133.out⟩, ⟨by repeat (first | (with_reducible first | exact HB.out | apply below_alloc | apply pw_below_drewN | apply below_drew1 | refine below_set ?_ GE133.out | refine below_set ?_ GE138.out) | exact HB.out)⟩⟩
                            · rw [if_neg c19] at H
                              exact absurd H (by simp)
                          · rw [if_neg c18] at H
                            exact absurd H (by simp)
                        · rw [if_neg c17] at H
                          have c17b0 : decide (x35_3 < (l0.length : Int)) = false := decide_eq_false c17
                          clear c17
                          have H' := Aside0.mk H
                          clear H
                          go_wp2
                          repeat (go_quiet (fail); try go_wp2)
                          go_roundg k3
                          case measure => have := HK1.out; have := HJ6.out; have := HK3.out; omega
                          case rel => exact ⟨(wrap64 (x16_1 + 1)), (by first | rfl | (simp; done) | (simp [*]; done)), H', ⟨by have := HK1.out; have := HJ6.out; have := HK3.out; omega⟩, ⟨by repeat (first | (with_reducible first | exact HB.out | apply below_alloc | apply pw_below_drewN | apply below_drew1 | refine below_set ?_ GE133.out) | exact HB.out)⟩⟩
            · rw [if_neg c6] at H
              exact absurd H (by simp)
          · rw [if_neg c5] at H
            exact absurd H (by simp)
        · rw [if_neg c4] at H
          have c4b0 : decide (x16_1 < (l0.length : Int)) = false := decide_eq_false c4
          clear c4
          obtain rfl := Option.some.inj H
          go_wp2
          repeat (go_quiet (fail); try go_wp2)
          go_ret
          exact ⟨by first | rfl | (simp [errW_none, errW_some] <;> rfl) | (simp [*, errW_none, errW_some] <;> rfl), by repeat (first | (with_reducible first | exact HB.out | apply below_alloc | apply pw_below_drewN | apply below_drew1) | exact HB.out)⟩
  · rw [if_neg c3] at H
    have c3b0 : ((l0.length : Int) == (l1.length : Int)) = false := beq_eq_false_iff_ne.mpr c3
    have c3b1 : ((l0.length : Int) != (l1.length : Int)) = true := bne_iff_ne.mpr c3
    have c3b2 : (l0.length == l1.length) = false := by first | simpa using c3 | (simp at c3 ⊢; omega)
    obtain rfl := Option.some.inj H
    go_enter Try.func13, Try.ntmps13
    go_wp2
    repeat (go_quiet (fail); try go_wp2)
    go_ret
    exact ⟨by first | rfl | (simp [errW_none, errW_some] <;> rfl) | (simp [*, errW_none, errW_some] <;> rfl), by repeat (first | (with_reducible first | exact HB.out | apply below_alloc | apply pw_below_drewN | apply below_drew1) | exact HB.out)⟩

/-! ### variorumlaw20_fixed: function 7 -/
def variorumlaw20_fixed.f (k : Nat)  : Option (Bool) := (block_Place.f k 2 (([3, 1, 2, 2] : List Int))).bind fun bt144 => ((block_Place.f k 4 (([1] : List Int))).bind fun bt152 => (if bt144.2.2 = true then (if bt144.2.1 = 4 then ((variorumref20_Spots.f k bt144.1 (([(⟨0, 0⟩ : S32), (⟨0, 3⟩ : S32), (⟨1, 0⟩ : S32), (⟨1, 2⟩ : S32)] : List (S32)))).bind fun t160 => (if t160 = true then (if bt152.2.2 = true then (none) else ((block_Columns.f 3).bind fun t161 => (if t161 = 3 then ((block_Clear.f k bt144.1 (([3, 1, 2, 2] : List Int))).bind fun t165 => (if t165 = true then ((block_Clear.f k bt144.1 (([4, 1, 2, 2] : List Int))).bind fun t169 => (some (!t169))) else (none))) else (none)))) else (none))) else (none)) else (none)))
theorem variorumlaw20_fixed.mono : ∀ k, LeO (variorumlaw20_fixed.f k ) (variorumlaw20_fixed.f (k + 1) ) := by
  intro  k
  unfold variorumlaw20_fixed.f
  repeat' first
      | (with_reducible exact block_Clear.mono _ _ _)
      | (with_reducible exact block_Place.mono _ _ _)
      | (with_reducible exact variorumref20_Spots.mono _ _ _)
      | (with_reducible exact LeO.refl _)
      | (with_reducible exact LeO.none _)
      | (with_reducible refine LeO.ite ?_ ?_)
      | (with_reducible refine LeO.bind ?_ (fun _ => ?_))
      | exact block_Clear.mono _ _ _
      | exact block_Place.mono _ _ _
      | exact variorumref20_Spots.mono _ _ _
      | exact LeO.none _
      | refine LeO.ite ?_ ?_
      | refine LeO.bind ?_ (fun _ => ?_)
set_option maxHeartbeats 8000000 in
set_option maxRecDepth 100000 in
theorem variorumlaw20_fixed.calls (k : Nat)  (r : Bool) (w : World) (h : variorumlaw20_fixed.f k  = some r) :
    Calls Try.prog 7 #[] w fun e w' => e = .returned (.bool r) ∧ Below w.heap.size w w' := by
  have hu32 := Try.underlying32
  have HB := Aside0.mk (Below.refl w.heap.size w)
  have H : ((block_Place.f k 2 (([3, 1, 2, 2] : List Int))).bind fun bt144 => ((block_Place.f k 4 (([1] : List Int))).bind fun bt152 => (if bt144.2.2 = true then (if bt144.2.1 = 4 then ((variorumref20_Spots.f k bt144.1 (([(⟨0, 0⟩ : S32), (⟨0, 3⟩ : S32), (⟨1, 0⟩ : S32), (⟨1, 2⟩ : S32)] : List (S32)))).bind fun t160 => (if t160 = true then (if bt152.2.2 = true then (none) else ((block_Columns.f 3).bind fun t161 => (if t161 = 3 then ((block_Clear.f k bt144.1 (([3, 1, 2, 2] : List Int))).bind fun t165 => (if t165 = true then ((block_Clear.f k bt144.1 (([4, 1, 2, 2] : List Int))).bind fun t169 => (some (!t169))) else (none))) else (none)))) else (none))) else (none)) else (none)))) = some r := h
  clear h
  obtain ⟨y141, hy141⟩ : ∃ y_ : List Int, y_ = (([3, 1, 2, 2] : List Int)) := ⟨_, rfl⟩
  replace H : ((block_Place.f k 2 y141).bind fun bt144 => ((block_Place.f k 4 (([1] : List Int))).bind fun bt152 => (if bt144.2.2 = true then (if bt144.2.1 = 4 then ((variorumref20_Spots.f k bt144.1 (([(⟨0, 0⟩ : S32), (⟨0, 3⟩ : S32), (⟨1, 0⟩ : S32), (⟨1, 2⟩ : S32)] : List (S32)))).bind fun t160 => (if t160 = true then (if bt152.2.2 = true then (none) else ((block_Columns.f 3).bind fun t161 => (if t161 = 3 then ((block_Clear.f k bt144.1 (([3, 1, 2, 2] : List Int))).bind fun t165 => (if t165 = true then ((block_Clear.f k bt144.1 (([4, 1, 2, 2] : List Int))).bind fun t169 => (some (!t169))) else (none))) else (none)))) else (none))) else (none)) else (none)))) = some r := by first | (rw [hy141]; with_reducible exact H) | (have H2_ := (Option.bind_some _ _).symm.trans H; rw [hy141]; with_reducible exact H2_) | (have H2_ := (Option.bind_some _ _).symm.trans H; with_reducible exact H2_) | with_reducible exact H | (rw [hy141]; exact H) | exact H
  have Ny141 := Aside0.mk hy141
  clear hy141
  replace H := Option.bind_eq_some_iff.mp H
  obtain ⟨⟨t144, t145, t146⟩, A10, H⟩ := H
  replace H : ((block_Place.f k 4 (([1] : List Int))).bind fun bt152 => (if t146 = true then (if t145 = 4 then ((variorumref20_Spots.f k t144 (([(⟨0, 0⟩ : S32), (⟨0, 3⟩ : S32), (⟨1, 0⟩ : S32), (⟨1, 2⟩ : S32)] : List (S32)))).bind fun t160 => (if t160 = true then (if bt152.2.2 = true then (none) else ((block_Columns.f 3).bind fun t161 => (if t161 = 3 then ((block_Clear.f k t144 (([3, 1, 2, 2] : List Int))).bind fun t165 => (if t165 = true then ((block_Clear.f k t144 (([4, 1, 2, 2] : List Int))).bind fun t169 => (some (!t169))) else (none))) else (none)))) else (none))) else (none)) else (none))) = some r := H
  have A1 := Aside0.mk A10
  clear A10
  obtain ⟨y149, hy149⟩ : ∃ y_ : List Int, y_ = (([1] : List Int)) := ⟨_, rfl⟩
  replace H : ((block_Place.f k 4 y149).bind fun bt152 => (if t146 = true then (if t145 = 4 then ((variorumref20_Spots.f k t144 (([(⟨0, 0⟩ : S32), (⟨0, 3⟩ : S32), (⟨1, 0⟩ : S32), (⟨1, 2⟩ : S32)] : List (S32)))).bind fun t160 => (if t160 = true then (if bt152.2.2 = true then (none) else ((block_Columns.f 3).bind fun t161 => (if t161 = 3 then ((block_Clear.f k t144 (([3, 1, 2, 2] : List Int))).bind fun t165 => (if t165 = true then ((block_Clear.f k t144 (([4, 1, 2, 2] : List Int))).bind fun t169 => (some (!t169))) else (none))) else (none)))) else (none))) else (none)) else (none))) = some r := by first | (rw [hy149]; with_reducible exact H) | (have H2_ := (Option.bind_some _ _).symm.trans H; rw [hy149]; with_reducible exact H2_) | (have H2_ := (Option.bind_some _ _).symm.trans H; with_reducible exact H2_) | with_reducible exact H | (rw [hy149]; exact H) | exact H
  have Ny149 := Aside0.mk hy149
  clear hy149
  replace H := Option.bind_eq_some_iff.mp H
  obtain ⟨⟨t152, t153, t154⟩, A20, H⟩ := H
  replace H : (if t146 = true then (if t145 = 4 then ((variorumref20_Spots.f k t144 (([(⟨0, 0⟩ : S32), (⟨0, 3⟩ : S32), (⟨1, 0⟩ : S32), (⟨1, 2⟩ : S32)] : List (S32)))).bind fun t160 => (if t160 = true then (if t154 = true then (none) else ((block_Columns.f 3).bind fun t161 => (if t161 = 3 then ((block_Clear.f k t144 (([3, 1, 2, 2] : List Int))).bind fun t165 => (if t165 = true then ((block_Clear.f k t144 (([4, 1, 2, 2] : List Int))).bind fun t169 => (some (!t169))) else (none))) else (none)))) else (none))) else (none)) else (none)) = some r := H
  have A2 := Aside0.mk A20
  clear A20
  by_cases c3 : t146 = true
  · subst c3
    have H1 : (if t145 = 4 then ((variorumref20_Spots.f k t144 (([(⟨0, 0⟩ : S32), (⟨0, 3⟩ : S32), (⟨1, 0⟩ : S32), (⟨1, 2⟩ : S32)] : List (S32)))).bind fun t160 => (if t160 = true then (if t154 = true then (none) else ((block_Columns.f 3).bind fun t161 => (if t161 = 3 then ((block_Clear.f k t144 (([3, 1, 2, 2] : List Int))).bind fun t165 => (if t165 = true then ((block_Clear.f k t144 (([4, 1, 2, 2] : List Int))).bind fun t169 => (some (!t169))) else (none))) else (none)))) else (none))) else (none)) = some r := by rw [if_pos rfl] at H; exact H
    clear H
    have H := H1
    clear H1
    by_cases c4 : t145 = 4
    · rw [if_pos c4] at H
      have c4b0 : (t145 == 4) = true := beq_iff_eq.mpr c4
      have c4b1 : (t145 != 4) = false := bne_eq_false_iff_eq.mpr c4
      clear c4
      obtain ⟨y157, hy157⟩ : ∃ y_ : List (S32), y_ = (([(⟨0, 0⟩ : S32), (⟨0, 3⟩ : S32), (⟨1, 0⟩ : S32), (⟨1, 2⟩ : S32)] : List (S32))) := ⟨_, rfl⟩
      replace H : ((variorumref20_Spots.f k t144 y157).bind fun t160 => (if t160 = true then (if t154 = true then (none) else ((block_Columns.f 3).bind fun t161 => (if t161 = 3 then ((block_Clear.f k t144 (([3, 1, 2, 2] : List Int))).bind fun t165 => (if t165 = true then ((block_Clear.f k t144 (([4, 1, 2, 2] : List Int))).bind fun t169 => (some (!t169))) else (none))) else (none)))) else (none))) = some r := by first | (rw [hy157]; with_reducible exact H) | (have H2_ := (Option.bind_some _ _).symm.trans H; rw [hy157]; with_reducible exact H2_) | (have H2_ := (Option.bind_some _ _).symm.trans H; with_reducible exact H2_) | with_reducible exact H | (rw [hy157]; exact H) | exact H
      have Ny157 := Aside0.mk hy157
      clear hy157
      replace H := Option.bind_eq_some_iff.mp H
      obtain ⟨t160, A50, H⟩ := H
      replace H : (if t160 = true then (if t154 = true then (none) else ((block_Columns.f 3).bind fun t161 => (if t161 = 3 then ((block_Clear.f k t144 (([3, 1, 2, 2] : List Int))).bind fun t165 => (if t165 = true then ((block_Clear.f k t144 (([4, 1, 2, 2] : List Int))).bind fun t169 => (some (!t169))) else (none))) else (none)))) else (none)) = some r := H
      have A5 := Aside0.mk A50
      clear A50
      by_cases c6 : t160 = true
      · subst c6
        have H1 : (if t154 = true then (none) else ((block_Columns.f 3).bind fun t161 => (if t161 = 3 then ((block_Clear.f k t144 (([3, 1, 2, 2] : List Int))).bind fun t165 => (if t165 = true then ((block_Clear.f k t144 (([4, 1, 2, 2] : List Int))).bind fun t169 => (some (!t169))) else (none))) else (none)))) = some r := by rw [if_pos rfl] at H; exact H
        clear H
        have H := H1
        clear H1
        by_cases c7 : t154 = true
        · subst c7
          have H1 : (none) = some r := by rw [if_pos rfl] at H; exact H
          clear H
          have H := H1
          clear H1
          exact absurd H (by simp)
        · replace c7 := Bool.eq_false_iff.mpr c7
          subst c7
          have H1 : ((block_Columns.f 3).bind fun t161 => (if t161 = 3 then ((block_Clear.f k t144 (([3, 1, 2, 2] : List Int))).bind fun t165 => (if t165 = true then ((block_Clear.f k t144 (([4, 1, 2, 2] : List Int))).bind fun t169 => (some (!t169))) else (none))) else (none))) = some r := by rw [if_neg (show ¬ (false = true) by decide)] at H; exact H
          clear H
          have H := H1
          clear H1
          replace H := Option.bind_eq_some_iff.mp H
          obtain ⟨t161, A80, H⟩ := H
          replace H : (if t161 = 3 then ((block_Clear.f k t144 (([3, 1, 2, 2] : List Int))).bind fun t165 => (if t165 = true then ((block_Clear.f k t144 (([4, 1, 2, 2] : List Int))).bind fun t169 => (some (!t169))) else (none))) else (none)) = some r := H
          have A8 := Aside0.mk A80
          clear A80
          by_cases c9 : t161 = 3
          · rw [if_pos c9] at H
            have c9b0 : (t161 == 3) = true := beq_iff_eq.mpr c9
            have c9b1 : (t161 != 3) = false := bne_eq_false_iff_eq.mpr c9
            clear c9
            obtain ⟨y162, hy162⟩ : ∃ y_ : List Int, y_ = (([3, 1, 2, 2] : List Int)) := ⟨_, rfl⟩
            replace H : ((block_Clear.f k t144 y162).bind fun t165 => (if t165 = true then ((block_Clear.f k t144 (([4, 1, 2, 2] : List Int))).bind fun t169 => (some (!t169))) else (none))) = some r := by first | (rw [hy162]; with_reducible exact H) | (have H2_ := (Option.bind_some _ _).symm.trans H; rw [hy162]; with_reducible exact H2_) | (have H2_ := (Option.bind_some _ _).symm.trans H; with_reducible exact H2_) | with_reducible exact H | (rw [hy162]; exact H) | exact H
            have Ny162 := Aside0.mk hy162
            clear hy162
            replace H := Option.bind_eq_some_iff.mp H
            obtain ⟨t165, A100, H⟩ := H
            replace H : (if t165 = true then ((block_Clear.f k t144 (([4, 1, 2, 2] : List Int))).bind fun t169 => (some (!t169))) else (none)) = some r := H
            have A10 := Aside0.mk A100
            clear A100
            by_cases c11 : t165 = true
            · subst c11
              have H1 : ((block_Clear.f k t144 (([4, 1, 2, 2] : List Int))).bind fun t169 => (some (!t169))) = some r := by rw [if_pos rfl] at H; exact H
              clear H
              have H := H1
              clear H1
              obtain ⟨y166, hy166⟩ : ∃ y_ : List Int, y_ = (([4, 1, 2, 2] : List Int)) := ⟨_, rfl⟩
              replace H : ((block_Clear.f k t144 y166).bind fun t169 => (some (!t169))) = some r := by first | (rw [hy166]; with_reducible exact H) | (have H2_ := (Option.bind_some _ _).symm.trans H; rw [hy166]; with_reducible exact H2_) | (have H2_ := (Option.bind_some _ _).symm.trans H; with_reducible exact H2_) | with_reducible exact H | (rw [hy166]; exact H) | exact H
              have Ny166 := Aside0.mk hy166
              clear hy166
              replace H := Option.bind_eq_some_iff.mp H
              obtain ⟨t169, A120, H⟩ := H
              replace H : (some (!t169)) = some r := H
              have A12 := Aside0.mk A120
              clear A120
              obtain rfl := Option.some.inj H
              go_enter Try.func7, Try.ntmps7
              go_wp2_with (first | ((with_reducible refine gate_dst (N := 8) rfl ?_); (try (refine gate_guard (by rfl) ?_; dsimp only)); refine Kd.R_lit (Kd.int .i64) _ 2 ?hg (N := 8) ?hd (xs := ([3, 1, 2, 2] : List Int)) (inner := [.int .i64 3, .int .i64 1, .int .i64 2, .int .i64 2]) (ok := fun _ => True) (okp := fun _ => True) ?hr ?hp (fun _ hk => hk) trivial (Below.refl _ _) (Nat.le_refl _) (by simp) ?_; (case hd => rfl); (case hg => rfl); (case hr => first | (go_simp; done) | (go_simp; rfl)); (case hp => exact (Reps.one (show Kd.M (Kd.int .i64) _ _ _ 3 [.int .i64 3] from rfl) (Reps.one (show Kd.M (Kd.int .i64) _ _ _ 1 [.int .i64 1] from rfl) (Reps.one (show Kd.M (Kd.int .i64) _ _ _ 2 [.int .i64 2] from rfl) (Reps.one (show Kd.M (Kd.int .i64) _ _ _ 2 [.int .i64 2] from rfl) (Reps.none _ _)))))); intro v142 w13 ho14 hb hg_ hnew_; clear hg_ hnew_; (first | rw [← Ny141.out] at ho14 | (simp only [Int.reduceToNat] at ho14; rw [← Ny141.out] at ho14)); have n0_ := Aside0.mk (Kd.R_lower ho14 (below_size (by repeat (first | (with_reducible first | exact HB.out | apply below_alloc | apply pw_below_drewN | apply below_drew1) | exact HB.out)))); have n1_ := Aside0.mk (below_step (by repeat (first | (with_reducible first | exact HB.out | apply below_alloc | apply pw_below_drewN | apply below_drew1) | exact HB.out)) hb); clear HB; have HO143 := n0_; have HB := n1_; clear n0_ n1_; clear hb ho14; obtain ⟨Ao15, co15, eo15⟩ := Kd.R_slice HO143.out; subst eo15) | ((with_reducible refine gate_callee (f := 8) rfl ?_); refine goesL_ (some 9) rfl rfl Try.func8 (by kernel_rfl) rfl #[.int .i64 2, .slice Ao15 y141.length co15] rfl (by (try simp only [List.map_toArray, List.map_cons, List.map_nil]); first | done | rfl | (simp only [List.length_drop, List.length_take]; rfl) | (simp only [*]; first | done | rfl)) ?_; (with_reducible refine (block_Place.calls k 2 _ _ y141 t144 t145 true _ ?side1 ?side2 A1.out).mono ?_); (case side1 => repeat (first | exact (Kd.R_reads' HO143.out).2.2 | (with_reducible refine Kd.C_alloc ?_ _) | (with_reducible refine Kd.C_drewN ?_ _) | (with_reducible refine Kd.C_drew ?_))); (case side2 => exact (Kd.R_reads' HO143.out).2.1); rintro e w16 ⟨v147, rfl, ho0, hb⟩; refine ⟨_, rfl, ?_⟩; have n0_ := Aside0.mk (Kd.R_below (by (with_reducible repeat (first | apply Kd.R_alloc | apply Kd.R_drewN | apply Kd.R_drew)); exact HO143.out) hb); have n1_ := Aside0.mk (Kd.R_lower ho0 (below_size (by repeat (first | (with_reducible first | exact HB.out | apply below_alloc | apply pw_below_drewN | apply below_drew1) | exact HB.out)))); have n2_ := Aside0.mk (below_step (by repeat (first | (with_reducible first | exact HB.out | apply below_alloc | apply pw_below_drewN | apply below_drew1) | exact HB.out)) hb); clear HO143; clear HB; have HO143 := n0_; have HO148 := n1_; have HB := n2_; clear n0_ n1_ n2_; (try clear hb); (try clear hb2); (try clear hk); (try clear hi); (try clear ho0)) | ((with_reducible refine gate_dst (N := 14) rfl ?_); (try (refine gate_guard (by rfl) ?_; dsimp only)); refine Kd.R_lit (Kd.int .i64) _ 2 ?hg (N := 14) ?hd (xs := ([1] : List Int)) (inner := [.int .i64 1]) (ok := fun _ => True) (okp := fun _ => True) ?hr ?hp (fun _ hk => hk) trivial (Below.refl _ _) (Nat.le_refl _) (by simp) ?_; (case hd => rfl); (case hg => rfl); (case hr => first | (go_simp; done) | (go_simp; rfl)); (case hp => exact (Reps.one (show Kd.M (Kd.int .i64) _ _ _ 1 [.int .i64 1] from rfl) (Reps.none _ _))); intro v150 w17 ho18 hb hg_ hnew_; clear hg_ hnew_; (first | rw [← Ny149.out] at ho18 | (simp only [Int.reduceToNat] at ho18; rw [← Ny149.out] at ho18)); have n0_ := Aside0.mk (Kd.R_elder' (by (with_reducible repeat (first | apply Kd.R_alloc | apply Kd.R_drewN | apply Kd.R_drew)); exact HO143.out) (Kd.R_base ho18) hb); have n1_ := Aside0.mk (Kd.R_below (by (with_reducible repeat (first | apply Kd.R_alloc | apply Kd.R_drewN | apply Kd.R_drew)); exact HO148.out) hb); have n2_ := Aside0.mk (Kd.R_lower (Kd.R_new' ho18 (Kd.R_lt (by (with_reducible repeat (first | apply Kd.R_alloc | apply Kd.R_drewN | apply Kd.R_drew)); exact HO143.out))) (below_size (by repeat (first | (with_reducible first | exact HB.out | apply below_alloc | apply pw_below_drewN | apply below_drew1) | exact HB.out)))); have n3_ := Aside0.mk (below_step (by repeat (first | (with_reducible first | exact HB.out | apply below_alloc | apply pw_below_drewN | apply below_drew1) | exact HB.out)) hb); clear HO143; clear HO148; clear HB; have HO143 := n0_; have HO148 := n1_; have HO151 := n2_; have HB := n3_; clear n0_ n1_ n2_ n3_; clear hb ho18; obtain ⟨Ao19, co19, eo19⟩ := Kd.R_slice HO151.out; subst eo19) | ((with_reducible refine gate_callee (f := 8) rfl ?_); refine goesL_ (some 15) rfl rfl Try.func8 (by kernel_rfl) rfl #[.int .i64 4, .slice Ao19 y149.length co19] rfl (by (try simp only [List.map_toArray, List.map_cons, List.map_nil]); first | done | rfl | (simp only [List.length_drop, List.length_take]; rfl) | (simp only [*]; first | done | rfl)) ?_; (with_reducible refine (block_Place.calls k 4 _ _ y149 t152 t153 false _ ?side1 ?side2 A2.out).mono ?_); (case side1 => repeat (first | exact (Kd.R_reads' HO151.out).2.2 | (with_reducible refine Kd.C_alloc ?_ _) | (with_reducible refine Kd.C_drewN ?_ _) | (with_reducible refine Kd.C_drew ?_))); (case side2 => exact (Kd.R_reads' HO151.out).2.1); rintro e w20 ⟨v155, rfl, ho0, hb⟩; refine ⟨_, rfl, ?_⟩; have n0_ := Aside0.mk (Kd.R_below (by (with_reducible repeat (first | apply Kd.R_alloc | apply Kd.R_drewN | apply Kd.R_drew)); exact HO143.out) hb); have n1_ := Aside0.mk (Kd.R_elder' (by (with_reducible repeat (first | apply Kd.R_alloc | apply Kd.R_drewN | apply Kd.R_drew)); exact HO148.out) (Kd.R_base ho0) hb); have n2_ := Aside0.mk (Kd.R_below (by (with_reducible repeat (first | apply Kd.R_alloc | apply Kd.R_drewN | apply Kd.R_drew)); exact HO151.out) hb); have n3_ := Aside0.mk (Kd.R_lower (Kd.R_new' ho0 (Kd.R_lt (by (with_reducible repeat (first | apply Kd.R_alloc | apply Kd.R_drewN | apply Kd.R_drew)); exact HO148.out))) (below_size (by repeat (first | (with_reducible first | exact HB.out | apply below_alloc | apply pw_below_drewN | apply below_drew1) | exact HB.out)))); have n4_ := Aside0.mk (below_step (by repeat (first | (with_reducible first | exact HB.out | apply below_alloc | apply pw_below_drewN | apply below_drew1) | exact HB.out)) hb); clear HO143; clear HO148; clear HO151; clear HB; have HO143 := n0_; have HO148 := n1_; have HO151 := n2_; have HO156 := n3_; have HB := n4_; clear n0_ n1_ n2_ n3_ n4_; (try clear hb); (try clear hb2); (try clear hk); (try clear hi); (try clear ho0)) | ((with_reducible refine gate_dst (N := 30) rfl ?_); (try (refine gate_guard (by rfl) ?_; dsimp only)); refine Kd.R_lit k32 _ 32 ?hg (N := 30) ?hd (xs := ([(⟨0, 0⟩ : S32), (⟨0, 3⟩ : S32), (⟨1, 0⟩ : S32), (⟨1, 2⟩ : S32)] : List (S32))) (inner := [.int .i64 0, .int .i64 0, .int .i64 0, .int .i64 3, .int .i64 1, .int .i64 0, .int .i64 1, .int .i64 2]) (ok := fun _ => True) (okp := fun _ => True) ?hr ?hp (fun _ hk => hk) trivial (Below.refl _ _) (Nat.le_refl _) (by simp) ?_; (case hd => rfl); (case hg => rfl); (case hr => first | (go_simp; done) | (go_simp; rfl)); (case hp => exact (Reps.c2 (show Kd.M k32 _ _ _ (⟨0, 0⟩ : S32) [.int .i64 0, .int .i64 0] from (k32_mkM _ _ _ (⟨0, 0⟩ : S32) )) (Reps.c2 (show Kd.M k32 _ _ _ (⟨0, 3⟩ : S32) [.int .i64 0, .int .i64 3] from (k32_mkM _ _ _ (⟨0, 3⟩ : S32) )) (Reps.c2 (show Kd.M k32 _ _ _ (⟨1, 0⟩ : S32) [.int .i64 1, .int .i64 0] from (k32_mkM _ _ _ (⟨1, 0⟩ : S32) )) (Reps.c2 (show Kd.M k32 _ _ _ (⟨1, 2⟩ : S32) [.int .i64 1, .int .i64 2] from (k32_mkM _ _ _ (⟨1, 2⟩ : S32) )) (Reps.none _ _)))))); intro v158 w21 ho22 hb hg_ hnew_; clear hg_ hnew_; (first | rw [← Ny157.out] at ho22 | (simp only [Int.reduceToNat] at ho22; rw [← Ny157.out] at ho22)); have n0_ := Aside0.mk (Kd.R_below (by (with_reducible repeat (first | apply Kd.R_alloc | apply Kd.R_drewN | apply Kd.R_drew)); exact HO143.out) hb); have n1_ := Aside0.mk (Kd.R_elder' (by (with_reducible repeat (first | apply Kd.R_alloc | apply Kd.R_drewN | apply Kd.R_drew)); exact HO148.out) (Kd.R_base ho22) hb); have n2_ := Aside0.mk (Kd.R_below (by (with_reducible repeat (first | apply Kd.R_alloc | apply Kd.R_drewN | apply Kd.R_drew)); exact HO151.out) hb); have n3_ := Aside0.mk (Kd.R_elder' (by (with_reducible repeat (first | apply Kd.R_alloc | apply Kd.R_drewN | apply Kd.R_drew)); exact HO156.out) (Kd.R_base ho22) hb); have n4_ := Aside0.mk (Kd.R_lower (Kd.R_new' (Kd.R_new' ho22 (Kd.R_lt (by (with_reducible repeat (first | apply Kd.R_alloc | apply Kd.R_drewN | apply Kd.R_drew)); exact HO148.out))) (Kd.R_lt (by (with_reducible repeat (first | apply Kd.R_alloc | apply Kd.R_drewN | apply Kd.R_drew)); exact HO156.out))) (below_size (by repeat (first | (with_reducible first | exact HB.out | apply below_alloc | apply pw_below_drewN | apply below_drew1) | exact HB.out)))); have n5_ := Aside0.mk (below_step (by repeat (first | (with_reducible first | exact HB.out | apply below_alloc | apply pw_below_drewN | apply below_drew1) | exact HB.out)) hb); clear HO143; clear HO148; clear HO151; clear HO156; clear HB; have HO143 := n0_; have HO148 := n1_; have HO151 := n2_; have HO156 := n3_; have HO159 := n4_; have HB := n5_; clear n0_ n1_ n2_ n3_ n4_ n5_; clear hb ho22; obtain ⟨Ao23, co23, eo23⟩ := Kd.R_slice HO148.out; subst eo23; obtain ⟨Ao24, co24, eo24⟩ := Kd.R_slice HO159.out; subst eo24) | (go_at_call 10; (with_reducible refine (variorumref20_Spots.calls k _ _ t144 _ _ y157 true _ ?side1 ?side2 ?side3 ?side4 A5.out).mono ?_); (case side1 => repeat (first | exact (Kd.R_reads' HO148.out).2.2 | (with_reducible refine Kd.C_alloc ?_ _) | (with_reducible refine Kd.C_drewN ?_ _) | (with_reducible refine Kd.C_drew ?_))); (case side2 => exact (Kd.R_reads' HO148.out).2.1); (case side3 => repeat (first | exact (Kd.R_reads' HO159.out).2.2 | (with_reducible refine Kd.C_alloc ?_ _) | (with_reducible refine Kd.C_drewN ?_ _) | (with_reducible refine Kd.C_drew ?_))); (case side4 => exact (Kd.R_reads' HO159.out).2.1); rintro e w' ⟨rfl, ⟨nd, rfl⟩⟩) | (go_at_call 11; (with_reducible refine (block_Columns.calls 3 t161 _ A8.out).mono ?_); rintro e w' ⟨rfl, ⟨nd, rfl⟩⟩) | ((with_reducible refine gate_dst (N := 43) rfl ?_); (try (refine gate_guard (by rfl) ?_; dsimp only)); refine Kd.R_lit (Kd.int .i64) _ 2 ?hg (N := 43) ?hd (xs := ([3, 1, 2, 2] : List Int)) (inner := [.int .i64 3, .int .i64 1, .int .i64 2, .int .i64 2]) (ok := fun _ => True) (okp := fun _ => True) ?hr ?hp (fun _ hk => hk) trivial (Below.refl _ _) (Nat.le_refl _) (by simp) ?_; (case hd => rfl); (case hg => rfl); (case hr => first | (go_simp; done) | (go_simp; rfl)); (case hp => exact (Reps.one (show Kd.M (Kd.int .i64) _ _ _ 3 [.int .i64 3] from rfl) (Reps.one (show Kd.M (Kd.int .i64) _ _ _ 1 [.int .i64 1] from rfl) (Reps.one (show Kd.M (Kd.int .i64) _ _ _ 2 [.int .i64 2] from rfl) (Reps.one (show Kd.M (Kd.int .i64) _ _ _ 2 [.int .i64 2] from rfl) (Reps.none _ _)))))); intro v163 w25 ho26 hb hg_ hnew_; clear hg_ hnew_; (first | rw [← Ny162.out] at ho26 | (simp only [Int.reduceToNat] at ho26; rw [← Ny162.out] at ho26)); have n0_ := Aside0.mk (Kd.R_elder' (by (with_reducible repeat (first | apply Kd.R_alloc | apply Kd.R_drewN | apply Kd.R_drew)); exact HO143.out) (Kd.R_base ho26) hb); have n1_ := Aside0.mk (Kd.R_below (by (with_reducible repeat (first | apply Kd.R_alloc | apply Kd.R_drewN | apply Kd.R_drew)); exact HO148.out) hb); have n2_ := Aside0.mk (Kd.R_elder' (by (with_reducible repeat (first | apply Kd.R_alloc | apply Kd.R_drewN | apply Kd.R_drew)); exact HO151.out) (Kd.R_base ho26) hb); have n3_ := Aside0.mk (Kd.R_below (by (with_reducible repeat (first | apply Kd.R_alloc | apply Kd.R_drewN | apply Kd.R_drew)); exact HO156.out) hb); have n4_ := Aside0.mk (Kd.R_below (by (with_reducible repeat (first | apply Kd.R_alloc | apply Kd.R_drewN | apply Kd.R_drew)); exact HO159.out) hb); have n5_ := Aside0.mk (Kd.R_lower (Kd.R_new' (Kd.R_new' ho26 (Kd.R_lt (by (with_reducible repeat (first | apply Kd.R_alloc | apply Kd.R_drewN | apply Kd.R_drew)); exact HO143.out))) (Kd.R_lt (by (with_reducible repeat (first | apply Kd.R_alloc | apply Kd.R_drewN | apply Kd.R_drew)); exact HO151.out))) (below_size (by repeat (first | (with_reducible first | exact HB.out | apply below_alloc | apply pw_below_drewN | apply below_drew1) | exact HB.out)))); have n6_ := Aside0.mk (below_step (by repeat (first | (with_reducible first | exact HB.out | apply below_alloc | apply pw_below_drewN | apply below_drew1) | exact HB.out)) hb); clear HO143; clear HO148; clear HO151; clear HO156; clear HO159; clear HB; have HO143 := n0_; have HO148 := n1_; have HO151 := n2_; have HO156 := n3_; have HO159 := n4_; have HO164 := n5_; have HB := n6_; clear n0_ n1_ n2_ n3_ n4_ n5_ n6_; clear hb ho26; obtain ⟨Ao27, co27, eo27⟩ := Kd.R_slice HO164.out; subst eo27) | (go_at_call 13; (with_reducible refine (block_Clear.calls k _ _ t144 _ _ y162 true _ ?side1 ?side2 ?side3 ?side4 A10.out).mono ?_); (case side1 => repeat (first | exact (Kd.R_reads' HO148.out).2.2 | (with_reducible refine Kd.C_alloc ?_ _) | (with_reducible refine Kd.C_drewN ?_ _) | (with_reducible refine Kd.C_drew ?_))); (case side2 => exact (Kd.R_reads' HO148.out).2.1); (case side3 => repeat (first | exact (Kd.R_reads' HO164.out).2.2 | (with_reducible refine Kd.C_alloc ?_ _) | (with_reducible refine Kd.C_drewN ?_ _) | (with_reducible refine Kd.C_drew ?_))); (case side4 => exact (Kd.R_reads' HO164.out).2.1); rintro e w28 ⟨rfl, hb⟩; have n0_ := Aside0.mk (Kd.R_below (by (with_reducible repeat (first | apply Kd.R_alloc | apply Kd.R_drewN | apply Kd.R_drew)); exact HO143.out) hb); have n1_ := Aside0.mk (Kd.R_below (by (with_reducible repeat (first | apply Kd.R_alloc | apply Kd.R_drewN | apply Kd.R_drew)); exact HO148.out) hb); have n2_ := Aside0.mk (Kd.R_below (by (with_reducible repeat (first | apply Kd.R_alloc | apply Kd.R_drewN | apply Kd.R_drew)); exact HO151.out) hb); have n3_ := Aside0.mk (Kd.R_below (by (with_reducible repeat (first | apply Kd.R_alloc | apply Kd.R_drewN | apply Kd.R_drew)); exact HO156.out) hb); have n4_ := Aside0.mk (Kd.R_below (by (with_reducible repeat (first | apply Kd.R_alloc | apply Kd.R_drewN | apply Kd.R_drew)); exact HO159.out) hb); have n5_ := Aside0.mk (Kd.R_below (by (with_reducible repeat (first | apply Kd.R_alloc | apply Kd.R_drewN | apply Kd.R_drew)); exact HO164.out) hb); have n6_ := Aside0.mk (below_step (by repeat (first | (with_reducible first | exact HB.out | apply below_alloc | apply pw_below_drewN | apply below_drew1) | exact HB.out)) hb); clear HO143; clear HO148; clear HO151; clear HO156; clear HO159; clear HO164; clear HB; have HO143 := n0_; have HO148 := n1_; have HO151 := n2_; have HO156 := n3_; have HO159 := n4_; have HO164 := n5_; have HB := n6_; clear n0_ n1_ n2_ n3_ n4_ n5_ n6_; (try clear hb); (try clear hb2); (try clear hk); (try clear hi)) | ((with_reducible refine gate_dst (N := 48) rfl ?_); (try (refine gate_guard (by rfl) ?_; dsimp only)); refine Kd.R_lit (Kd.int .i64) _ 2 ?hg (N := 48) ?hd (xs := ([4, 1, 2, 2] : List Int)) (inner := [.int .i64 4, .int .i64 1, .int .i64 2, .int .i64 2]) (ok := fun _ => True) (okp := fun _ => True) ?hr ?hp (fun _ hk => hk) trivial (Below.refl _ _) (Nat.le_refl _) (by simp) ?_; (case hd => rfl); (case hg => rfl); (case hr => first | (go_simp; done) | (go_simp; rfl)); (case hp => exact (Reps.one (show Kd.M (Kd.int .i64) _ _ _ 4 [.int .i64 4] from rfl) (Reps.one (show Kd.M (Kd.int .i64) _ _ _ 1 [.int .i64 1] from rfl) (Reps.one (show Kd.M (Kd.int .i64) _ _ _ 2 [.int .i64 2] from rfl) (Reps.one (show Kd.M (Kd.int .i64) _ _ _ 2 [.int .i64 2] from rfl) (Reps.none _ _)))))); intro v167 w29 ho30 hb hg_ hnew_; clear hg_ hnew_; (first | rw [← Ny166.out] at ho30 | (simp only [Int.reduceToNat] at ho30; rw [← Ny166.out] at ho30)); have n0_ := Aside0.mk (Kd.R_elder' (by (with_reducible repeat (first | apply Kd.R_alloc | apply Kd.R_drewN | apply Kd.R_drew)); exact HO143.out) (Kd.R_base ho30) hb); have n1_ := Aside0.mk (Kd.R_below (by (with_reducible repeat (first | apply Kd.R_alloc | apply Kd.R_drewN | apply Kd.R_drew)); exact HO148.out) hb); have n2_ := Aside0.mk (Kd.R_elder' (by (with_reducible repeat (first | apply Kd.R_alloc | apply Kd.R_drewN | apply Kd.R_drew)); exact HO151.out) (Kd.R_base ho30) hb); have n3_ := Aside0.mk (Kd.R_below (by (with_reducible repeat (first | apply Kd.R_alloc | apply Kd.R_drewN | apply Kd.R_drew)); exact HO156.out) hb); have n4_ := Aside0.mk (Kd.R_below (by (with_reducible repeat (first | apply Kd.R_alloc | apply Kd.R_drewN | apply Kd.R_drew)); exact HO159.out) hb); have n5_ := Aside0.mk (Kd.R_elder' (by (with_reducible repeat (first | apply Kd.R_alloc | apply Kd.R_drewN | apply Kd.R_drew)); exact HO164.out) (Kd.R_base ho30) hb); have n6_ := Aside0.mk (Kd.R_lower (Kd.R_new' (Kd.R_new' (Kd.R_new' ho30 (Kd.R_lt (by (with_reducible repeat (first | apply Kd.R_alloc | apply Kd.R_drewN | apply Kd.R_drew)); exact HO143.out))) (Kd.R_lt (by (with_reducible repeat (first | apply Kd.R_alloc | apply Kd.R_drewN | apply Kd.R_drew)); exact HO151.out))) (Kd.R_lt (by (with_reducible repeat (first | apply Kd.R_alloc | apply Kd.R_drewN | apply Kd.R_drew)); exact HO164.out))) (below_size (by repeat (first | (with_reducible first | exact HB.out | apply below_alloc | apply pw_below_drewN | apply below_drew1) | exact HB.out)))); have n7_ := Aside0.mk (below_step (by repeat (first | (with_reducible first | exact HB.out | apply below_alloc | apply pw_below_drewN | apply below_drew1) | exact HB.out)) hb); clear HO143; clear HO148; clear HO151; clear HO156; clear HO159; clear HO164; clear HB; have HO143 := n0_; have HO148 := n1_; have HO151 := n2_; have HO156 := n3_; have HO159 := n4_; have HO164 := n5_; have HO168 := n6_; have HB := n7_; clear n0_ n1_ n2_ n3_ n4_ n5_ n6_ n7_; clear hb ho30; obtain ⟨Ao31, co31, eo31⟩ := Kd.R_slice HO168.out; subst eo31) | (go_at_call 13; (with_reducible refine (block_Clear.calls k _ _ t144 _ _ y166 t169 _ ?side1 ?side2 ?side3 ?side4 A12.out).mono ?_); (case side1 => repeat (first | exact (Kd.R_reads' HO148.out).2.2 | (with_reducible refine Kd.C_alloc ?_ _) | (with_reducible refine Kd.C_drewN ?_ _) | (with_reducible refine Kd.C_drew ?_))); (case side2 => exact (Kd.R_reads' HO148.out).2.1); (case side3 => repeat (first | exact (Kd.R_reads' HO168.out).2.2 | (with_reducible refine Kd.C_alloc ?_ _) | (with_reducible refine Kd.C_drewN ?_ _) | (with_reducible refine Kd.C_drew ?_))); (case side4 => exact (Kd.R_reads' HO168.out).2.1); rintro e w32 ⟨rfl, hb⟩; have n0_ := Aside0.mk (Kd.R_below (by (with_reducible repeat (first | apply Kd.R_alloc | apply Kd.R_drewN | apply Kd.R_drew)); exact HO143.out) hb); have n1_ := Aside0.mk (Kd.R_below (by (with_reducible repeat (first | apply Kd.R_alloc | apply Kd.R_drewN | apply Kd.R_drew)); exact HO148.out) hb); have n2_ := Aside0.mk (Kd.R_below (by (with_reducible repeat (first | apply Kd.R_alloc | apply Kd.R_drewN | apply Kd.R_drew)); exact HO151.out) hb); have n3_ := Aside0.mk (Kd.R_below (by (with_reducible repeat (first | apply Kd.R_alloc | apply Kd.R_drewN | apply Kd.R_drew)); exact HO156.out) hb); have n4_ := Aside0.mk (Kd.R_below (by (with_reducible repeat (first | apply Kd.R_alloc | apply Kd.R_drewN | apply Kd.R_drew)); exact HO159.out) hb); have n5_ := Aside0.mk (Kd.R_below (by (with_reducible repeat (first | apply Kd.R_alloc | apply Kd.R_drewN | apply Kd.R_drew)); exact HO164.out) hb); have n6_ := Aside0.mk (Kd.R_below (by (with_reducible repeat (first | apply Kd.R_alloc | apply Kd.R_drewN | apply Kd.R_drew)); exact HO168.out) hb); have n7_ := Aside0.mk (below_step (by repeat (first | (with_reducible first | exact HB.out | apply below_alloc | apply pw_below_drewN | apply below_drew1) | exact HB.out)) hb); clear HO143; clear HO148; clear HO151; clear HO156; clear HO159; clear HO164; clear HO168; clear HB; have HO143 := n0_; have HO148 := n1_; have HO151 := n2_; have HO156 := n3_; have HO159 := n4_; have HO164 := n5_; have HO168 := n6_; have HB := n7_; clear n0_ n1_ n2_ n3_ n4_ n5_ n6_ n7_; (try clear hb); (try clear hb2); (try clear hk); (try clear hi)))
              go_ret
              exact ⟨by first | rfl | (simp [errW_none, errW_some] <;> rfl) | (simp [*, errW_none, errW_some] <;> rfl), by repeat (first | (with_reducible first | exact HB.out | apply below_alloc | apply pw_below_drewN | apply below_drew1) | exact HB.out)⟩
            · replace c11 := Bool.eq_false_iff.mpr c11
              subst c11
              have H1 : (none) = some r := by rw [if_neg (show ¬ (false = true) by decide)] at H; exact H
              clear H
              have H := H1
              clear H1
              exact absurd H (by simp)
          · rw [if_neg c9] at H
            exact absurd H (by simp)
      · replace c6 := Bool.eq_false_iff.mpr c6
        subst c6
        have H1 : (none) = some r := by rw [if_neg (show ¬ (false = true) by decide)] at H; exact H
        clear H
        have H := H1
        clear H1
        exact absurd H (by simp)
    · rw [if_neg c4] at H
      exact absurd H (by simp)
  · replace c3 := Bool.eq_false_iff.mpr c3
    subst c3
    have H1 : (none) = some r := by rw [if_neg (show ¬ (false = true) by decide)] at H; exact H
    clear H
    have H := H1
    clear H1
    exact absurd H (by simp)

/-! ### variorumref20_Columns: function 12 -/
def variorumref20_Columns.j0 : Nat → Int → Bool → Option (Int)
  | 0, _, _ => none
  | k + 1, x0, x8 => if x8 = true then (some 1) else (if x0 = 2 then (some x0) else (if x0 = 3 then (some x0) else (some 0)))
def variorumref20_Columns.f (k : Nat) (a0 : Int) : Option (Int) := if a0 = 0 then (variorumref20_Columns.j0 k a0 true) else (variorumref20_Columns.j0 k a0 (a0 == 1))
theorem variorumref20_Columns.mono_l : ∀ k, (∀ y0 y1, LeO (variorumref20_Columns.j0 k y0 y1) (variorumref20_Columns.j0 (k + 1) y0 y1))
  | 0 => fun _ _ r h => by simp [variorumref20_Columns.j0] at h
  | k + 1 => by
    have ih0 := variorumref20_Columns.mono_l k
    · intro y0 y1
      unfold variorumref20_Columns.j0
      repeat' first
      | (with_reducible exact ih0 _ _)
      | (with_reducible exact LeO.refl _)
      | (with_reducible exact LeO.none _)
      | (with_reducible refine LeO.ite ?_ ?_)
      | (with_reducible refine LeO.bind ?_ (fun _ => ?_))
      | exact ih0 _ _
      | exact LeO.none _
      | refine LeO.ite ?_ ?_
      | refine LeO.bind ?_ (fun _ => ?_)
theorem variorumref20_Columns.mono : ∀ a0 k, LeO (variorumref20_Columns.f k a0) (variorumref20_Columns.f (k + 1) a0) := by
  intro a0 k
  have ih0 := variorumref20_Columns.mono_l k
  unfold variorumref20_Columns.f
  repeat' first
      | (with_reducible exact ih0 _ _)
      | (with_reducible exact LeO.refl _)
      | (with_reducible exact LeO.none _)
      | (with_reducible refine LeO.ite ?_ ?_)
      | (with_reducible refine LeO.bind ?_ (fun _ => ?_))
      | exact ih0 _ _
      | exact LeO.none _
      | refine LeO.ite ?_ ?_
      | refine LeO.bind ?_ (fun _ => ?_)
set_option maxHeartbeats 8000000 in
set_option maxRecDepth 100000 in
theorem variorumref20_Columns.calls (k : Nat) (a0 : Int) (r : Int) (w : World) (h : variorumref20_Columns.f k a0 = some r) :
    Calls Try.prog 12 #[.int .i64 a0] w fun e w' => e = .returned (.int .i64 r) ∧ Drawn0 w w' := by
  have H : (if a0 = 0 then (variorumref20_Columns.j0 k a0 true) else (variorumref20_Columns.j0 k a0 (a0 == 1))) = some r := h
  clear h
  have HC2 := Aside0.mk H
  clear H
  go_enter Try.func12, Try.ntmps12
  go_upto_region 1 with (fail)
  go_cut [8] (fun v8 wc => ∃ (kq : Nat) (x8_1 : Bool), v8 = .bool x8_1 ∧ Aside0 (variorumref20_Columns.j0 kq a0 x8_1 = some r) ∧ Aside0 (kq ≤ k) ∧ Drawn0 w wc)
  case first =>
    have H := HC2.out
    clear HC2
    by_cases c3 : a0 = 0
    · rw [if_pos c3] at H
      have c3b0 : (a0 == 0) = true := beq_iff_eq.mpr c3
      have c3b1 : (a0 != 0) = false := bne_eq_false_iff_eq.mpr c3
      clear c3
      (first | rw [c3b0] | (simp only [i64_w, i32_w]; rw [c3b0]) | skip)
      have H' := Aside0.mk H
      clear H
      go_wp2
      go_meet
      case rel => exact ⟨_, (true), (by first | rfl | (simp; done) | (simp [*]; done)), H', ⟨by first | omega | exact Nat.le_refl _⟩, by repeat (first | exact Drawn0.refl _ | apply Drawn0.step)⟩
    · rw [if_neg c3] at H
      have c3b0 : (a0 == 0) = false := beq_eq_false_iff_ne.mpr c3
      have c3b1 : (a0 != 0) = true := bne_iff_ne.mpr c3
      (first | rw [c3b0] | (simp only [i64_w, i32_w]; rw [c3b0]) | skip)
      have H' := Aside0.mk H
      clear H
      go_wp2
      go_meet
      case rel => exact ⟨_, ((a0 == 1)), (by first | rfl | (simp; done) | (simp [*]; done)), H', ⟨by first | omega | exact Nat.le_refl _⟩, by repeat (first | exact Drawn0.refl _ | apply Drawn0.step)⟩
  case rest =>
    clear HC2
    try clear c1
    try clear p2
    try clear c3
    try clear c3b0
    try clear c3b1
    obtain ⟨kq, x8_1, rfl, HA, HJ1, ⟨mc1, rfl⟩⟩ := hcut
    cases kq with
    | zero => exact absurd HA.out (by simp [variorumref20_Columns.j0])
    | succ kj1 =>
      have H := HA.out
      clear HA
      simp only [variorumref20_Columns.j0] at H
      by_cases c4 : x8_1 = true
      · subst c4
        have H1 : (some 1) = some r := by rw [if_pos rfl] at H; exact H
        clear H
        have H := H1
        clear H1
        obtain rfl := Option.some.inj H
        go_wp2
        go_ret
        exact ⟨by first | rfl | (simp; done) | (simp [*]; done), by repeat (first | exact Drawn0.refl _ | apply Drawn0.step)⟩
      · replace c4 := Bool.eq_false_iff.mpr c4
        subst c4
        have H1 : (if a0 = 2 then (some a0) else (if a0 = 3 then (some a0) else (some 0))) = some r := by rw [if_neg (show ¬ (false = true) by decide)] at H; exact H
        clear H
        have H := H1
        clear H1
        by_cases c5 : a0 = 2
        · rw [if_pos c5] at H
          have c5b0 : (a0 == 2) = true := beq_iff_eq.mpr c5
          have c5b1 : (a0 != 2) = false := bne_eq_false_iff_eq.mpr c5
          clear c5
          obtain rfl := Option.some.inj H
          go_wp2
          go_ret
          exact ⟨by first | rfl | (simp; done) | (simp [*]; done), by repeat (first | exact Drawn0.refl _ | apply Drawn0.step)⟩
        · rw [if_neg c5] at H
          have c5b0 : (a0 == 2) = false := beq_eq_false_iff_ne.mpr c5
          have c5b1 : (a0 != 2) = true := bne_iff_ne.mpr c5
          by_cases c6 : a0 = 3
          · rw [if_pos c6] at H
            have c6b0 : (a0 == 3) = true := beq_iff_eq.mpr c6
            have c6b1 : (a0 != 3) = false := bne_eq_false_iff_eq.mpr c6
            clear c6
            obtain rfl := Option.some.inj H
            go_wp2
            go_ret
            exact ⟨by first | rfl | (simp; done) | (simp [*]; done), by repeat (first | exact Drawn0.refl _ | apply Drawn0.step)⟩
          · rw [if_neg c6] at H
            have c6b0 : (a0 == 3) = false := beq_eq_false_iff_ne.mpr c6
            have c6b1 : (a0 != 3) = true := bne_iff_ne.mpr c6
            obtain rfl := Option.some.inj H
            go_wp2
            go_ret
            exact ⟨by first | rfl | (simp; done) | (simp [*]; done), by repeat (first | exact Drawn0.refl _ | apply Drawn0.step)⟩

/-! ### variorumref19_Sum: function 15 -/
def variorumref19_Sum.l0 : Nat → List Int → Int → Int → Option (Int)
  | 0, _, _, _ => none
  | k + 1, x0, x3, x4 => if x4 < (x0.length : Int) then (if 0 ≤ x4 then (variorumref19_Sum.l0 k x0 (wrap64 (x3 + (rd x0 x4))) (wrap64 (x4 + 1))) else (none)) else (some x3)
def variorumref19_Sum.f (k : Nat) (l0 : List Int) : Option (Int) := variorumref19_Sum.l0 k l0 0 0
theorem variorumref19_Sum.mono_l : ∀ k, (∀ y0 y1 y2, LeO (variorumref19_Sum.l0 k y0 y1 y2) (variorumref19_Sum.l0 (k + 1) y0 y1 y2))
  | 0 => fun _ _ _ r h => by simp [variorumref19_Sum.l0] at h
  | k + 1 => by
    have ih0 := variorumref19_Sum.mono_l k
    · intro y0 y1 y2
      unfold variorumref19_Sum.l0
      repeat' first
      | (with_reducible exact ih0 _ _ _)
      | (with_reducible exact LeO.refl _)
      | (with_reducible exact LeO.none _)
      | (with_reducible refine LeO.ite ?_ ?_)
      | (with_reducible refine LeO.bind ?_ (fun _ => ?_))
      | exact ih0 _ _ _
      | exact LeO.none _
      | refine LeO.ite ?_ ?_
      | refine LeO.bind ?_ (fun _ => ?_)
theorem variorumref19_Sum.mono : ∀ a0 k, LeO (variorumref19_Sum.f k a0) (variorumref19_Sum.f (k + 1) a0) := by
  intro a0 k
  have ih0 := variorumref19_Sum.mono_l k
  unfold variorumref19_Sum.f
  repeat' first
      | (with_reducible exact ih0 _ _ _)
      | (with_reducible exact LeO.refl _)
      | (with_reducible exact LeO.none _)
      | (with_reducible refine LeO.ite ?_ ?_)
      | (with_reducible refine LeO.bind ?_ (fun _ => ?_))
      | exact ih0 _ _ _
      | exact LeO.none _
      | refine LeO.ite ?_ ?_
      | refine LeO.bind ?_ (fun _ => ?_)
set_option maxHeartbeats 8000000 in
set_option maxRecDepth 100000 in
theorem variorumref19_Sum.calls (k : Nat) (A0 : Option Addr) (c0 : Nat) (l0 : List Int) (r : Int) (w : World) (hr0 : Kd.C (Kd.int .i64) w A0 l0.length l0) (hc0 : l0.length ≤ c0) (h : variorumref19_Sum.f k l0 = some r) :
    Calls Try.prog 15 #[.slice A0 l0.length c0] w fun e w' => e = .returned (.int .i64 r) ∧ Drawn0 w w' := by
  have HR0 := Aside0.mk hr0
  have HC0 := Aside0.mk hc0
  clear hr0 hc0
  have H : (variorumref19_Sum.l0 k l0 0 0) = some r := h
  clear h
  have H' := Aside0.mk H
  clear H
  go_enter Try.func15, Try.ntmps15
  go_wp2
  go_loopg [3, 4] k (fun kq v3 v4 w' => ∃ (x3_1 : Int) (x4_1 : Int), v3 = .int .i64 x3_1 ∧ v4 = .int .i64 x4_1 ∧ Aside0 (variorumref19_Sum.l0 kq l0 x3_1 x4_1 = some r) ∧ Aside0 (kq ≤ k) ∧ Drawn0 w w')
  case atStart => exact ⟨(0), (0), (by first | rfl | (simp; done) | (simp [*]; done)), (by first | rfl | (simp; done) | (simp [*]; done)), H', ⟨Nat.le_refl _⟩, by repeat (first | exact Drawn0.refl _ | apply Drawn0.step)⟩
  case round =>
    clear H'
    try clear c1
    obtain ⟨x3_1, x4_1, rfl, rfl, HA, HK1, ⟨m1, rfl⟩⟩ := hrel
    cases gk with
    | zero => exact absurd HA.out (by simp [variorumref19_Sum.l0])
    | succ k1 =>
      have H := HA.out
      clear HA
      simp only [variorumref19_Sum.l0] at H
      by_cases c2 : x4_1 < (l0.length : Int)
      · rw [if_pos c2] at H
        have c2b0 : decide (x4_1 < (l0.length : Int)) = true := decide_eq_true c2
        clear c2
        by_cases c3 : 0 ≤ x4_1
        · rw [if_pos c3] at H
          have c3b0 : decide (0 ≤ x4_1) = true := decide_eq_true c3
          clear c3
          have H' := Aside0.mk H
          clear H
          have p170 : 0 ≤ (x4_1 : Int) := of_decide_eq_true (by first | (with_reducible assumption) | assumption)
          have q170 : x4_1 < (l0.length : Int) := of_decide_eq_true (by first | (with_reducible assumption) | assumption)
          obtain ⟨ad170, e170, hx170_0⟩ := Kd.at_int HR0.out x4_1 p170 q170
          cases e170
          replace p170 := eq_true p170
          replace q170 := eq_true q170
          go_wp2
          go_roundg k1
          case measure => have := HK1.out; omega
          case rel => exact ⟨(wrap64 (x3_1 + (rd l0 x4_1))), (wrap64 (x4_1 + 1)), (by first | rfl | (simp; done) | (simp [*]; done)), (by first | rfl | (simp; done) | (simp [*]; done)), H', ⟨by have := HK1.out; omega⟩, by repeat (first | exact Drawn0.refl _ | apply Drawn0.step)⟩
        · rw [if_neg c3] at H
          exact absurd H (by simp)
      · rw [if_neg c2] at H
        have c2b0 : decide (x4_1 < (l0.length : Int)) = false := decide_eq_false c2
        clear c2
        obtain rfl := Option.some.inj H
        go_wp2
        go_ret
        exact ⟨by first | rfl | (simp; done) | (simp [*]; done), by repeat (first | exact Drawn0.refl _ | apply Drawn0.step)⟩

end Go.Proofs.Ytmhnccjdhhcjoaa.PAll

/- Written by a program of this session: functions of the given program as plain Lean functions, the walks that show it, and the row of each law, for every input that its statement speaks of. -/
import Derived.Test.YtjppjlhhdfkloaaPTpx0
import Derived.Test.YtjppjlhhdfkloaaPTpx6
import Derived.Test.YtjppjlhhdfkloaaPTpx7
namespace Go.Proofs.Ytjppjlhhdfkloaa.PTp
open Go.RowKit Go.Proofs.YtjppjlhhdfkloaaW.PrintWords Go.Proofs.YtjppjlhhdfkloaaW.PrintLast Go.Proofs.YtjppjlhhdfkloaaW.PrintMore
attribute [local go_sem] max2_int min2_int max_two min_two max_three min_three max_four min_four   -- for this text's walks alone
set_option linter.unusedVariables false
set_option linter.unusedSimpArgs false

/-! ### tree_words: function 26 -/
mutual
def tree_words.l0 : Nat → List (S38) → Int → Int → Option (Bool)
 | 0, _, _, _ => none
 | k + 1, x7, x8, x9 => if x9 < x8 then (if 0 ≤ x9 then (if x9 < (x7.length : Int) then (if ((rd_T38 x7 x9).f0 = true) then (tree_words.j1 k x7 x8 x9 false ((rd_T38 x7 x9).f0) ((rd_T38 x7 x9).f1) ((rd_T38 x7 x9).f2) ((rd_T38 x7 x9).f3)) else (tree_words.j1 k x7 x8 x9 (decide ((((rd_T38 x7 x9).f2).length : Int) > 0)) ((rd_T38 x7 x9).f0) ((rd_T38 x7 x9).f1) ((rd_T38 x7 x9).f2) ((rd_T38 x7 x9).f3))) else (none)) else (none)) else (some true)
def tree_words.j1 : Nat → List (S38) → Int → Int → Bool → Bool → ByteArray → List (List (S38)) → Int → Option (Bool)
 | 0, _, _, _, _, _, _, _, _ => none
 | k + 1, x7, x8, x9, x21, x181000, x181001, x181002, x181003 => if x21 = true then (some false) else (tree_words.l1 k x7 x8 x9 x181002 (x181002.length : Int) 0)
def tree_words.l1 : Nat → List (S38) → Int → Int → List (List (S38)) → Int → Int → Option (Bool)
 | 0, _, _, _, _, _, _ => none
 | k + 1, x7, x8, x9, x23, x24, x25 => if x25 < x24 then (if 0 ≤ x25 then (if x25 < (x23.length : Int) then ((tree_words.f k (rd_L5 x23 x25)).bind fun t182 => (if t182 = true then (tree_words.l1 k x7 x8 x9 x23 x24 (wrap64 (x25 + 1))) else (some false))) else (none)) else (none)) else (tree_words.l0 k x7 x8 (wrap64 (x9 + 1)))
def tree_words.f : Nat → List (S38) → Option (Bool)
 | 0, _ => none
 | k + 1, l0 => tree_words.l0 k l0 (l0.length : Int) 0
end
theorem tree_words.mono_l : ∀ k, (∀ y0, LeO (tree_words.f k y0) (tree_words.f (k + 1) y0)) ∧ (∀ y0 y1 y2, LeO (tree_words.l0 k y0 y1 y2) (tree_words.l0 (k + 1) y0 y1 y2)) ∧ (∀ y0 y1 y2 y3 y4 y5 y6 y7, LeO (tree_words.j1 k y0 y1 y2 y3 y4 y5 y6 y7) (tree_words.j1 (k + 1) y0 y1 y2 y3 y4 y5 y6 y7)) ∧ (∀ y0 y1 y2 y3 y4 y5, LeO (tree_words.l1 k y0 y1 y2 y3 y4 y5) (tree_words.l1 (k + 1) y0 y1 y2 y3 y4 y5))
 | 0 => ⟨fun _ r h => by simp [tree_words.f] at h, fun _ _ _ r h => by simp [tree_words.l0] at h, fun _ _ _ _ _ _ _ _ r h => by simp [tree_words.j1] at h, fun _ _ _ _ _ _ r h => by simp [tree_words.l1] at h⟩
 | k + 1 => by
  obtain ⟨ih0, ih1, ih2, ih3⟩ := tree_words.mono_l k
  refine ⟨?_, ?_, ?_, ?_⟩
  ·intro y0
   unfold tree_words.f
   repeat' first
   | (with_reducible exact ih0 _)
   | (with_reducible exact ih1 _ _ _)
   | (with_reducible exact ih2 _ _ _ _ _ _ _ _)
   | (with_reducible exact ih3 _ _ _ _ _ _)
   | (with_reducible exact LeO.refl _)
   | (with_reducible exact LeO.none _)
   | (with_reducible refine LeO.ite ?_ ?_)
   | (with_reducible refine LeO.bind ?_ (fun _ => ?_))
   | exact ih0 _
   | exact ih1 _ _ _
   | exact ih2 _ _ _ _ _ _ _ _
   | exact ih3 _ _ _ _ _ _
   | exact LeO.none _
   | refine LeO.ite ?_ ?_
   | refine LeO.bind ?_ (fun _ => ?_)
  ·intro y0 y1 y2
   unfold tree_words.l0
   repeat' first
   | (with_reducible exact ih0 _)
   | (with_reducible exact ih1 _ _ _)
   | (with_reducible exact ih2 _ _ _ _ _ _ _ _)
   | (with_reducible exact ih3 _ _ _ _ _ _)
   | (with_reducible exact LeO.refl _)
   | (with_reducible exact LeO.none _)
   | (with_reducible refine LeO.ite ?_ ?_)
   | (with_reducible refine LeO.bind ?_ (fun _ => ?_))
   | exact ih0 _
   | exact ih1 _ _ _
   | exact ih2 _ _ _ _ _ _ _ _
   | exact ih3 _ _ _ _ _ _
   | exact LeO.none _
   | refine LeO.ite ?_ ?_
   | refine LeO.bind ?_ (fun _ => ?_)
  ·intro y0 y1 y2 y3 y4 y5 y6 y7
   unfold tree_words.j1
   repeat' first
   | (with_reducible exact ih0 _)
   | (with_reducible exact ih1 _ _ _)
   | (with_reducible exact ih2 _ _ _ _ _ _ _ _)
   | (with_reducible exact ih3 _ _ _ _ _ _)
   | (with_reducible exact LeO.refl _)
   | (with_reducible exact LeO.none _)
   | (with_reducible refine LeO.ite ?_ ?_)
   | (with_reducible refine LeO.bind ?_ (fun _ => ?_))
   | exact ih0 _
   | exact ih1 _ _ _
   | exact ih2 _ _ _ _ _ _ _ _
   | exact ih3 _ _ _ _ _ _
   | exact LeO.none _
   | refine LeO.ite ?_ ?_
   | refine LeO.bind ?_ (fun _ => ?_)
  ·intro y0 y1 y2 y3 y4 y5
   unfold tree_words.l1
   repeat' first
   | (with_reducible exact ih0 _)
   | (with_reducible exact ih1 _ _ _)
   | (with_reducible exact ih2 _ _ _ _ _ _ _ _)
   | (with_reducible exact ih3 _ _ _ _ _ _)
   | (with_reducible exact LeO.refl _)
   | (with_reducible exact LeO.none _)
   | (with_reducible refine LeO.ite ?_ ?_)
   | (with_reducible refine LeO.bind ?_ (fun _ => ?_))
   | exact ih0 _
   | exact ih1 _ _ _
   | exact ih2 _ _ _ _ _ _ _ _
   | exact ih3 _ _ _ _ _ _
   | exact LeO.none _
   | refine LeO.ite ?_ ?_
   | refine LeO.bind ?_ (fun _ => ?_)
theorem tree_words.mono : ∀ a0 k, LeO (tree_words.f k a0) (tree_words.f (k + 1) a0) := by
 intro a0 k
 obtain ⟨ih0, ih1, ih2, ih3⟩ := tree_words.mono_l k
 exact ih0 a0
set_option maxHeartbeats 8000000 in
set_option maxRecDepth 100000 in
theorem tree_words.calls (k : Nat) : ∀ (A0 : Option Addr) (c0 : Nat) (l0 : List (S38)) (r : Bool) (w : World) (hr0 : Kd.C k38 w A0 l0.length l0) (hc0 : l0.length ≤ c0) (h : tree_words.f k l0 = some r),
  Calls Try.prog 26 #[.slice A0 l0.length c0] w fun e w' => e = .returned (.bool r) ∧ Below w.heap.size w w' := by
 induction k using Nat.strongRecOn with
 | _ k ih =>
 intro A0 c0 l0 r w hr0 hc0 h
 cases k with
 | zero => exact absurd h (by simp [tree_words.f])
 | succ k =>
 simp only [tree_words.f] at h
 have hu38 := Try.underlying38
 have HR0 := Aside0.mk hr0
 have HC0 := Aside0.mk hc0
 clear hr0 hc0
 have HB := Aside0.mk (Below.refl w.heap.size w)
 have H : (tree_words.l0 k l0 (l0.length : Int) 0) = some r := h
 clear h
 have H' := Aside0.mk H
 clear H
 go_enter Try.func26, Try.ntmps26
 go_wp2
 go_loopg [9] k (fun kq v9 w' => ∃ (x9_1 : Int), v9 = .int .i64 x9_1 ∧ Aside0 (tree_words.l0 kq l0 (l0.length : Int) x9_1 = some r) ∧ Aside0 (kq ≤ k) ∧ Aside0 (Below w.heap.size w w'))
 case atStart => exact ⟨(0), (by first | rfl | (simp; done) | (simp [*]; done)), H', ⟨Nat.le_refl _⟩, ⟨by repeat (first | (with_reducible first | exact HB.out | apply below_alloc | apply pw_below_drewN | apply below_drew1) | exact HB.out)⟩⟩
 case round =>
  clear H'
  obtain ⟨x9_1, rfl, HA, HK1, HB⟩ := hrel
  cases gk with
  | zero => exact absurd HA.out (by simp [tree_words.l0])
  | succ k1 =>
   have H := HA.out
   clear HA
   simp only [tree_words.l0] at H
   by_cases c2 : x9_1 < (l0.length : Int)
   ·rw [if_pos c2] at H
    have c2b0 : decide (x9_1 < (l0.length : Int)) = true := decide_eq_true c2
    clear c2
    by_cases c3 : 0 ≤ x9_1
    ·rw [if_pos c3] at H
     have c3b0 : decide (0 ≤ x9_1) = true := decide_eq_true c3
     clear c3
     by_cases c4 : x9_1 < (l0.length : Int)
     ·rw [if_pos c4] at H
      have c4b0 : decide (x9_1 < (l0.length : Int)) = true := decide_eq_true c4
      clear c4
      have HC5 := Aside0.mk H
      clear H
      have p179 : 0 ≤ (x9_1 : Int) := of_decide_eq_true (by first | (with_reducible assumption) | assumption)
      have q179 : x9_1 < (l0.length : Int) := of_decide_eq_true (by first | (with_reducible assumption) | assumption)
      obtain ⟨ad179, A179_2, c179_2, e179, hx179_0, hx179_1, hx179_2, hx179_3, hl179_2, hi179_2⟩ := at_T38 HR0.out x9_1 p179 q179
      cases e179
      replace hx179_0 := (HB.out.cell (World.block_lt_of_cell? w _ hx179_0)).trans hx179_0
      replace hx179_1 := (HB.out.cell (World.block_lt_of_cell? w _ hx179_1)).trans hx179_1
      replace hx179_2 := (HB.out.cell (World.block_lt_of_cell? w _ hx179_2)).trans hx179_2
      replace hx179_3 := (HB.out.cell (World.block_lt_of_cell? w _ hx179_3)).trans hx179_3
      have HR179_2 := Aside0.mk hi179_2
      have HC179_2 := Aside0.mk hl179_2
      clear hi179_2 hl179_2
      replace p179 := eq_true p179
      replace q179 := eq_true q179
      go_upto_region 4 with (first | ((with_reducible refine gate_dst (N := 4) rfl ?_); (try (refine gate_guard (by rfl) ?_; dsimp only)); refine box_event ?hg (N := 4) ?hd (cs := #[.bool false, .string (⟨#[]⟩ : ByteArray), .slice none 0 0, .int .i64 0]) (t := 38) ?hr ?_; (case hd => rfl); (case hg => rfl); (case hr => first | (go_simp; done) | (go_simp; rfl)); intro gb180 hg w6 hbox hb; have n0_ := Aside0.mk (below_step (by repeat (first | (with_reducible first | exact HB.out | apply below_alloc | apply pw_below_drewN | apply below_drew1) | exact HB.out)) hb); have n1_ := Aside0.mk (hbox); have n2_ := Aside0.mk ((by rw [hg]; exact (below_size (by repeat (first | (with_reducible first | exact HB.out | apply below_alloc | apply pw_below_drewN | apply below_drew1) | exact HB.out))) : w.heap.size ≤ gb180)); have n3_ := Aside0.mk ((by rw [hg]; exact (below_size (by repeat (first | (with_reducible first | exact HB.out | apply below_alloc | apply pw_below_drewN | apply below_drew1) | exact HB.out))) : w.heap.size ≤ gb180)); clear HB; have HB := n0_; have BK180 := n1_; have GW180 := n2_; have GE180 := n3_; clear n0_ n1_ n2_ n3_; clear hb hbox hg; have hcz7_0 : w6.cell? ⟨gb180, 0, none⟩ = some (.bool false) := (blk_cell BK180.out 0).trans rfl; have hcz7_1 : w6.cell? ⟨gb180, 1, none⟩ = some (.string (⟨#[]⟩ : ByteArray)) := (blk_cell BK180.out 1).trans rfl; have hcz7_2 : w6.cell? ⟨gb180, 2, none⟩ = some (.slice none 0 0) := (blk_cell BK180.out 2).trans rfl; have hcz7_3 : w6.cell? ⟨gb180, 3, none⟩ = some (.int .i64 0) := (blk_cell BK180.out 3).trans rfl; have hfz7_0 := blk_frozen BK180.out 0; have hfz7_1 := blk_frozen BK180.out 1; have hfz7_2 := blk_frozen BK180.out 2; have hfz7_3 := blk_frozen BK180.out 3))
      (try simp only [Act.put, List.setIfInBounds_toArray, List.set_cons_zero, List.set_cons_succ])
      go_cut [21] (fun v21 wc => ∃ (kq : Nat) (x21_4 : Bool), v21 = .bool x21_4 ∧ Aside0 (tree_words.j1 kq l0 (l0.length : Int) x9_1 x21_4 ((rd_T38 l0 x9_1).f0) ((rd_T38 l0 x9_1).f1) ((rd_T38 l0 x9_1).f2) ((rd_T38 l0 x9_1).f3) = some r) ∧ Aside0 (kq ≤ k1) ∧ Aside0 (wc.heap[gb180]? = some (.cells #[.bool ((rd_T38 l0 x9_1).f0), .string ((rd_T38 l0 x9_1).f1), (.slice A179_2 ((rd_T38 l0 x9_1).f2).length c179_2), .int .i64 ((rd_T38 l0 x9_1).f3)] 38 (0, 0))) ∧ Aside0 (Below w.heap.size w wc))
      case first =>
       have H := HC5.out
       clear HC5
       obtain ⟨bq8, hbq8⟩ : ∃ b_ : Bool, b_ = ((rd_T38 l0 x9_1).f0) := ⟨_, rfl⟩
       replace H : (if (bq8 = true) then (tree_words.j1 k1 l0 (l0.length : Int) x9_1 false bq8 ((rd_T38 l0 x9_1).f1) ((rd_T38 l0 x9_1).f2) ((rd_T38 l0 x9_1).f3)) else (tree_words.j1 k1 l0 (l0.length : Int) x9_1 (decide ((((rd_T38 l0 x9_1).f2).length : Int) > 0)) bq8 ((rd_T38 l0 x9_1).f1) ((rd_T38 l0 x9_1).f2) ((rd_T38 l0 x9_1).f3))) = some r := by rw [← hbq8] at H; exact H
       have Nbq8 := Aside0.mk hbq8
       clear hbq8
       (try rw [← Nbq8.out])
       by_cases c9 : (bq8 = true)
       ·subst c9
        have H1 : (tree_words.j1 k1 l0 (l0.length : Int) x9_1 false true ((rd_T38 l0 x9_1).f1) ((rd_T38 l0 x9_1).f2) ((rd_T38 l0 x9_1).f3)) = some r := by rw [if_pos rfl] at H; exact H
        clear H
        have H := H1
        clear H1
        have H' := Aside0.mk H
        clear H
        have hcz10_0 : w6.cell? ⟨gb180, 0, none⟩ = some (.bool false) := (blk_cell BK180.out 0).trans rfl
        have hcz10_1 : w6.cell? ⟨gb180, 1, none⟩ = some (.string (⟨#[]⟩ : ByteArray)) := (blk_cell BK180.out 1).trans rfl
        have hcz10_2 : w6.cell? ⟨gb180, 2, none⟩ = some (.slice none 0 0) := (blk_cell BK180.out 2).trans rfl
        have hcz10_3 : w6.cell? ⟨gb180, 3, none⟩ = some (.int .i64 0) := (blk_cell BK180.out 3).trans rfl
        have hfz10_0 := blk_frozen BK180.out 0
        have hfz10_1 := blk_frozen BK180.out 1
        have hfz10_2 := blk_frozen BK180.out 2
        have hfz10_3 := blk_frozen BK180.out 3
        go_wp2
        go_meet
        case rel => (try rw [← Nbq8.out]); exact ⟨_, (false), (by first | rfl | (simp; done) | (simp [*]; done)), H', ⟨by have := HK1.out; first | omega | exact Nat.le_refl _⟩, ⟨by (with_reducible repeat (first | refine blk_drewN ?_ _ | refine blk_drew ?_ | refine blk_alloc ?_ _)); refine blk_put (cs := #[.bool (true), .string ((rd_T38 l0 x9_1).f1), .slice A179_2 ((rd_T38 l0 x9_1).f2).length c179_2, .int .i64 0]) ?_ 3 _ rfl; (with_reducible repeat (first | refine blk_drewN ?_ _ | refine blk_drew ?_ | refine blk_alloc ?_ _)); refine blk_put (cs := #[.bool (true), .string ((rd_T38 l0 x9_1).f1), .slice none 0 0, .int .i64 0]) ?_ 2 _ rfl; (with_reducible repeat (first | refine blk_drewN ?_ _ | refine blk_drew ?_ | refine blk_alloc ?_ _)); refine blk_put (cs := #[.bool (true), .string (⟨#[]⟩ : ByteArray), .slice none 0 0, .int .i64 0]) ?_ 1 _ rfl; (with_reducible repeat (first | refine blk_drewN ?_ _ | refine blk_drew ?_ | refine blk_alloc ?_ _)); refine blk_put (cs := #[.bool false, .string (⟨#[]⟩ : ByteArray), .slice none 0 0, .int .i64 0]) ?_ 0 _ rfl; (with_reducible repeat (first | refine blk_drewN ?_ _ | refine blk_drew ?_ | refine blk_alloc ?_ _)); exact BK180.out⟩, ⟨by repeat (first | (with_reducible first | exact HB.out | apply below_alloc | apply pw_below_drewN | apply below_drew1 | refine below_set ?_ GE180.out) | exact HB.out)⟩⟩
       ·replace c9 := Bool.eq_false_iff.mpr c9
        subst c9
        have H1 : (tree_words.j1 k1 l0 (l0.length : Int) x9_1 (decide ((((rd_T38 l0 x9_1).f2).length : Int) > 0)) false ((rd_T38 l0 x9_1).f1) ((rd_T38 l0 x9_1).f2) ((rd_T38 l0 x9_1).f3)) = some r := by rw [if_neg (show ¬ (false = true) by decide)] at H; exact H
        clear H
        have H := H1
        clear H1
        have H' := Aside0.mk H
        clear H
        have hcz11_0 : w6.cell? ⟨gb180, 0, none⟩ = some (.bool false) := (blk_cell BK180.out 0).trans rfl
        have hcz11_1 : w6.cell? ⟨gb180, 1, none⟩ = some (.string (⟨#[]⟩ : ByteArray)) := (blk_cell BK180.out 1).trans rfl
        have hcz11_2 : w6.cell? ⟨gb180, 2, none⟩ = some (.slice none 0 0) := (blk_cell BK180.out 2).trans rfl
        have hcz11_3 : w6.cell? ⟨gb180, 3, none⟩ = some (.int .i64 0) := (blk_cell BK180.out 3).trans rfl
        have hfz11_0 := blk_frozen BK180.out 0
        have hfz11_1 := blk_frozen BK180.out 1
        have hfz11_2 := blk_frozen BK180.out 2
        have hfz11_3 := blk_frozen BK180.out 3
        go_wp2
        go_meet
        case rel => (try rw [← Nbq8.out]); exact ⟨_, (decide ((((rd_T38 l0 x9_1).f2).length : Int) > 0)), (by first | rfl | (simp; done) | (simp [*]; done)), H', ⟨by have := HK1.out; first | omega | exact Nat.le_refl _⟩, ⟨by (with_reducible repeat (first | refine blk_drewN ?_ _ | refine blk_drew ?_ | refine blk_alloc ?_ _)); refine blk_put (cs := #[.bool (false), .string ((rd_T38 l0 x9_1).f1), .slice A179_2 ((rd_T38 l0 x9_1).f2).length c179_2, .int .i64 0]) ?_ 3 _ rfl; (with_reducible repeat (first | refine blk_drewN ?_ _ | refine blk_drew ?_ | refine blk_alloc ?_ _)); refine blk_put (cs := #[.bool (false), .string ((rd_T38 l0 x9_1).f1), .slice none 0 0, .int .i64 0]) ?_ 2 _ rfl; (with_reducible repeat (first | refine blk_drewN ?_ _ | refine blk_drew ?_ | refine blk_alloc ?_ _)); refine blk_put (cs := #[.bool (false), .string (⟨#[]⟩ : ByteArray), .slice none 0 0, .int .i64 0]) ?_ 1 _ rfl; (with_reducible repeat (first | refine blk_drewN ?_ _ | refine blk_drew ?_ | refine blk_alloc ?_ _)); refine blk_put (cs := #[.bool false, .string (⟨#[]⟩ : ByteArray), .slice none 0 0, .int .i64 0]) ?_ 0 _ rfl; (with_reducible repeat (first | refine blk_drewN ?_ _ | refine blk_drew ?_ | refine blk_alloc ?_ _)); exact BK180.out⟩, ⟨by repeat (first | (with_reducible first | exact HB.out | apply below_alloc | apply pw_below_drewN | apply below_drew1 | refine below_set ?_ GE180.out) | exact HB.out)⟩⟩
      case rest =>
       clear HC5
       try clear c1
       try clear p1
       try clear q1
       try clear hx1
       try clear c2
       try clear c2b0
       try clear p2
       try clear c3
       try clear c3b0
       try clear c4
       try clear c4b0
       try clear q8
       try clear c9
       try clear hcz10_0
       try clear hcz10_1
       try clear hcz10_2
       try clear hcz10_3
       try clear hcz11_0
       try clear hcz11_1
       try clear hcz11_2
       try clear hcz11_3
       try clear hcz7_0
       try clear hcz7_1
       try clear hcz7_2
       try clear hcz7_3
       try clear hfz10_0
       try clear hfz10_1
       try clear hfz10_2
       try clear hfz10_3
       try clear hfz11_0
       try clear hfz11_1
       try clear hfz11_2
       try clear hfz11_3
       try clear hfz7_0
       try clear hfz7_1
       try clear hfz7_2
       try clear hfz7_3
       try clear hx179_0
       try clear hx179_1
       try clear hx179_2
       try clear hx179_3
       try clear p179
       try clear q179
       obtain ⟨kq, x21_4, rfl, HA, HJ4, BK180, HB⟩ := hcut
       cases kq with
       | zero => exact absurd HA.out (by simp [tree_words.j1])
       | succ kj4 =>
        have H := HA.out
        clear HA
        simp only [tree_words.j1] at H
        by_cases c12 : x21_4 = true
        ·subst c12
         have H1 : (some false) = some r := by rw [if_pos rfl] at H; exact H
         clear H
         have H := H1
         clear H1
         obtain rfl := Option.some.inj H
         go_wp2
         go_ret
         exact ⟨by first | rfl | (simp [errW_none, errW_some] <;> rfl) | (simp [*, errW_none, errW_some] <;> rfl), by repeat (first | (with_reducible first | exact HB.out | apply below_alloc | apply pw_below_drewN | apply below_drew1 | refine below_set ?_ GE180.out) | exact HB.out)⟩
        ·replace c12 := Bool.eq_false_iff.mpr c12
         subst c12
         have H1 : (tree_words.l1 kj4 l0 (l0.length : Int) x9_1 ((rd_T38 l0 x9_1).f2) (((rd_T38 l0 x9_1).f2).length : Int) 0) = some r := by rw [if_neg (show ¬ (false = true) by decide)] at H; exact H
         clear H
         have H := H1
         clear H1
         have H' := Aside0.mk H
         clear H
         have hcz13_0 : wc.cell? ⟨gb180, 0, none⟩ = some (.bool ((rd_T38 l0 x9_1).f0)) := (blk_cell BK180.out 0).trans rfl
         have hcz13_1 : wc.cell? ⟨gb180, 1, none⟩ = some (.string ((rd_T38 l0 x9_1).f1)) := (blk_cell BK180.out 1).trans rfl
         have hcz13_2 : wc.cell? ⟨gb180, 2, none⟩ = some (.slice A179_2 ((rd_T38 l0 x9_1).f2).length c179_2) := (blk_cell BK180.out 2).trans rfl
         have hcz13_3 : wc.cell? ⟨gb180, 3, none⟩ = some (.int .i64 ((rd_T38 l0 x9_1).f3)) := (blk_cell BK180.out 3).trans rfl
         have hfz13_0 := blk_frozen BK180.out 0
         have hfz13_1 := blk_frozen BK180.out 1
         have hfz13_2 := blk_frozen BK180.out 2
         have hfz13_3 := blk_frozen BK180.out 3
         go_wp2
         go_loopg [25] kj4 (fun kq v25 w' => ∃ (x25_3 : Int), v25 = .int .i64 x25_3 ∧ Aside0 (tree_words.l1 kq l0 (l0.length : Int) x9_1 ((rd_T38 l0 x9_1).f2) (((rd_T38 l0 x9_1).f2).length : Int) x25_3 = some r) ∧ Aside0 (kq ≤ kj4) ∧ Aside0 (w'.heap[gb180]? = some (.cells #[.bool ((rd_T38 l0 x9_1).f0), .string ((rd_T38 l0 x9_1).f1), (.slice A179_2 ((rd_T38 l0 x9_1).f2).length c179_2), .int .i64 ((rd_T38 l0 x9_1).f3)] 38 (0, 0))) ∧ Aside0 (Below w.heap.size w w'))
         case atStart => exact ⟨(0), (by first | rfl | (simp; done) | (simp [*]; done)), H', ⟨Nat.le_refl _⟩, ⟨by (with_reducible repeat (first | refine blk_drewN ?_ _ | refine blk_drew ?_ | refine blk_alloc ?_ _)); exact BK180.out⟩, ⟨by repeat (first | (with_reducible first | exact HB.out | apply below_alloc | apply pw_below_drewN | apply below_drew1 | refine below_set ?_ GE180.out) | exact HB.out)⟩⟩
         case round =>
          clear H'
          try clear c1
          try clear p1
          try clear q1
          try clear hx1
          try clear c2
          try clear c2b0
          try clear p2
          try clear c3
          try clear c3b0
          try clear c4
          try clear c4b0
          try clear q8
          try clear c9
          try clear c12
          try clear hcz10_0
          try clear hcz10_1
          try clear hcz10_2
          try clear hcz10_3
          try clear hcz11_0
          try clear hcz11_1
          try clear hcz11_2
          try clear hcz11_3
          try clear hcz13_0
          try clear hcz13_1
          try clear hcz13_2
          try clear hcz13_3
          try clear hcz7_0
          try clear hcz7_1
          try clear hcz7_2
          try clear hcz7_3
          try clear hfz10_0
          try clear hfz10_1
          try clear hfz10_2
          try clear hfz10_3
          try clear hfz11_0
          try clear hfz11_1
          try clear hfz11_2
          try clear hfz11_3
          try clear hfz13_0
          try clear hfz13_1
          try clear hfz13_2
          try clear hfz13_3
          try clear hfz7_0
          try clear hfz7_1
          try clear hfz7_2
          try clear hfz7_3
          try clear hx179_0
          try clear hx179_1
          try clear hx179_2
          try clear hx179_3
          try clear p1
          try clear p179
          try clear p2
          try clear q1
          try clear q179
          try clear q8
          obtain ⟨x25_3, rfl, HA, HK3, BK180, HB⟩ := hrel
          cases gk with
          | zero => exact absurd HA.out (by simp [tree_words.l1])
          | succ k3 =>
           have H := HA.out
           clear HA
           simp only [tree_words.l1] at H
           by_cases c14 : x25_3 < (((rd_T38 l0 x9_1).f2).length : Int)
           ·rw [if_pos c14] at H
            have c14b0 : decide (x25_3 < (((rd_T38 l0 x9_1).f2).length : Int)) = true := decide_eq_true c14
            clear c14
            by_cases c15 : 0 ≤ x25_3
            ·rw [if_pos c15] at H
             have c15b0 : decide (0 ≤ x25_3) = true := decide_eq_true c15
             clear c15
             by_cases c16 : x25_3 < (((rd_T38 l0 x9_1).f2).length : Int)
             ·rw [if_pos c16] at H
              have c16b0 : decide (x25_3 < (((rd_T38 l0 x9_1).f2).length : Int)) = true := decide_eq_true c16
              clear c16
              replace H := Option.bind_eq_some_iff.mp H
              obtain ⟨t182, A170, H⟩ := H
              replace H : (if t182 = true then (tree_words.l1 k3 l0 (l0.length : Int) x9_1 ((rd_T38 l0 x9_1).f2) (((rd_T38 l0 x9_1).f2).length : Int) (wrap64 (x25_3 + 1))) else (some false)) = some r := H
              have A17 := Aside0.mk A170
              clear A170
              by_cases c18 : t182 = true
              ·subst c18
               have H1 : (tree_words.l1 k3 l0 (l0.length : Int) x9_1 ((rd_T38 l0 x9_1).f2) (((rd_T38 l0 x9_1).f2).length : Int) (wrap64 (x25_3 + 1))) = some r := by rw [if_pos rfl] at H; exact H
               clear H
               have H := H1
               clear H1
               have H' := Aside0.mk H
               clear H
               have p181 : 0 ≤ (x25_3 : Int) := of_decide_eq_true (by first | (with_reducible assumption) | assumption)
               have q181 : x25_3 < (((rd_T38 l0 x9_1).f2).length : Int) := of_decide_eq_true (by first | (with_reducible assumption) | assumption)
               obtain ⟨ad181, A181_0, c181_0, e181, hx181_0, hl181_0, hi181_0⟩ := at_L5 HR179_2.out x25_3 p181 q181
               cases e181
               replace hx181_0 := (HB.out.cell (World.block_lt_of_cell? w _ hx181_0)).trans hx181_0
               have HR181_0 := Aside0.mk hi181_0
               have HC181_0 := Aside0.mk hl181_0
               clear hi181_0 hl181_0
               replace p181 := eq_true p181
               replace q181 := eq_true q181
               go_wp2_with (first | ((with_reducible refine gate_callee (f := 26) rfl ?_); refine goesL_ (some 30) rfl rfl Try.func26 (by kernel_rfl) rfl #[.slice A181_0 (rd_L5 ((rd_T38 l0 x9_1).f2) x25_3).length c181_0] rfl (by (try simp only [List.map_toArray, List.map_cons, List.map_nil]); first | done | rfl | (simp only [List.length_drop, List.length_take]; rfl)) ?_; (with_reducible refine (ih k3 (by have := HK1.out; have := HJ4.out; have := HK3.out; omega) _ _ (rd_L5 ((rd_T38 l0 x9_1).f2) x25_3) true _ ?side1 ?side2 A17.out).mono ?_); (case side1 => repeat (first | exact (Kd.C_below HR181_0.out HB.out) | (with_reducible refine Kd.C_alloc ?_ _) | (with_reducible refine Kd.C_drewN ?_ _) | (with_reducible refine Kd.C_drew ?_))); (case side2 => exact HC181_0.out); rintro e w19 ⟨rfl, hb⟩; refine ⟨_, rfl, ?_⟩; have n0_ := Aside0.mk (blk_below (g := gb180) (o := .cells #[.bool ((rd_T38 l0 x9_1).f0), .string ((rd_T38 l0 x9_1).f1), .slice (some ad181) ((rd_T38 l0 x9_1).f2).length c179_2, .int .i64 ((rd_T38 l0 x9_1).f3)] 38 (0, 0)) (by (with_reducible repeat (first | refine blk_drewN ?_ _ | refine blk_drew ?_ | refine blk_alloc ?_ _)); exact BK180.out) hb); have n1_ := Aside0.mk (below_step (by repeat (first | (with_reducible first | exact HB.out | apply below_alloc | apply pw_below_drewN | apply below_drew1 | refine below_set ?_ GE180.out) | exact HB.out)) hb); clear BK180; clear HB; have BK180 := n0_; have HB := n1_; clear n0_ n1_; (try clear hb); (try clear hb2); (try clear hk); (try clear hi)))
               go_roundg k3
               case measure => have := HK1.out; have := HJ4.out; have := HK3.out; omega
               case rel => (try rw [← Nbq8.out]); exact ⟨(wrap64 (x25_3 + 1)), (by first | rfl | (simp; done) | (simp [*]; done)), H', ⟨by have := HK1.out; have := HJ4.out; have := HK3.out; omega⟩, ⟨by (with_reducible repeat (first | refine blk_drewN ?_ _ | refine blk_drew ?_ | refine blk_alloc ?_ _)); exact BK180.out⟩, ⟨by repeat (first | (with_reducible first | exact HB.out | apply below_alloc | apply pw_below_drewN | apply below_drew1 | refine below_set ?_ GE180.out) | exact HB.out)⟩⟩
              ·replace c18 := Bool.eq_false_iff.mpr c18
               subst c18
               have H1 : (some false) = some r := by rw [if_neg (show ¬ (false = true) by decide)] at H; exact H
               clear H
               have H := H1
               clear H1
               obtain rfl := Option.some.inj H
               have p181 : 0 ≤ (x25_3 : Int) := of_decide_eq_true (by first | (with_reducible assumption) | assumption)
               have q181 : x25_3 < (((rd_T38 l0 x9_1).f2).length : Int) := of_decide_eq_true (by first | (with_reducible assumption) | assumption)
               obtain ⟨ad181, A181_0, c181_0, e181, hx181_0, hl181_0, hi181_0⟩ := at_L5 HR179_2.out x25_3 p181 q181
               cases e181
               replace hx181_0 := (HB.out.cell (World.block_lt_of_cell? w _ hx181_0)).trans hx181_0
               have HR181_0 := Aside0.mk hi181_0
               have HC181_0 := Aside0.mk hl181_0
               clear hi181_0 hl181_0
               replace p181 := eq_true p181
               replace q181 := eq_true q181
               go_wp2_with (first | ((with_reducible refine gate_callee (f := 26) rfl ?_); refine goesL_ (some 30) rfl rfl Try.func26 (by kernel_rfl) rfl #[.slice A181_0 (rd_L5 ((rd_T38 l0 x9_1).f2) x25_3).length c181_0] rfl (by (try simp only [List.map_toArray, List.map_cons, List.map_nil]); first | done | rfl | (simp only [List.length_drop, List.length_take]; rfl)) ?_; (with_reducible refine (ih k3 (by have := HK1.out; have := HJ4.out; have := HK3.out; omega) _ _ (rd_L5 ((rd_T38 l0 x9_1).f2) x25_3) false _ ?side1 ?side2 A17.out).mono ?_); (case side1 => repeat (first | exact (Kd.C_below HR181_0.out HB.out) | (with_reducible refine Kd.C_alloc ?_ _) | (with_reducible refine Kd.C_drewN ?_ _) | (with_reducible refine Kd.C_drew ?_))); (case side2 => exact HC181_0.out); rintro e w20 ⟨rfl, hb⟩; refine ⟨_, rfl, ?_⟩; have n0_ := Aside0.mk (blk_below (g := gb180) (o := .cells #[.bool ((rd_T38 l0 x9_1).f0), .string ((rd_T38 l0 x9_1).f1), .slice (some ad181) ((rd_T38 l0 x9_1).f2).length c179_2, .int .i64 ((rd_T38 l0 x9_1).f3)] 38 (0, 0)) (by (with_reducible repeat (first | refine blk_drewN ?_ _ | refine blk_drew ?_ | refine blk_alloc ?_ _)); exact BK180.out) hb); have n1_ := Aside0.mk (below_step (by repeat (first | (with_reducible first | exact HB.out | apply below_alloc | apply pw_below_drewN | apply below_drew1 | refine below_set ?_ GE180.out) | exact HB.out)) hb); clear BK180; clear HB; have BK180 := n0_; have HB := n1_; clear n0_ n1_; (try clear hb); (try clear hb2); (try clear hk); (try clear hi)))
               go_ret
               exact ⟨by first | rfl | (simp [errW_none, errW_some] <;> rfl) | (simp [*, errW_none, errW_some] <;> rfl), by repeat (first | (with_reducible first | exact HB.out | apply below_alloc | apply pw_below_drewN | apply below_drew1 | refine below_set ?_ GE180.out) | exact HB.out)⟩
             ·rw [if_neg c16] at H
              exact absurd H (by simp)
            ·rw [if_neg c15] at H
             exact absurd H (by simp)
           ·rw [if_neg c14] at H
            have c14b0 : decide (x25_3 < (((rd_T38 l0 x9_1).f2).length : Int)) = false := decide_eq_false c14
            clear c14
            have H' := Aside0.mk H
            clear H
            go_wp2
            go_roundg k3
            case measure => have := HK1.out; have := HJ4.out; have := HK3.out; omega
            case rel => (try rw [← Nbq8.out]); exact ⟨(wrap64 (x9_1 + 1)), (by first | rfl | (simp; done) | (simp [*]; done)), H', ⟨by have := HK1.out; have := HJ4.out; have := HK3.out; omega⟩, ⟨by repeat (first | (with_reducible first | exact HB.out | apply below_alloc | apply pw_below_drewN | apply below_drew1 | refine below_set ?_ GE180.out) | exact HB.out)⟩⟩
     ·rw [if_neg c4] at H
      exact absurd H (by simp)
    ·rw [if_neg c3] at H
     exact absurd H (by simp)
   ·rw [if_neg c2] at H
    have c2b0 : decide (x9_1 < (l0.length : Int)) = false := decide_eq_false c2
    clear c2
    obtain rfl := Option.some.inj H
    go_wp2
    go_ret
    exact ⟨by first | rfl | (simp [errW_none, errW_some] <;> rfl) | (simp [*, errW_none, errW_some] <;> rfl), by repeat (first | (with_reducible first | exact HB.out | apply below_alloc | apply pw_below_drewN | apply below_drew1) | exact HB.out)⟩

/-! ### tree_May: function 11 -/
def tree_May.f (k : Nat) (l0 : List (S38)) : Option (Bool) := (tree_Depth.f k l0).bind fun t183 => (if t183 ≤ 64 then ((tree_words.f k l0).bind fun t184 => (some t184)) else (some false))
theorem tree_May.mono : ∀ a0 k, LeO (tree_May.f k a0) (tree_May.f (k + 1) a0) := by
 intro a0 k
 unfold tree_May.f
 repeat' first
   | (with_reducible exact tree_Depth.mono _ _)
   | (with_reducible exact tree_words.mono _ _)
   | (with_reducible exact LeO.refl _)
   | (with_reducible exact LeO.none _)
   | (with_reducible refine LeO.ite ?_ ?_)
   | (with_reducible refine LeO.bind ?_ (fun _ => ?_))
   | exact tree_Depth.mono _ _
   | exact tree_words.mono _ _
   | exact LeO.none _
   | refine LeO.ite ?_ ?_
   | refine LeO.bind ?_ (fun _ => ?_)
set_option maxHeartbeats 8000000 in
set_option maxRecDepth 100000 in
theorem tree_May.calls (k : Nat) (A0 : Option Addr) (c0 : Nat) (l0 : List (S38)) (r : Bool) (w : World) (hr0 : Kd.C k38 w A0 l0.length l0) (hc0 : l0.length ≤ c0) (h : tree_May.f k l0 = some r) :
  Calls Try.prog 11 #[.slice A0 l0.length c0] w fun e w' => e = .returned (.bool r) ∧ Below w.heap.size w w' := by
 have HR0 := Aside0.mk hr0
 have HC0 := Aside0.mk hc0
 clear hr0 hc0
 have HB := Aside0.mk (Below.refl w.heap.size w)
 have H : ((tree_Depth.f k l0).bind fun t183 => (if t183 ≤ 64 then ((tree_words.f k l0).bind fun t184 => (some t184)) else (some false))) = some r := h
 clear h
 replace H := Option.bind_eq_some_iff.mp H
 obtain ⟨t183, A20, H⟩ := H
 replace H : (if t183 ≤ 64 then ((tree_words.f k l0).bind fun t184 => (some t184)) else (some false)) = some r := H
 have A2 := Aside0.mk A20
 clear A20
 by_cases c3 : t183 ≤ 64
 ·rw [if_pos c3] at H
  have c3b0 : decide (t183 ≤ 64) = true := decide_eq_true c3
  clear c3
  replace H := Option.bind_eq_some_iff.mp H
  obtain ⟨t184, A40, H⟩ := H
  replace H : (some t184) = some r := H
  have A4 := Aside0.mk A40
  clear A40
  obtain rfl := Option.some.inj H
  go_enter Try.func11, Try.ntmps11
  go_wp2_with (first | ((with_reducible refine gate_callee (f := 13) rfl ?_); refine goesL_ (some 4) rfl rfl Try.func13 (by kernel_rfl) rfl #[.slice A0 l0.length c0] rfl (by (try simp only [List.map_toArray, List.map_cons, List.map_nil]); first | done | rfl | (simp only [List.length_drop, List.length_take]; rfl)) ?_; (with_reducible refine (tree_Depth.calls k _ _ l0 t183 _ ?side1 ?side2 A2.out).mono ?_); (case side1 => repeat (first | exact HR0.out | (with_reducible refine Kd.C_alloc ?_ _) | (with_reducible refine Kd.C_drewN ?_ _) | (with_reducible refine Kd.C_drew ?_))); (case side2 => exact HC0.out); rintro e w5 ⟨rfl, hb⟩; refine ⟨_, rfl, ?_⟩; have n0_ := Aside0.mk (below_step (by repeat (first | (with_reducible first | exact HB.out | apply below_alloc | apply pw_below_drewN | apply below_drew1) | exact HB.out)) hb); clear HB; have HB := n0_; clear n0_; (try clear hb); (try clear hb2); (try clear hk); (try clear hi)) | (go_at_call 26; (with_reducible refine (tree_words.calls k _ _ l0 t184 _ ?side1 ?side2 A4.out).mono ?_); (case side1 => repeat (first | exact (Kd.C_below HR0.out HB.out) | (with_reducible refine Kd.C_alloc ?_ _) | (with_reducible refine Kd.C_drewN ?_ _) | (with_reducible refine Kd.C_drew ?_))); (case side2 => exact HC0.out); rintro e w6 ⟨rfl, hb⟩; have n0_ := Aside0.mk (below_step (by repeat (first | (with_reducible first | exact HB.out | apply below_alloc | apply pw_below_drewN | apply below_drew1) | exact HB.out)) hb); clear HB; have HB := n0_; clear n0_; (try clear hb); (try clear hb2); (try clear hk); (try clear hi)))
  go_ret
  exact ⟨by first | rfl | (simp [errW_none, errW_some] <;> rfl) | (simp [*, errW_none, errW_some] <;> rfl), by repeat (first | (with_reducible first | exact HB.out | apply below_alloc | apply pw_below_drewN | apply below_drew1) | exact HB.out)⟩
 ·rw [if_neg c3] at H
  have c3b0 : decide (t183 ≤ 64) = false := decide_eq_false c3
  clear c3
  obtain rfl := Option.some.inj H
  go_enter Try.func11, Try.ntmps11
  go_wp2_with (first | ((with_reducible refine gate_callee (f := 13) rfl ?_); refine goesL_ (some 4) rfl rfl Try.func13 (by kernel_rfl) rfl #[.slice A0 l0.length c0] rfl (by (try simp only [List.map_toArray, List.map_cons, List.map_nil]); first | done | rfl | (simp only [List.length_drop, List.length_take]; rfl)) ?_; (with_reducible refine (tree_Depth.calls k _ _ l0 t183 _ ?side1 ?side2 A2.out).mono ?_); (case side1 => repeat (first | exact HR0.out | (with_reducible refine Kd.C_alloc ?_ _) | (with_reducible refine Kd.C_drewN ?_ _) | (with_reducible refine Kd.C_drew ?_))); (case side2 => exact HC0.out); rintro e w7 ⟨rfl, hb⟩; refine ⟨_, rfl, ?_⟩; have n0_ := Aside0.mk (below_step (by repeat (first | (with_reducible first | exact HB.out | apply below_alloc | apply pw_below_drewN | apply below_drew1) | exact HB.out)) hb); clear HB; have HB := n0_; clear n0_; (try clear hb); (try clear hb2); (try clear hk); (try clear hi)))
  go_ret
  exact ⟨by first | rfl | (simp [errW_none, errW_some] <;> rfl) | (simp [*, errW_none, errW_some] <;> rfl), by repeat (first | (with_reducible first | exact HB.out | apply below_alloc | apply pw_below_drewN | apply below_drew1) | exact HB.out)⟩

/-! ### tree.Flat: functions 30 (its closure), 27 (walk with it) and 15, by hand -/
theorem tFlat.info : (Try.prog.info? 44).map (fun i => (i.zero, i.size, i.bytes)) = some (some (.agg #[(.int .i64 0), (.string ⟨#[]⟩), (.int .i64 0)]), 3, 32) := by kernel_rfl
def tFlat.tell (K : Int) (n : S38) (xs : List S44) : Option (List S44) := if xs.length < 4398046511104 then some (xs ++ [(⟨K, (if K = 0 then n.f1 else if K = 1 then n.f1 else (⟨#[]⟩ : ByteArray)), n.f3⟩ : S44)]) else none
mutual
def tFlat.f : Nat → List S38 → Int → List S44 → Option (List S44)
 | 0, _, _, _ => none
 | k + 1, l, d, xs => tFlat.l0 k l d xs 0
def tFlat.l0 : Nat → List S38 → Int → List S44 → Int → Option (List S44)
 | 0, _, _, _, _ => none
 | k + 1, l, d, xs, i => if i < (l.length : Int) then (if 0 ≤ i then (if (rd_T38 l i).f0 = true then ((tFlat.tell 1 (rd_T38 l i) xs).bind fun ys => if d = 0 then tFlat.l0 k l d ys (wrap64 (i + 1)) else tFlat.l1 k l d ys i 0) else ((tFlat.tell 0 (rd_T38 l i) xs).bind fun ys => tFlat.l0 k l d ys (wrap64 (i + 1)))) else none) else some xs
def tFlat.l1 : Nat → List S38 → Int → List S44 → Int → Int → Option (List S44)
 | 0, _, _, _, _, _ => none
 | k + 1, l, d, xs, i, j => if j < ((rd_T38 l i).f2.length : Int) then (if 0 ≤ j then ((tFlat.tell 2 (rd_T38 l i) xs).bind fun x1 => (tFlat.f k (rd_L5 (rd_T38 l i).f2 j) (wrap64 (d - 1)) x1).bind fun x2 => (tFlat.tell 3 (rd_T38 l i) x2).bind fun x3 => tFlat.l1 k l d x3 i (wrap64 (j + 1))) else none) else tFlat.l0 k l d xs (wrap64 (i + 1))
end
theorem tFlat.mono_l : ∀ k, (∀ l d xs, LeO (tFlat.f k l d xs) (tFlat.f (k + 1) l d xs)) ∧ (∀ l d xs i, LeO (tFlat.l0 k l d xs i) (tFlat.l0 (k + 1) l d xs i)) ∧ (∀ l d xs i j, LeO (tFlat.l1 k l d xs i j) (tFlat.l1 (k + 1) l d xs i j))
 | 0 => ⟨fun _ _ _ r h => by simp [tFlat.f] at h, fun _ _ _ _ r h => by simp [tFlat.l0] at h, fun _ _ _ _ _ r h => by simp [tFlat.l1] at h⟩
 | k + 1 => by
  obtain ⟨ih0, ih1, ih2⟩ := tFlat.mono_l k
  refine ⟨?_, ?_, ?_⟩
  ·intro l d xs
   unfold tFlat.f
   exact ih1 _ _ _ _
  ·intro l d xs i
   unfold tFlat.l0
   repeat' first | (with_reducible first | exact ih0 _ _ _ | exact ih1 _ _ _ _ | exact ih2 _ _ _ _ _ | exact LeO.refl _ | exact LeO.none _ | refine LeO.ite ?_ ?_ | refine LeO.bind ?_ (fun _ => ?_)) | exact LeO.none _ | refine LeO.ite ?_ ?_ | refine LeO.bind ?_ (fun _ => ?_)
  ·intro l d xs i j
   unfold tFlat.l1
   repeat' first | (with_reducible first | exact ih0 _ _ _ | exact ih1 _ _ _ _ | exact ih2 _ _ _ _ _ | exact LeO.refl _ | exact LeO.none _ | refine LeO.ite ?_ ?_ | refine LeO.bind ?_ (fun _ => ?_)) | exact LeO.none _ | refine LeO.ite ?_ ?_ | refine LeO.bind ?_ (fun _ => ?_)
set_option maxHeartbeats 8000000 in
set_option maxRecDepth 100000 in
theorem tFlat.clo (w0 w : World) (gb : Nat) (K : Int) (n : S38) (A2 : Option Addr) (c2 : Nat) (v : Value) (xs ys : List S44) (hb : w.heap[gb]? = some (.cells #[v] 22 (0, 0))) (hgb : w0.heap.size ≤ gb) (ho : Kd.R k44 44 w w0.heap.size (fun _ => True) v xs) (hB : Below w0.heap.size w0 w) (h : tFlat.tell K n xs = some ys) :
  Calls Try.prog 30 #[.int .i64 K, .agg #[.bool n.f0, .string n.f1, .slice A2 n.f2.length c2, .int .i64 n.f3], .pointer (some ⟨gb, 0, none⟩)] w fun e w' => e = .returned (.tuple #[]) ∧ ∃ v' : Value, w'.heap[gb]? = some (.cells #[v'] 22 (0, 0)) ∧ Kd.R k44 44 w' w0.heap.size (fun _ => True) v' ys ∧ Below w0.heap.size w0 w' ∧ Keep38 w w' := by
 have hu := Try.underlying22
 have hu38 := Try.underlying38
 have hu44 := Try.underlying44
 obtain ⟨A9, k9, e9⟩ := Kd.R_slice ho
 subst e9
 have BK := Aside0.mk hb
 have GE := Aside0.mk hgb
 have HO := Aside0.mk ho
 have HB := Aside0.mk hB
 have H2 := Aside0.mk (show (if xs.length < 4398046511104 then some (xs ++ [(⟨K, (if K = 0 then n.f1 else if K = 1 then n.f1 else (⟨#[]⟩ : ByteArray)), n.f3⟩ : S44)]) else none) = some ys from h)
 clear hb hgb ho hB h
 go_enter Try.func30, Try.ntmps30
 go_upto_region 1 with ((with_reducible refine gate_dst (N := 4) rfl ?_); refine box_event ?hg (N := 4) ?hd (cs := #[.bool n.f0, .string n.f1, .slice A2 n.f2.length c2, .int .i64 n.f3]) (t := 38) ?hr ?_; (case hd => rfl); (case hg => rfl); (case hr => first | (go_simp; done) | (go_simp; rfl)); intro g4 hg w1 hbox hb; have B4 := Aside0.mk hbox; have nBK := Aside0.mk (blk_below BK.out hb); have nHO := Aside0.mk (Kd.R_below HO.out hb); have nHB := Aside0.mk (below_then HB.out HB.out.size hb); have K1 := Aside0.mk (Keep38.below hb); clear hg hbox hb; clear BK HO HB; have BK := nBK; have HO := nHO; have HB := nHB; clear nBK nHO nHB)
 have h43 : w1.cell? ⟨g4, 3, none⟩ = some (.int .i64 n.f3) := (blk_cell B4.out 3).trans rfl
 go_upto_region 2 with ((with_reducible refine gate_dst (N := 5) rfl ?_); refine box_event ?hg (N := 5) ?hd (cs := #[.int .i64 0, .string ⟨#[]⟩, .int .i64 0]) (t := 44) ?hr ?_; (case hd => rfl); (case hg => rfl); (case hr => first | (go_simp; done) | (go_simp; rfl)); intro g5 hg w2 hbox hb; have B5 := Aside0.mk hbox; have G5 := Aside0.mk (show w0.heap.size ≤ g5 by rw [hg]; exact HB.out.size); have N5 := Aside0.mk (show ∀ (k : Nat) (cs : Array Value), w.heap[k]? = some (.cells cs 38 (0, 0)) → k ≠ g5 from fun k cs hk => by rw [hg]; exact Nat.ne_of_lt (blk_lt (K1.out k cs hk))); have NB5 := Aside0.mk (show gb ≠ g5 by rw [hg]; exact Nat.ne_of_lt (blk_lt BK.out)); have N45 := Aside0.mk (show g4 ≠ g5 by rw [hg]; exact Nat.ne_of_lt (blk_lt B4.out)); have nHO := Aside0.mk (Kd.R_below (Kd.R_elderB HO.out g5 (by rw [hg]; exact Nat.le_refl _)) hb); have nBK := Aside0.mk (blk_below BK.out hb); have nHB := Aside0.mk (below_then HB.out HB.out.size hb); have nK1 := Aside0.mk (Keep38.trans K1.out (Keep38.below hb)); have nB4 := Aside0.mk (blk_below B4.out hb); clear hg hbox hb h43; clear BK HO HB K1 B4; have BK := nBK; have HO := nHO; have HB := nHB; have K1 := nK1; have B4 := nB4; clear nBK nHO nHB nK1 nB4; have hz0 : w2.cell? ⟨g5, 0, none⟩ = some (.int .i64 0) := (blk_cell B5.out 0).trans rfl; have hz1 : w2.cell? ⟨g5, 1, none⟩ = some (.string ⟨#[]⟩) := (blk_cell B5.out 1).trans rfl; have hz2 : w2.cell? ⟨g5, 2, none⟩ = some (.int .i64 0) := (blk_cell B5.out 2).trans rfl; have hzf0 := blk_frozen B5.out 0; have hzf1 := blk_frozen B5.out 1; have hzf2 := blk_frozen B5.out 2)
 obtain ⟨w3, hw_⟩ : ∃ w_, w_ = (((w2.setCell ⟨g5, 0, none⟩ (.int .i64 K)).setCell ⟨g5, 1, none⟩ (.string ⟨#[]⟩)).setCell ⟨g5, 2, none⟩ (.int .i64 n.f3)) := ⟨_, rfl⟩
 rw [← hw_]
 have nBK := Aside0.mk (show w3.heap[gb]? = some (.cells #[.slice A9 xs.length k9] 22 (0, 0)) by rw [hw_]; exact blk_far (blk_far (blk_far (BK.out) (p := ⟨g5, 0, none⟩) NB5.out _) (p := ⟨g5, 1, none⟩) NB5.out _) (p := ⟨g5, 2, none⟩) NB5.out _)
 have nHO := Aside0.mk (show Kd.R k44 44 w3 w0.heap.size (fun k => True ∧ k ≠ g5) (.slice A9 xs.length k9) xs by rw [hw_]; exact Kd.R_far (Kd.R_far (Kd.R_far (HO.out) (p := ⟨g5, 0, none⟩) (fun _ h_ => h_.2) _) (p := ⟨g5, 1, none⟩) (fun _ h_ => h_.2) _) (p := ⟨g5, 2, none⟩) (fun _ h_ => h_.2) _)
 have nHB := Aside0.mk (show Below w0.heap.size w0 w3 by rw [hw_]; exact Below.setCell (Below.setCell (Below.setCell (HB.out) G5.out _) G5.out _) G5.out _)
 have nK1 := Aside0.mk (show Keep38 w w3 from fun k cs hk => by rw [hw_]; exact blk_far (blk_far (blk_far (K1.out k cs hk) (p := ⟨g5, 0, none⟩) (N5.out k cs hk) _) (p := ⟨g5, 1, none⟩) (N5.out k cs hk) _) (p := ⟨g5, 2, none⟩) (N5.out k cs hk) _)
 have nB4 := Aside0.mk (show w3.heap[g4]? = some (.cells #[.bool n.f0, .string n.f1, .slice A2 n.f2.length c2, .int .i64 n.f3] 38 (0, 0)) by rw [hw_]; exact blk_far (blk_far (blk_far (B4.out) (p := ⟨g5, 0, none⟩) N45.out _) (p := ⟨g5, 1, none⟩) N45.out _) (p := ⟨g5, 2, none⟩) N45.out _)
 have nB5 := Aside0.mk (show w3.heap[g5]? = some (.cells #[.int .i64 K, .string ⟨#[]⟩, .int .i64 n.f3] 44 (0, 0)) by rw [hw_]; exact blk_put (cs := #[.int .i64 K, .string ⟨#[]⟩, .int .i64 0]) (blk_put (cs := #[.int .i64 K, .string ⟨#[]⟩, .int .i64 0]) (blk_put (cs := #[.int .i64 0, .string ⟨#[]⟩, .int .i64 0]) (B5.out) 0 _ rfl) 1 _ rfl) 2 _ rfl)
 clear hw_ hz0 hzf0 hz1 hzf1 hz2 hzf2
 clear BK HO HB K1 B4 B5
 have BK := nBK
 have HO := nHO
 have HB := nHB
 have K1 := nK1
 have B4 := nB4
 have B5 := nB5
 clear nBK nHO nHB nK1 nB4 nB5
 have H := H2.out
 clear H2
 by_cases lm : xs.length < 4398046511104
 rotate_left
 ·rw [if_neg lm] at H
  exact absurd H (by simp)
 rw [if_pos lm] at H
 have LM := Aside0.mk lm
 clear lm
 by_cases z : K = 0
 ·rw [if_pos z] at H
  obtain rfl := Option.some.inj H
  have zb : (K == 0) = true := beq_iff_eq.mpr z
  clear H z
  have h41 : w3.cell? ⟨g4, 1, none⟩ = some (.string n.f1) := (blk_cell B4.out 1).trans rfl
  have h51 : w3.cell? ⟨g5, 1, none⟩ = some (.string ⟨#[]⟩) := (blk_cell B5.out 1).trans rfl
  have hf51 := blk_frozen B5.out 1
  go_upto_region 4 with (fail)
  clear h41 h51 hf51
  obtain ⟨w4, hw_⟩ : ∃ w_, w_ = (w3.setCell ⟨g5, 1, none⟩ (.string n.f1)) := ⟨_, rfl⟩
  rw [← hw_]
  have nBK := Aside0.mk (show w4.heap[gb]? = some (.cells #[.slice A9 xs.length k9] 22 (0, 0)) by rw [hw_]; exact blk_far BK.out (p := ⟨g5, 1, none⟩) NB5.out _)
  have nHO := Aside0.mk (show Kd.R k44 44 w4 w0.heap.size (fun k => True ∧ k ≠ g5) (.slice A9 xs.length k9) xs by rw [hw_]; exact Kd.R_far HO.out (p := ⟨g5, 1, none⟩) (fun _ h_ => h_.2) _)
  have nHB := Aside0.mk (show Below w0.heap.size w0 w4 by rw [hw_]; exact Below.setCell HB.out G5.out _)
  have nK1 := Aside0.mk (show Keep38 w w4 from fun k cs hk => by rw [hw_]; exact blk_far (K1.out k cs hk) (p := ⟨g5, 1, none⟩) (N5.out k cs hk) _)
  have nB5 := Aside0.mk (show w4.heap[g5]? = some (.cells #[.int .i64 K, .string n.f1, .int .i64 n.f3] 44 (0, 0)) by rw [hw_]; exact blk_put (cs := #[.int .i64 K, .string ⟨#[]⟩, .int .i64 n.f3]) B5.out 1 _ rfl)
  clear hw_
  clear BK HO HB K1 B5
  have BK := nBK
  have HO := nHO
  have HB := nHB
  have K1 := nK1
  have B5 := nB5
  clear nBK nHO nHB nK1 nB5
  have hc0 : w4.cell? ⟨gb, 0, none⟩ = some (.slice A9 xs.length k9) := (blk_cell BK.out 0).trans rfl
  have hf0 := blk_frozen BK.out 0
  have h50 : w4.cell? ⟨g5, 0, none⟩ = some (.int .i64 K) := (blk_cell B5.out 0).trans rfl
  have h51 : w4.cell? ⟨g5, 1, none⟩ = some (.string n.f1) := (blk_cell B5.out 1).trans rfl
  have h52 : w4.cell? ⟨g5, 2, none⟩ = some (.int .i64 n.f3) := (blk_cell B5.out 2).trans rfl
  go_wp2_with ((with_reducible refine gate_builtin (b := .append) (xs := #[.tmp 19, .tmp 21]) rfl ?_); at_builtin; refine Kd.R_append k44 (w0 := w0) w0.heap.size rfl (.tmp 19) (.tmp 21) 22 44 (.agg #[(.int .i64 0), (.string ⟨#[]⟩), (.int .i64 0)]) 32 rfl Try.underlying22 tFlat.info rfl (by decide) (by omega) (.slice A9 xs.length k9) xs (⟨K, n.f1, n.f3⟩ : S44) [.int .i64 K, .string n.f1, .int .i64 n.f3] (fun k => True ∧ k ≠ g5) (fun _ => False) rfl rfl ?aP (fun _ hk => hk.elim) ?aF ?aO ?aB ?aS ?aL ?_; (case aP => exact k44_mkM _ _ _ (⟨K, n.f1, n.f3⟩ : S44)); (case aF => exact (fun k hk => ⟨trivial, fun e => by have := blk_lt B5.out; omega⟩)); (case aO => exact HO.out); (case aB => exact HB.out); (case aS => exact HB.out.size); (case aL => have := LM.out; omega); intro v1 w5 ho hb hg hat; have K5 := Aside0.mk (show Keep38 w w5 from fun k cs hk => blk_grown (K1.out k cs hk) hg (Kd.R_ne HO.out (K1.out k cs hk) (by decide))); have BK5 := Aside0.mk (blk_grown BK.out hg (Kd.R_ne HO.out BK.out (by decide))); have HO5 := Aside0.mk ho; have HB5 := Aside0.mk hb; clear ho hb hg hat hc0 hf0 h50 h51 h52; have hd0 : w5.cell? ⟨gb, 0, none⟩ = some (.slice A9 xs.length k9) := (blk_cell BK5.out 0).trans rfl; have hg0 := blk_frozen BK5.out 0; obtain ⟨A5, k5, e5⟩ := Kd.R_slice HO5.out; rw [List.length_append] at e5; subst e5)
  go_end0
  exact ⟨rfl, _, blk_put BK5.out 0 _ rfl, Kd.R_set (Kd.R_mono HO5.out (fun _ _ => trivial)) BK5.out (by decide) 0 _, Below.setCell HB5.out GE.out _, fun k cs hk => blk_far (K5.out k cs hk) (p := ⟨gb, 0, none⟩) (blk_ne (K5.out k cs hk) BK5.out (by decide)) _⟩
 rw [if_neg z] at H
 have zb : (K == 0) = false := beq_eq_false_iff_ne.mpr z
 clear z
 by_cases z1 : K = 1
 ·rw [if_pos z1] at H
  obtain rfl := Option.some.inj H
  have z1b : (K == 1) = true := beq_iff_eq.mpr z1
  clear H z1
  have h41 : w3.cell? ⟨g4, 1, none⟩ = some (.string n.f1) := (blk_cell B4.out 1).trans rfl
  have h51 : w3.cell? ⟨g5, 1, none⟩ = some (.string ⟨#[]⟩) := (blk_cell B5.out 1).trans rfl
  have hf51 := blk_frozen B5.out 1
  go_upto_region 4 with (fail)
  clear h41 h51 hf51
  obtain ⟨w4, hw_⟩ : ∃ w_, w_ = (w3.setCell ⟨g5, 1, none⟩ (.string n.f1)) := ⟨_, rfl⟩
  rw [← hw_]
  have nBK := Aside0.mk (show w4.heap[gb]? = some (.cells #[.slice A9 xs.length k9] 22 (0, 0)) by rw [hw_]; exact blk_far BK.out (p := ⟨g5, 1, none⟩) NB5.out _)
  have nHO := Aside0.mk (show Kd.R k44 44 w4 w0.heap.size (fun k => True ∧ k ≠ g5) (.slice A9 xs.length k9) xs by rw [hw_]; exact Kd.R_far HO.out (p := ⟨g5, 1, none⟩) (fun _ h_ => h_.2) _)
  have nHB := Aside0.mk (show Below w0.heap.size w0 w4 by rw [hw_]; exact Below.setCell HB.out G5.out _)
  have nK1 := Aside0.mk (show Keep38 w w4 from fun k cs hk => by rw [hw_]; exact blk_far (K1.out k cs hk) (p := ⟨g5, 1, none⟩) (N5.out k cs hk) _)
  have nB5 := Aside0.mk (show w4.heap[g5]? = some (.cells #[.int .i64 K, .string n.f1, .int .i64 n.f3] 44 (0, 0)) by rw [hw_]; exact blk_put (cs := #[.int .i64 K, .string ⟨#[]⟩, .int .i64 n.f3]) B5.out 1 _ rfl)
  clear hw_
  clear BK HO HB K1 B5
  have BK := nBK
  have HO := nHO
  have HB := nHB
  have K1 := nK1
  have B5 := nB5
  clear nBK nHO nHB nK1 nB5
  have hc0 : w4.cell? ⟨gb, 0, none⟩ = some (.slice A9 xs.length k9) := (blk_cell BK.out 0).trans rfl
  have hf0 := blk_frozen BK.out 0
  have h50 : w4.cell? ⟨g5, 0, none⟩ = some (.int .i64 K) := (blk_cell B5.out 0).trans rfl
  have h51 : w4.cell? ⟨g5, 1, none⟩ = some (.string n.f1) := (blk_cell B5.out 1).trans rfl
  have h52 : w4.cell? ⟨g5, 2, none⟩ = some (.int .i64 n.f3) := (blk_cell B5.out 2).trans rfl
  go_wp2_with ((with_reducible refine gate_builtin (b := .append) (xs := #[.tmp 19, .tmp 21]) rfl ?_); at_builtin; refine Kd.R_append k44 (w0 := w0) w0.heap.size rfl (.tmp 19) (.tmp 21) 22 44 (.agg #[(.int .i64 0), (.string ⟨#[]⟩), (.int .i64 0)]) 32 rfl Try.underlying22 tFlat.info rfl (by decide) (by omega) (.slice A9 xs.length k9) xs (⟨K, n.f1, n.f3⟩ : S44) [.int .i64 K, .string n.f1, .int .i64 n.f3] (fun k => True ∧ k ≠ g5) (fun _ => False) rfl rfl ?aP (fun _ hk => hk.elim) ?aF ?aO ?aB ?aS ?aL ?_; (case aP => exact k44_mkM _ _ _ (⟨K, n.f1, n.f3⟩ : S44)); (case aF => exact (fun k hk => ⟨trivial, fun e => by have := blk_lt B5.out; omega⟩)); (case aO => exact HO.out); (case aB => exact HB.out); (case aS => exact HB.out.size); (case aL => have := LM.out; omega); intro v1 w5 ho hb hg hat; have K5 := Aside0.mk (show Keep38 w w5 from fun k cs hk => blk_grown (K1.out k cs hk) hg (Kd.R_ne HO.out (K1.out k cs hk) (by decide))); have BK5 := Aside0.mk (blk_grown BK.out hg (Kd.R_ne HO.out BK.out (by decide))); have HO5 := Aside0.mk ho; have HB5 := Aside0.mk hb; clear ho hb hg hat hc0 hf0 h50 h51 h52; have hd0 : w5.cell? ⟨gb, 0, none⟩ = some (.slice A9 xs.length k9) := (blk_cell BK5.out 0).trans rfl; have hg0 := blk_frozen BK5.out 0; obtain ⟨A5, k5, e5⟩ := Kd.R_slice HO5.out; rw [List.length_append] at e5; subst e5)
  go_end0
  exact ⟨rfl, _, blk_put BK5.out 0 _ rfl, Kd.R_set (Kd.R_mono HO5.out (fun _ _ => trivial)) BK5.out (by decide) 0 _, Below.setCell HB5.out GE.out _, fun k cs hk => blk_far (K5.out k cs hk) (p := ⟨gb, 0, none⟩) (blk_ne (K5.out k cs hk) BK5.out (by decide)) _⟩
 ·rw [if_neg z1] at H
  obtain rfl := Option.some.inj H
  have z1b : (K == 1) = false := beq_eq_false_iff_ne.mpr z1
  clear H z1
  have hc0 : w3.cell? ⟨gb, 0, none⟩ = some (.slice A9 xs.length k9) := (blk_cell BK.out 0).trans rfl
  have hf0 := blk_frozen BK.out 0
  have h50 : w3.cell? ⟨g5, 0, none⟩ = some (.int .i64 K) := (blk_cell B5.out 0).trans rfl
  have h51 : w3.cell? ⟨g5, 1, none⟩ = some (.string (⟨#[]⟩ : ByteArray)) := (blk_cell B5.out 1).trans rfl
  have h52 : w3.cell? ⟨g5, 2, none⟩ = some (.int .i64 n.f3) := (blk_cell B5.out 2).trans rfl
  go_wp2_with ((with_reducible refine gate_builtin (b := .append) (xs := #[.tmp 19, .tmp 21]) rfl ?_); at_builtin; refine Kd.R_append k44 (w0 := w0) w0.heap.size rfl (.tmp 19) (.tmp 21) 22 44 (.agg #[(.int .i64 0), (.string ⟨#[]⟩), (.int .i64 0)]) 32 rfl Try.underlying22 tFlat.info rfl (by decide) (by omega) (.slice A9 xs.length k9) xs (⟨K, (⟨#[]⟩ : ByteArray), n.f3⟩ : S44) [.int .i64 K, .string (⟨#[]⟩ : ByteArray), .int .i64 n.f3] (fun k => True ∧ k ≠ g5) (fun _ => False) rfl rfl ?aP (fun _ hk => hk.elim) ?aF ?aO ?aB ?aS ?aL ?_; (case aP => exact k44_mkM _ _ _ (⟨K, (⟨#[]⟩ : ByteArray), n.f3⟩ : S44)); (case aF => exact (fun k hk => ⟨trivial, fun e => by have := blk_lt B5.out; omega⟩)); (case aO => exact HO.out); (case aB => exact HB.out); (case aS => exact HB.out.size); (case aL => have := LM.out; omega); intro v1 w5 ho hb hg hat; have K5 := Aside0.mk (show Keep38 w w5 from fun k cs hk => blk_grown (K1.out k cs hk) hg (Kd.R_ne HO.out (K1.out k cs hk) (by decide))); have BK5 := Aside0.mk (blk_grown BK.out hg (Kd.R_ne HO.out BK.out (by decide))); have HO5 := Aside0.mk ho; have HB5 := Aside0.mk hb; clear ho hb hg hat hc0 hf0 h50 h51 h52; have hd0 : w5.cell? ⟨gb, 0, none⟩ = some (.slice A9 xs.length k9) := (blk_cell BK5.out 0).trans rfl; have hg0 := blk_frozen BK5.out 0; obtain ⟨A5, k5, e5⟩ := Kd.R_slice HO5.out; rw [List.length_append] at e5; subst e5)
  go_end0
  exact ⟨rfl, _, blk_put BK5.out 0 _ rfl, Kd.R_set (Kd.R_mono HO5.out (fun _ _ => trivial)) BK5.out (by decide) 0 _, Below.setCell HB5.out GE.out _, fun k cs hk => blk_far (K5.out k cs hk) (p := ⟨gb, 0, none⟩) (blk_ne (K5.out k cs hk) BK5.out (by decide)) _⟩
def tFlat.S (k : Nat) : Prop := ∀ (w0 w : World) (gb : Nat) (A : Option Addr) (c : Nat) (l : List S38) (d : Int) (v : Value) (xs ys : List S44), Kd.C k38 w0 A l.length l → l.length ≤ c → w.heap[gb]? = some (.cells #[v] 22 (0, 0)) → w0.heap.size ≤ gb → Kd.R k44 44 w w0.heap.size (fun _ => True) v xs → Below w0.heap.size w0 w → tFlat.f k l d xs = some ys →
  Calls Try.prog 27 #[.slice A l.length c, .int .i64 d, .func (.func 30) #[] #[.pointer (some ⟨gb, 0, none⟩)]] w fun e w' => e = .returned (.tuple #[]) ∧ ∃ v' : Value, w'.heap[gb]? = some (.cells #[v'] 22 (0, 0)) ∧ Kd.R k44 44 w' w0.heap.size (fun _ => True) v' ys ∧ Below w0.heap.size w0 w' ∧ Keep38 w w'
set_option maxHeartbeats 8000000 in
set_option maxRecDepth 100000 in
theorem tFlat.step (kk : Nat) (ih : ∀ m, m < kk → tFlat.S m) : tFlat.S kk := by
 intro w0 w gb A c l d v xs ys hr hc hb hgb ho hB h
 have hu := Try.underlying22
 have hu23 := Try.underlying23
 have hu36 := Try.underlying36
 have hu38 := Try.underlying38
 have hu54 := Try.underlying54
 cases kk with
 | zero => exact absurd h (by simp [tFlat.f])
 | succ k =>
  have IH := Aside0.mk ih
  have HR := Aside0.mk hr
  have HC := Aside0.mk hc
  have BK := Aside0.mk hb
  have GE := Aside0.mk hgb
  have HO := Aside0.mk ho
  have HB := Aside0.mk hB
  have KP := Aside0.mk (Keep38.refl w)
  have H' := Aside0.mk (show tFlat.l0 k l d xs 0 = some ys from h)
  clear hr hc hb hgb ho hB h ih
  go_enter Try.func27, Try.ntmps27
  go_wp2
  go_loopg [12] k (fun kq v12 w' => ∃ (i : Int) (v : Value) (xs : List S44), v12 = .int .i64 i ∧ Aside0 (tFlat.l0 kq l d xs i = some ys) ∧ Aside0 (kq ≤ k) ∧ Aside0 (w'.heap[gb]? = some (.cells #[v] 22 (0, 0))) ∧ Aside0 (Kd.R k44 44 w' w0.heap.size (fun _ => True) v xs) ∧ Aside0 (Below w0.heap.size w0 w') ∧ Aside0 (Keep38 w w'))
  case atStart => exact ⟨0, v, xs, rfl, H', ⟨Nat.le_refl _⟩, BK, HO, HB, KP⟩
  case round =>
   clear H' BK HO HB KP v xs
   obtain ⟨i, v, xs, rfl, HA, HK0, BK, HO, HB, KP⟩ := hrel
   cases gk with
   | zero => exact absurd HA.out (by simp [tFlat.l0])
   | succ k1 =>
    have H := HA.out
    clear HA
    simp only [tFlat.l0] at H
    by_cases c5 : i < (l.length : Int)
    rotate_left
    ·rw [if_neg c5] at H
     obtain rfl := Option.some.inj H
     have c5b := decide_eq_false c5
     replace c5 := eq_false c5
     clear H
     go_wp2
     go_end0
     exact ⟨rfl, v, BK.out, HO.out, HB.out, KP.out⟩
    rw [if_pos c5] at H
    by_cases c6 : 0 ≤ i
    rotate_left
    ·rw [if_neg c6] at H
     exact absurd H (by simp)
    rw [if_pos c6] at H
    obtain ⟨ad, A2, c2, e1, hx0, hx1, hx2, hx3, hl2, hg2⟩ := at_T38 HR.out i c6 c5
    cases e1
    replace hx0 := (HB.out.cell (World.block_lt_of_cell? w0 _ hx0)).trans hx0
    replace hx1 := (HB.out.cell (World.block_lt_of_cell? w0 _ hx1)).trans hx1
    replace hx2 := (HB.out.cell (World.block_lt_of_cell? w0 _ hx2)).trans hx2
    replace hx3 := (HB.out.cell (World.block_lt_of_cell? w0 _ hx3)).trans hx3
    generalize hn : rd_T38 l i = n at H hx0 hx1 hx2 hx3 hl2 hg2
    obtain ⟨f0, f1, f2, f3⟩ := n
    dsimp only at H hx0 hx1 hx2 hx3 hl2 hg2
    have HN := Aside0.mk hn
    have HL2 := Aside0.mk hl2
    have HG2 := Aside0.mk hg2
    have H2 := Aside0.mk H
    clear H hn hl2 hg2
    have c5b := decide_eq_true c5
    replace c6 := eq_true c6
    replace c5 := eq_true c5
    go_upto_region 3 with ((with_reducible refine gate_dst (N := 7) rfl ?_); refine box_event ?hg (N := 7) ?hd (cs := #[.bool false, .string ⟨#[]⟩, .slice none 0 0, .int .i64 0]) (t := 38) ?hr ?_; (case hd => rfl); (case hg => rfl); (case hr => first | (go_simp; done) | (go_simp; rfl)); intro g7 hg w3 hbox hb; have B7 := Aside0.mk hbox; have G7 := Aside0.mk (show w0.heap.size ≤ g7 by rw [hg]; exact HB.out.size); have N7 := Aside0.mk (show ∀ (k : Nat) (cs : Array Value), w.heap[k]? = some (.cells cs 38 (0, 0)) → k ≠ g7 from fun k cs hk => by rw [hg]; exact Nat.ne_of_lt (blk_lt (KP.out k cs hk))); have NB := Aside0.mk (show gb ≠ g7 by rw [hg]; exact Nat.ne_of_lt (blk_lt BK.out)); have nBK := Aside0.mk (blk_below BK.out hb); have nHO := Aside0.mk (Kd.R_below HO.out hb); have nHB := Aside0.mk (below_then HB.out HB.out.size hb); have nKP := Aside0.mk (Keep38.trans KP.out (Keep38.below hb)); replace hx0 := (hb.cell (World.block_lt_of_cell? _ _ hx0)).trans hx0; replace hx1 := (hb.cell (World.block_lt_of_cell? _ _ hx1)).trans hx1; replace hx2 := (hb.cell (World.block_lt_of_cell? _ _ hx2)).trans hx2; replace hx3 := (hb.cell (World.block_lt_of_cell? _ _ hx3)).trans hx3; clear hg hbox hb; clear BK HO HB KP; have BK := nBK; have HO := nHO; have HB := nHB; have KP := nKP; clear nBK nHO nHB nKP; have hz0 : w3.cell? ⟨g7, 0, none⟩ = some (.bool false) := (blk_cell B7.out 0).trans rfl; have hz1 : w3.cell? ⟨g7, 1, none⟩ = some (.string ⟨#[]⟩) := (blk_cell B7.out 1).trans rfl; have hz2 : w3.cell? ⟨g7, 2, none⟩ = some (.slice none 0 0) := (blk_cell B7.out 2).trans rfl; have hz3 : w3.cell? ⟨g7, 3, none⟩ = some (.int .i64 0) := (blk_cell B7.out 3).trans rfl; have hzf0 := blk_frozen B7.out 0; have hzf1 := blk_frozen B7.out 1; have hzf2 := blk_frozen B7.out 2; have hzf3 := blk_frozen B7.out 3)
    obtain ⟨w4, hw_⟩ : ∃ w_, w_ = ((((w3.setCell ⟨g7, 0, none⟩ (.bool f0)).setCell ⟨g7, 1, none⟩ (.string f1)).setCell ⟨g7, 2, none⟩ (.slice A2 f2.length c2)).setCell ⟨g7, 3, none⟩ (.int .i64 f3)) := ⟨_, rfl⟩
    rw [← hw_]
    have nBK := Aside0.mk (show w4.heap[gb]? = some (.cells #[v] 22 (0, 0)) by rw [hw_]; exact blk_far (blk_far (blk_far (blk_far (BK.out) (p := ⟨g7, 0, none⟩) NB.out _) (p := ⟨g7, 1, none⟩) NB.out _) (p := ⟨g7, 2, none⟩) NB.out _) (p := ⟨g7, 3, none⟩) NB.out _)
    have nHO := Aside0.mk (show Kd.R k44 44 w4 w0.heap.size (fun _ => True) v xs by rw [hw_]; exact Kd.R_set (Kd.R_set (Kd.R_set (Kd.R_set (HO.out) (B7.out) (by decide) 0 _) (blk_put (cs := #[.bool false, .string ⟨#[]⟩, .slice none 0 0, .int .i64 0]) (B7.out) 0 _ rfl) (by decide) 1 _) (blk_put (cs := #[.bool f0, .string ⟨#[]⟩, .slice none 0 0, .int .i64 0]) (blk_put (cs := #[.bool false, .string ⟨#[]⟩, .slice none 0 0, .int .i64 0]) (B7.out) 0 _ rfl) 1 _ rfl) (by decide) 2 _) (blk_put (cs := #[.bool f0, .string f1, .slice none 0 0, .int .i64 0]) (blk_put (cs := #[.bool f0, .string ⟨#[]⟩, .slice none 0 0, .int .i64 0]) (blk_put (cs := #[.bool false, .string ⟨#[]⟩, .slice none 0 0, .int .i64 0]) (B7.out) 0 _ rfl) 1 _ rfl) 2 _ rfl) (by decide) 3 _)
    have nHB := Aside0.mk (show Below w0.heap.size w0 w4 by rw [hw_]; exact Below.setCell (Below.setCell (Below.setCell (Below.setCell (HB.out) G7.out _) G7.out _) G7.out _) G7.out _)
    have nKP := Aside0.mk (show Keep38 w w4 from fun k cs hk => by rw [hw_]; exact blk_far (blk_far (blk_far (blk_far (KP.out k cs hk) (p := ⟨g7, 0, none⟩) (N7.out k cs hk) _) (p := ⟨g7, 1, none⟩) (N7.out k cs hk) _) (p := ⟨g7, 2, none⟩) (N7.out k cs hk) _) (p := ⟨g7, 3, none⟩) (N7.out k cs hk) _)
    have nB7 := Aside0.mk (show w4.heap[g7]? = some (.cells #[.bool f0, .string f1, .slice A2 f2.length c2, .int .i64 f3] 38 (0, 0)) by rw [hw_]; exact blk_put (cs := #[.bool f0, .string f1, .slice A2 f2.length c2, .int .i64 0]) (blk_put (cs := #[.bool f0, .string f1, .slice none 0 0, .int .i64 0]) (blk_put (cs := #[.bool f0, .string ⟨#[]⟩, .slice none 0 0, .int .i64 0]) (blk_put (cs := #[.bool false, .string ⟨#[]⟩, .slice none 0 0, .int .i64 0]) (B7.out) 0 _ rfl) 1 _ rfl) 2 _ rfl) 3 _ rfl)
    clear hw_ hx0 hx1 hx2 hx3 hz0 hzf0 hz1 hzf1 hz2 hzf2 hz3 hzf3
    clear BK HO HB KP B7
    have BK := nBK
    have HO := nHO
    have HB := nHB
    have KP := nKP
    have B7 := nB7
    clear nBK nHO nHB nKP nB7
    have H := H2.out
    clear H2
    cases f0 with
    | false =>
     rw [if_neg (by decide)] at H
     obtain ⟨y1, ht, H⟩ := Option.bind_eq_some_iff.mp H
     have HT := Aside0.mk ht
     have H' := Aside0.mk H
     clear ht H
     have h70 : w4.cell? ⟨g7, 0, none⟩ = some (.bool false) := (blk_cell B7.out 0).trans rfl
     have h71 : w4.cell? ⟨g7, 1, none⟩ = some (.string f1) := (blk_cell B7.out 1).trans rfl
     have h72 : w4.cell? ⟨g7, 2, none⟩ = some (.slice A2 f2.length c2) := (blk_cell B7.out 2).trans rfl
     have h73 : w4.cell? ⟨g7, 3, none⟩ = some (.int .i64 f3) := (blk_cell B7.out 3).trans rfl
     go_wp2_with (go_at_call 30; refine (tFlat.clo w0 _ gb 0 (⟨false, f1, f2, f3⟩ : S38) A2 c2 v xs y1 BK.out GE.out HO.out HB.out HT.out).mono ?_; rintro e w5 ⟨rfl, v', hb, ho, hB, hk⟩; have nBK := Aside0.mk hb; have nHO := Aside0.mk ho; have nHB := Aside0.mk hB; have nKP := Aside0.mk (Keep38.trans KP.out hk); have nB7 := Aside0.mk (hk _ _ B7.out); clear hb ho hB hk; clear BK HO HB KP B7; have BK := nBK; have HO := nHO; have HB := nHB; have KP := nKP; have B7 := nB7; clear nBK nHO nHB nKP nB7; clear h70 h71 h72 h73)
     go_roundg k1
     case measure => omega
     case rel => exact ⟨_, _, y1, rfl, H', ⟨by have := HK0.out; omega⟩, BK, HO, HB, KP⟩
    | true =>
     rw [if_pos rfl] at H
     obtain ⟨y1, ht, H⟩ := Option.bind_eq_some_iff.mp H
     have HT := Aside0.mk ht
     have H2 := Aside0.mk H
     clear ht H
     have h70 : w4.cell? ⟨g7, 0, none⟩ = some (.bool true) := (blk_cell B7.out 0).trans rfl
     have h71 : w4.cell? ⟨g7, 1, none⟩ = some (.string f1) := (blk_cell B7.out 1).trans rfl
     have h72 : w4.cell? ⟨g7, 2, none⟩ = some (.slice A2 f2.length c2) := (blk_cell B7.out 2).trans rfl
     have h73 : w4.cell? ⟨g7, 3, none⟩ = some (.int .i64 f3) := (blk_cell B7.out 3).trans rfl
     go_upto_region 6 with (go_at_call 30; refine (tFlat.clo w0 _ gb 1 (⟨true, f1, f2, f3⟩ : S38) A2 c2 v xs y1 BK.out GE.out HO.out HB.out HT.out).mono ?_; rintro e w5 ⟨rfl, v', hb, ho, hB, hk⟩; have nBK := Aside0.mk hb; have nHO := Aside0.mk ho; have nHB := Aside0.mk hB; have nKP := Aside0.mk (Keep38.trans KP.out hk); have nB7 := Aside0.mk (hk _ _ B7.out); clear hb ho hB hk; clear BK HO HB KP B7; have BK := nBK; have HO := nHO; have HB := nHB; have KP := nKP; have B7 := nB7; clear nBK nHO nHB nKP nB7; clear h70 h71 h72 h73)
     have H := H2.out
     clear H2
     by_cases z : d = 0
     ·rw [if_pos z] at H
      have zb : (d == 0) = true := beq_iff_eq.mpr z
      have H' := Aside0.mk H
      clear H z
      go_wp2
      go_roundg k1
      case measure => omega
      case rel => exact ⟨_, _, y1, rfl, H', ⟨by have := HK0.out; omega⟩, BK, HO, HB, KP⟩
     rw [if_neg z] at H
     have zb : (d == 0) = false := beq_eq_false_iff_ne.mpr z
     have H' := Aside0.mk H
     clear H z
     have h70 : w5.cell? ⟨g7, 0, none⟩ = some (.bool true) := (blk_cell B7.out 0).trans rfl
     have h71 : w5.cell? ⟨g7, 1, none⟩ = some (.string f1) := (blk_cell B7.out 1).trans rfl
     have h72 : w5.cell? ⟨g7, 2, none⟩ = some (.slice A2 f2.length c2) := (blk_cell B7.out 2).trans rfl
     have h73 : w5.cell? ⟨g7, 3, none⟩ = some (.int .i64 f3) := (blk_cell B7.out 3).trans rfl
     go_wp2
     clear zb
     clear h70 h71 h72 h73
     go_loopg [30] k1 (fun kq v30 w' => ∃ (j : Int) (v : Value) (xs : List S44), v30 = .int .i64 j ∧ Aside0 (tFlat.l1 kq l d xs i j = some ys) ∧ Aside0 (kq ≤ k1) ∧ Aside0 (w'.heap[gb]? = some (.cells #[v] 22 (0, 0))) ∧ Aside0 (Kd.R k44 44 w' w0.heap.size (fun _ => True) v xs) ∧ Aside0 (Below w0.heap.size w0 w') ∧ Aside0 (Keep38 w w') ∧ Aside0 (w'.heap[g7]? = some (.cells #[.bool true, .string f1, .slice A2 f2.length c2, .int .i64 f3] 38 (0, 0))))
     case atStart => exact ⟨0, _, y1, rfl, H', ⟨Nat.le_refl _⟩, BK, HO, HB, KP, B7⟩
     case round =>
      clear H' BK HO HB KP B7 HT
      obtain ⟨j, v2, x0, rfl, HA, HK1, BK, HO, HB, KP, B7⟩ := hrel
      cases gk with
      | zero => exact absurd HA.out (by simp [tFlat.l1])
      | succ k2 =>
       have H := HA.out
       clear HA
       simp only [tFlat.l1, HN.out] at H
       by_cases d5 : j < (f2.length : Int)
       rotate_left
       ·rw [if_neg d5] at H
        have H' := Aside0.mk H
        have d5b := decide_eq_false d5
        replace d5 := eq_false d5
        clear H
        go_wp2
        go_roundg k2
        case measure => (have := HK1.out; omega)
        case rel => exact ⟨_, v2, x0, rfl, H', ⟨by have := HK0.out; have := HK1.out; omega⟩, BK, HO, HB, KP⟩
       rw [if_pos d5] at H
       by_cases d6 : 0 ≤ j
       rotate_left
       ·rw [if_neg d6] at H
        exact absurd H (by simp)
       rw [if_pos d6] at H
       obtain ⟨x1, ht1, H⟩ := Option.bind_eq_some_iff.mp H
       obtain ⟨x2, hw2, H⟩ := Option.bind_eq_some_iff.mp H
       obtain ⟨x3, ht3, H⟩ := Option.bind_eq_some_iff.mp H
       have HT1 := Aside0.mk ht1
       have HW2 := Aside0.mk hw2
       have HT3 := Aside0.mk ht3
       have H' := Aside0.mk H
       clear ht1 hw2 ht3 H
       obtain ⟨ad2, A3, c3, e2, hy0, hl3, hg3⟩ := at_L5 HG2.out j d6 d5
       cases e2
       replace hy0 := (HB.out.cell (World.block_lt_of_cell? w0 _ hy0)).trans hy0
       have HL3 := Aside0.mk hl3
       have HG3 := Aside0.mk hg3
       clear hl3 hg3
       have d5b := decide_eq_true d5
       replace d6 := eq_true d6
       replace d5 := eq_true d5
       have h70 : wr.cell? ⟨g7, 0, none⟩ = some (.bool true) := (blk_cell B7.out 0).trans rfl
       have h71 : wr.cell? ⟨g7, 1, none⟩ = some (.string f1) := (blk_cell B7.out 1).trans rfl
       have h72 : wr.cell? ⟨g7, 2, none⟩ = some (.slice (some ad2) f2.length c2) := (blk_cell B7.out 2).trans rfl
       have h73 : wr.cell? ⟨g7, 3, none⟩ = some (.int .i64 f3) := (blk_cell B7.out 3).trans rfl
       go_upto_region 11 with (go_at_call 30; refine (tFlat.clo w0 _ gb 2 (⟨true, f1, f2, f3⟩ : S38) (some ad2) c2 _ x0 x1 BK.out GE.out HO.out HB.out HT1.out).mono ?_; rintro e w6 ⟨rfl, v', hb, ho, hB, hk⟩; have nBK := Aside0.mk hb; have nHO := Aside0.mk ho; have nHB := Aside0.mk hB; have nKP := Aside0.mk (Keep38.trans KP.out hk); have nB7 := Aside0.mk (hk _ _ B7.out); clear hb ho hB hk; clear BK HO HB KP B7; have BK := nBK; have HO := nHO; have HB := nHB; have KP := nKP; have B7 := nB7; clear nBK nHO nHB nKP nB7; clear h70 h71 h72 h73)
       go_upto_region 12 with (go_at_call 27; refine (IH.out k2 (by have := HK0.out; have := HK1.out; omega) w0 _ gb A3 c3 (rd_L5 f2 j) (wrap64 (d - 1)) _ x1 x2 HG3.out HL3.out BK.out GE.out HO.out HB.out HW2.out).mono ?_; rintro e w7 ⟨rfl, v4, hb, ho, hB, hk⟩; have nBK := Aside0.mk hb; have nHO := Aside0.mk ho; have nHB := Aside0.mk hB; have nKP := Aside0.mk (Keep38.trans KP.out hk); have nB7 := Aside0.mk (hk _ _ B7.out); clear hb ho hB hk; clear BK HO HB KP B7; have BK := nBK; have HO := nHO; have HB := nHB; have KP := nKP; have B7 := nB7; clear nBK nHO nHB nKP nB7)
       have h70 : w7.cell? ⟨g7, 0, none⟩ = some (.bool true) := (blk_cell B7.out 0).trans rfl
       have h71 : w7.cell? ⟨g7, 1, none⟩ = some (.string f1) := (blk_cell B7.out 1).trans rfl
       have h72 : w7.cell? ⟨g7, 2, none⟩ = some (.slice (some ad2) f2.length c2) := (blk_cell B7.out 2).trans rfl
       have h73 : w7.cell? ⟨g7, 3, none⟩ = some (.int .i64 f3) := (blk_cell B7.out 3).trans rfl
       go_wp2_with (go_at_call 30; refine (tFlat.clo w0 _ gb 3 (⟨true, f1, f2, f3⟩ : S38) (some ad2) c2 _ x2 x3 BK.out GE.out HO.out HB.out HT3.out).mono ?_; rintro e w8 ⟨rfl, v', hb, ho, hB, hk⟩; have nBK := Aside0.mk hb; have nHO := Aside0.mk ho; have nHB := Aside0.mk hB; have nKP := Aside0.mk (Keep38.trans KP.out hk); have nB7 := Aside0.mk (hk _ _ B7.out); clear hb ho hB hk; clear BK HO HB KP B7; have BK := nBK; have HO := nHO; have HB := nHB; have KP := nKP; have B7 := nB7; clear nBK nHO nHB nKP nB7; clear h70 h71 h72 h73)
       go_roundg k2
       case measure => omega
       case rel => exact ⟨_, _, x3, rfl, H', ⟨by have := HK1.out; omega⟩, BK, HO, HB, KP, B7⟩
theorem tFlat.walk : ∀ k, tFlat.S k := by
 intro k
 induction k using Nat.strongRecOn with
 | _ k ih => exact tFlat.step k ih
/-! tree.Flat -/
def tree_Flat.f (k : Nat) (l0 : List (S38)) : Option (List S44) := tFlat.f k l0 100 []
theorem tree_Flat.mono : ∀ a0 k, LeO (tree_Flat.f k a0) (tree_Flat.f (k + 1) a0) := fun a0 k => (tFlat.mono_l k).1 _ _ _
set_option maxHeartbeats 8000000 in
set_option maxRecDepth 100000 in
theorem tree_Flat.calls (k : Nat) (A0 : Option Addr) (c0 : Nat) (l0 : List (S38)) (r : List S44) (w : World) (hr0 : Kd.C k38 w A0 l0.length l0) (hc0 : l0.length ≤ c0) (h : tree_Flat.f k l0 = some r) :
  Calls Try.prog 15 #[.slice A0 l0.length c0] w fun e w' => ∃ v0_ : Value, e = .returned v0_ ∧ Kd.R k44 44 w' w.heap.size (fun _ => True) v0_ r ∧ Below w.heap.size w w' := by
 have hu := Try.underlying22
 have hu23 := Try.underlying23
 have hu54 := Try.underlying54
 have hmf : ∀ (fn : Fn) (first cap : Array Value) (w : World), (Instr.makeFunc fn first cap).run Try.prog w = .ok (.func fn first cap) w := fun _ _ _ _ => rfl
 have HR0 := Aside0.mk hr0
 have HC0 := Aside0.mk hc0
 have H2 := Aside0.mk (show tFlat.f k l0 100 [] = some r from h)
 clear hr0 hc0 h
 go_enter Try.func15, Try.ntmps15
 go_wp2_with (first | ((with_reducible refine gate_dst (N := 3) rfl ?_); refine box_event ?hg (N := 3) ?hd (cs := #[.slice none 0 0]) (t := 22) ?hr ?_; (case hd => rfl); (case hg => rfl); (case hr => first | (go_simp; done) | (go_simp; rfl)); intro gb hg w1 hbox hb; have BK := Aside0.mk hbox; have HB := Aside0.mk hb; have GE := Aside0.mk (show w.heap.size ≤ gb by rw [hg]; exact Nat.le_refl _); clear hg hbox hb) | (go_at_call 27; refine (tFlat.walk k w _ gb A0 c0 l0 100 _ [] r HR0.out HC0.out BK.out GE.out ⟨fun k hk => by simp [Value.ownBlock] at hk, OwnRow.none_ _ _ _ _ _⟩ HB.out H2.out).mono ?_; rintro e w2 ⟨rfl, v2, hb, ho, hB, hk⟩; have nBK := Aside0.mk hb; have HO := Aside0.mk ho; have nHB := Aside0.mk hB; clear hb ho hB hk BK HB; have BK := nBK; have HB := nHB; clear nBK nHB; have hc0 : w2.cell? ⟨gb, 0, none⟩ = some v2 := (blk_cell BK.out 0).trans rfl))
 refine bodyPost_ret (results_tmp rfl _ _ _) rfl ?_
 exact ⟨_, rfl, HO.out, HB.out⟩

end Go.Proofs.Ytjppjlhhdfkloaa.PTp

/- Written by a program of this session: functions of the given program as plain Lean functions, the walks that show it, and the row of each law, for every input that its statement speaks of. -/
import Derived.Test.YtjiljpddkfcdbaaGreatDoorPLxx0
import Derived.Test.YtjiljpddkfcdbaaGreatDoorPLxx3
import Derived.Test.YtjiljpddkfcdbaaGreatDoorPLxx5
namespace Go.Proofs.YtjiljpddkfcdbaaGreatDoor.PLx
open Go.RowKit Go.Proofs.YtjiljpddkfcdbaaGreatDoorW.PrintWords Go.Proofs.YtjiljpddkfcdbaaGreatDoorW.PrintLast Go.Proofs.YtjiljpddkfcdbaaGreatDoorW.PrintMore
attribute [local go_sem] max2_int min2_int max_two min_two max_three min_three max_four min_four   -- for this text's walks alone
set_option linter.unusedVariables false
set_option linter.unusedSimpArgs false

/-! ### variorumref05_May: function 15 -/
mutual
def variorumref05_May.l0 : Nat → List (S38) → Int → Option (Bool)
 | 0, _, _ => none
 | k + 1, x0, x3 => if x3 < (x0.length : Int) then (if 0 ≤ x3 then (if ((rd_T38 x0 x3).f0) < 0 then (variorumref05_May.j1 k x0 x3 true ((rd_T38 x0 x3).f0) ((rd_T38 x0 x3).f1) ((rd_T38 x0 x3).f2)) else (if ((rd_T38 x0 x3).f0) > 3 then (variorumref05_May.j1 k x0 x3 true ((rd_T38 x0 x3).f0) ((rd_T38 x0 x3).f1) ((rd_T38 x0 x3).f2)) else (if ((rd_T38 x0 x3).f0) > 1 then (if ((rd_T38 x0 x3).f1).toList = ([] : List UInt8) then (if ((rd_T38 x0 x3).f0) < 2 then (variorumref05_May.j1 k x0 x3 (((rd_T38 x0 x3).f1).toList == ([] : List UInt8)) ((rd_T38 x0 x3).f0) ((rd_T38 x0 x3).f1) ((rd_T38 x0 x3).f2)) else (variorumref05_May.j1 k x0 x3 false ((rd_T38 x0 x3).f0) ((rd_T38 x0 x3).f1) ((rd_T38 x0 x3).f2))) else (variorumref05_May.j1 k x0 x3 true ((rd_T38 x0 x3).f0) ((rd_T38 x0 x3).f1) ((rd_T38 x0 x3).f2))) else (if ((rd_T38 x0 x3).f0) < 2 then (variorumref05_May.j1 k x0 x3 (((rd_T38 x0 x3).f1).toList == ([] : List UInt8)) ((rd_T38 x0 x3).f0) ((rd_T38 x0 x3).f1) ((rd_T38 x0 x3).f2)) else (variorumref05_May.j1 k x0 x3 false ((rd_T38 x0 x3).f0) ((rd_T38 x0 x3).f1) ((rd_T38 x0 x3).f2)))))) else (none)) else (some true)
def variorumref05_May.j1 : Nat → List (S38) → Int → Bool → Int → ByteArray → Int → Option (Bool)
 | 0, _, _, _, _, _, _ => none
 | k + 1, x0, x3, x45, x213000, x213001, x213002 => if x45 = true then (some false) else ((variorumref04_Decode.f k x213001).bind fun bt213 => (if bt213.2.1 = 0 then (variorumref05_May.l1 k x0 x3 0 x213000 x213001 x213002) else (some false)))
def variorumref05_May.l1 : Nat → List (S38) → Int → Int → Int → ByteArray → Int → Option (Bool)
 | 0, _, _, _, _, _, _ => none
 | k + 1, x0, x3, x7, x213000, x213001, x213002 => if x7 < (x213001.size : Int) then (if x213000 = 0 then (if 0 ≤ x7 then ((variorumref05_Blank.f (bt x213001 x7)).bind fun t219 => (if t219 = true then (some false) else (if x213000 = 1 then ((variorumref05_Letter.f (bt x213001 x7)).bind fun t220 => (if t220 = true then (variorumref05_May.l1 k x0 x3 (wrap64 (x7 + 1)) x213000 x213001 x213002) else (some false))) else (variorumref05_May.l1 k x0 x3 (wrap64 (x7 + 1)) x213000 x213001 x213002)))) else (none)) else (if x213000 = 1 then (if 0 ≤ x7 then ((variorumref05_Letter.f (bt x213001 x7)).bind fun t221 => (if t221 = true then (variorumref05_May.l1 k x0 x3 (wrap64 (x7 + 1)) x213000 x213001 x213002) else (some false))) else (none)) else (variorumref05_May.l1 k x0 x3 (wrap64 (x7 + 1)) x213000 x213001 x213002))) else (variorumref05_May.l0 k x0 (wrap64 (x3 + 1)))
end
def variorumref05_May.f (k : Nat) (l0 : List (S38)) : Option (Bool) := variorumref05_May.l0 k l0 0
theorem variorumref05_May.mono_l : ∀ k, (∀ y0 y1, LeO (variorumref05_May.l0 k y0 y1) (variorumref05_May.l0 (k + 1) y0 y1)) ∧ (∀ y0 y1 y2 y3 y4 y5, LeO (variorumref05_May.j1 k y0 y1 y2 y3 y4 y5) (variorumref05_May.j1 (k + 1) y0 y1 y2 y3 y4 y5)) ∧ (∀ y0 y1 y2 y3 y4 y5, LeO (variorumref05_May.l1 k y0 y1 y2 y3 y4 y5) (variorumref05_May.l1 (k + 1) y0 y1 y2 y3 y4 y5))
 | 0 => ⟨fun _ _ r h => by simp [variorumref05_May.l0] at h, fun _ _ _ _ _ _ r h => by simp [variorumref05_May.j1] at h, fun _ _ _ _ _ _ r h => by simp [variorumref05_May.l1] at h⟩
 | k + 1 => by
  obtain ⟨ih0, ih1, ih2⟩ := variorumref05_May.mono_l k
  refine ⟨?_, ?_, ?_⟩
  ·intro y0 y1
   unfold variorumref05_May.l0
   repeat' first
   | (with_reducible exact ih0 _ _)
   | (with_reducible exact ih1 _ _ _ _ _ _)
   | (with_reducible exact ih2 _ _ _ _ _ _)
   | (with_reducible exact variorumref04_Decode.mono _ _)
   | (with_reducible exact LeO.refl _)
   | (with_reducible exact LeO.none _)
   | (with_reducible refine LeO.ite ?_ ?_)
   | (with_reducible refine LeO.bind ?_ (fun _ => ?_))
   | exact ih0 _ _
   | exact ih1 _ _ _ _ _ _
   | exact ih2 _ _ _ _ _ _
   | exact variorumref04_Decode.mono _ _
   | exact LeO.none _
   | refine LeO.ite ?_ ?_
   | refine LeO.bind ?_ (fun _ => ?_)
  ·intro y0 y1 y2 y3 y4 y5
   unfold variorumref05_May.j1
   repeat' first
   | (with_reducible exact ih0 _ _)
   | (with_reducible exact ih1 _ _ _ _ _ _)
   | (with_reducible exact ih2 _ _ _ _ _ _)
   | (with_reducible exact variorumref04_Decode.mono _ _)
   | (with_reducible exact LeO.refl _)
   | (with_reducible exact LeO.none _)
   | (with_reducible refine LeO.ite ?_ ?_)
   | (with_reducible refine LeO.bind ?_ (fun _ => ?_))
   | exact ih0 _ _
   | exact ih1 _ _ _ _ _ _
   | exact ih2 _ _ _ _ _ _
   | exact variorumref04_Decode.mono _ _
   | exact LeO.none _
   | refine LeO.ite ?_ ?_
   | refine LeO.bind ?_ (fun _ => ?_)
  ·intro y0 y1 y2 y3 y4 y5
   unfold variorumref05_May.l1
   repeat' first
   | (with_reducible exact ih0 _ _)
   | (with_reducible exact ih1 _ _ _ _ _ _)
   | (with_reducible exact ih2 _ _ _ _ _ _)
   | (with_reducible exact variorumref04_Decode.mono _ _)
   | (with_reducible exact LeO.refl _)
   | (with_reducible exact LeO.none _)
   | (with_reducible refine LeO.ite ?_ ?_)
   | (with_reducible refine LeO.bind ?_ (fun _ => ?_))
   | exact ih0 _ _
   | exact ih1 _ _ _ _ _ _
   | exact ih2 _ _ _ _ _ _
   | exact variorumref04_Decode.mono _ _
   | exact LeO.none _
   | refine LeO.ite ?_ ?_
   | refine LeO.bind ?_ (fun _ => ?_)
theorem variorumref05_May.mono : ∀ a0 k, LeO (variorumref05_May.f k a0) (variorumref05_May.f (k + 1) a0) := by
 intro a0 k
 obtain ⟨ih0, ih1, ih2⟩ := variorumref05_May.mono_l k
 unfold variorumref05_May.f
 repeat' first
   | (with_reducible exact ih0 _ _)
   | (with_reducible exact ih1 _ _ _ _ _ _)
   | (with_reducible exact ih2 _ _ _ _ _ _)
   | (with_reducible exact variorumref04_Decode.mono _ _)
   | (with_reducible exact LeO.refl _)
   | (with_reducible exact LeO.none _)
   | (with_reducible refine LeO.ite ?_ ?_)
   | (with_reducible refine LeO.bind ?_ (fun _ => ?_))
   | exact ih0 _ _
   | exact ih1 _ _ _ _ _ _
   | exact ih2 _ _ _ _ _ _
   | exact variorumref04_Decode.mono _ _
   | exact LeO.none _
   | refine LeO.ite ?_ ?_
   | refine LeO.bind ?_ (fun _ => ?_)
set_option maxHeartbeats 8000000 in
set_option maxRecDepth 100000 in
theorem variorumref05_May.calls (k : Nat) (A0 : Option Addr) (c0 : Nat) (l0 : List (S38)) (r : Bool) (w : World) (hr0 : Kd.C k38 w A0 l0.length l0) (hc0 : l0.length ≤ c0) (h : variorumref05_May.f k l0 = some r) :
  Calls Tryz.prog 15 #[.slice A0 l0.length c0] w fun e w' => e = .returned (.bool r) ∧ Below w.heap.size w w' := by
 have hu38 := Tryz.underlying38
 have hu25 := Tryz.underlying25
 have HR0 := Aside0.mk hr0
 have HC0 := Aside0.mk hc0
 clear hr0 hc0
 have HB := Aside0.mk (Below.refl w.heap.size w)
 have H : (variorumref05_May.l0 k l0 0) = some r := h
 clear h
 have H' := Aside0.mk H
 clear H
 go_enter Tryz.func15, Tryz.ntmps15
 go_wp2
 go_loopg [3] k (fun kq v3 w' => ∃ (x3_1 : Int), v3 = .int .i64 x3_1 ∧ Aside0 (variorumref05_May.l0 kq l0 x3_1 = some r) ∧ Aside0 (kq ≤ k) ∧ Aside0 (Below w.heap.size w w'))
 case atStart => exact ⟨(0), (by first | rfl | (simp; done) | (simp [*]; done)), H', ⟨Nat.le_refl _⟩, ⟨by repeat (first | (with_reducible first | exact HB.out | apply below_alloc | apply pw_below_drewN | apply below_drew1) | exact HB.out)⟩⟩
 case round =>
  clear H'
  try clear c1
  obtain ⟨x3_1, rfl, HA, HK1, HB⟩ := hrel
  cases gk with
  | zero => exact absurd HA.out (by simp [variorumref05_May.l0])
  | succ k1 =>
   have H := HA.out
   clear HA
   simp only [variorumref05_May.l0] at H
   by_cases c2 : x3_1 < (l0.length : Int)
   ·rw [if_pos c2] at H
    have c2b0 : decide (x3_1 < (l0.length : Int)) = true := decide_eq_true c2
    clear c2
    by_cases c3 : 0 ≤ x3_1
    ·rw [if_pos c3] at H
     have c3b0 : decide (0 ≤ x3_1) = true := decide_eq_true c3
     clear c3
     have HC4 := Aside0.mk H
     clear H
     have p211 : 0 ≤ (x3_1 : Int) := of_decide_eq_true (by first | (with_reducible assumption) | assumption)
     have q211 : x3_1 < (l0.length : Int) := of_decide_eq_true (by first | (with_reducible assumption) | assumption)
     obtain ⟨ad211, e211, hx211_0, hx211_1, hx211_2⟩ := at_T38 HR0.out x3_1 p211 q211
     cases e211
     replace hx211_0 := (HB.out.cell (World.block_lt_of_cell? w _ hx211_0)).trans hx211_0
     replace hx211_1 := (HB.out.cell (World.block_lt_of_cell? w _ hx211_1)).trans hx211_1
     replace hx211_2 := (HB.out.cell (World.block_lt_of_cell? w _ hx211_2)).trans hx211_2
     replace p211 := eq_true p211
     replace q211 := eq_true q211
     go_upto_region 5 with (first | ((with_reducible refine gate_dst (N := 4) rfl ?_); refine box_event ?hg (N := 4) ?hd (cs := #[.int .i64 0, .string (⟨#[]⟩ : ByteArray), .int .i64 0]) (t := 38) ?hr ?_; (case hd => rfl); (case hg => rfl); (case hr => first | (go_simp; done) | (go_simp; rfl)); intro gb212 hg w5 hbox hb; have n0_ := Aside0.mk (below_step (by repeat (first | (with_reducible first | exact HB.out | apply below_alloc | apply pw_below_drewN | apply below_drew1) | exact HB.out)) hb); have n1_ := Aside0.mk (hbox); have n2_ := Aside0.mk ((by rw [hg]; exact (below_size (by repeat (first | (with_reducible first | exact HB.out | apply below_alloc | apply pw_below_drewN | apply below_drew1) | exact HB.out))) : w.heap.size ≤ gb212)); have n3_ := Aside0.mk ((by rw [hg]; exact (below_size (by repeat (first | (with_reducible first | exact HB.out | apply below_alloc | apply pw_below_drewN | apply below_drew1) | exact HB.out))) : w.heap.size ≤ gb212)); clear HB; have HB := n0_; have BK212 := n1_; have GW212 := n2_; have GE212 := n3_; clear n0_ n1_ n2_ n3_; clear hb hbox hg; have hcz6_0 : w5.cell? ⟨gb212, 0, none⟩ = some (.int .i64 0) := (blk_cell BK212.out 0).trans rfl; have hcz6_1 : w5.cell? ⟨gb212, 1, none⟩ = some (.string (⟨#[]⟩ : ByteArray)) := (blk_cell BK212.out 1).trans rfl; have hcz6_2 : w5.cell? ⟨gb212, 2, none⟩ = some (.int .i64 0) := (blk_cell BK212.out 2).trans rfl; have hfz6_0 := blk_frozen BK212.out 0; have hfz6_1 := blk_frozen BK212.out 1; have hfz6_2 := blk_frozen BK212.out 2))
     (try simp only [Act.put, List.setIfInBounds_toArray, List.set_cons_zero, List.set_cons_succ])
     go_cut [45] (fun v45 wc => ∃ (kq : Nat) (x45_3 : Bool), v45 = .bool x45_3 ∧ Aside0 (variorumref05_May.j1 kq l0 x3_1 x45_3 ((rd_T38 l0 x3_1).f0) ((rd_T38 l0 x3_1).f1) ((rd_T38 l0 x3_1).f2) = some r) ∧ Aside0 (kq ≤ k1) ∧ Aside0 (wc.heap[gb212]? = some (.cells #[.int .i64 ((rd_T38 l0 x3_1).f0), .string ((rd_T38 l0 x3_1).f1), .int .i64 ((rd_T38 l0 x3_1).f2)] 38 (0, 0))) ∧ Aside0 (Below w.heap.size w wc))
     case first =>
      have H := HC4.out
      clear HC4
      by_cases c7 : ((rd_T38 l0 x3_1).f0) < 0
      ·rw [if_pos c7] at H
       have c7b0 : decide (((rd_T38 l0 x3_1).f0) < 0) = true := decide_eq_true c7
       clear c7
       (first | rw [c7b0] | (simp only [i64_w, i32_w]; rw [c7b0]) | skip)
       have H' := Aside0.mk H
       clear H
       have hcz8_0 : w5.cell? ⟨gb212, 0, none⟩ = some (.int .i64 0) := (blk_cell BK212.out 0).trans rfl
       have hcz8_1 : w5.cell? ⟨gb212, 1, none⟩ = some (.string (⟨#[]⟩ : ByteArray)) := (blk_cell BK212.out 1).trans rfl
       have hcz8_2 : w5.cell? ⟨gb212, 2, none⟩ = some (.int .i64 0) := (blk_cell BK212.out 2).trans rfl
       have hfz8_0 := blk_frozen BK212.out 0
       have hfz8_1 := blk_frozen BK212.out 1
       have hfz8_2 := blk_frozen BK212.out 2
       go_wp2
       go_meet
       case rel => exact ⟨_, (true), (by first | rfl | (simp; done) | (simp [*]; done)), H', ⟨by have := HK1.out; first | omega | exact Nat.le_refl _⟩, ⟨by (with_reducible repeat (first | refine blk_drewN ?_ _ | refine blk_drew ?_ | refine blk_alloc ?_ _)); refine blk_put (cs := #[.int .i64 ((rd_T38 l0 x3_1).f0), .string ((rd_T38 l0 x3_1).f1), .int .i64 0]) ?_ 2 _ rfl; (with_reducible repeat (first | refine blk_drewN ?_ _ | refine blk_drew ?_ | refine blk_alloc ?_ _)); refine blk_put (cs := #[.int .i64 ((rd_T38 l0 x3_1).f0), .string (⟨#[]⟩ : ByteArray), .int .i64 0]) ?_ 1 _ rfl; (with_reducible repeat (first | refine blk_drewN ?_ _ | refine blk_drew ?_ | refine blk_alloc ?_ _)); refine blk_put (cs := #[.int .i64 0, .string (⟨#[]⟩ : ByteArray), .int .i64 0]) ?_ 0 _ rfl; (with_reducible repeat (first | refine blk_drewN ?_ _ | refine blk_drew ?_ | refine blk_alloc ?_ _)); exact BK212.out⟩, ⟨by repeat (first | (with_reducible first | exact HB.out | apply below_alloc | apply pw_below_drewN | apply below_drew1 | refine below_set ?_ GE212.out) | exact HB.out)⟩⟩
      ·rw [if_neg c7] at H
       have c7b0 : decide (((rd_T38 l0 x3_1).f0) < 0) = false := decide_eq_false c7
       clear c7
       (first | rw [c7b0] | (simp only [i64_w, i32_w]; rw [c7b0]) | skip)
       by_cases c9 : ((rd_T38 l0 x3_1).f0) > 3
       ·rw [if_pos c9] at H
        have c9b0 : decide (3 < ((rd_T38 l0 x3_1).f0)) = true := decide_eq_true c9
        clear c9
        have H' := Aside0.mk H
        clear H
        have hcz10_0 : w5.cell? ⟨gb212, 0, none⟩ = some (.int .i64 0) := (blk_cell BK212.out 0).trans rfl
        have hcz10_1 : w5.cell? ⟨gb212, 1, none⟩ = some (.string (⟨#[]⟩ : ByteArray)) := (blk_cell BK212.out 1).trans rfl
        have hcz10_2 : w5.cell? ⟨gb212, 2, none⟩ = some (.int .i64 0) := (blk_cell BK212.out 2).trans rfl
        have hfz10_0 := blk_frozen BK212.out 0
        have hfz10_1 := blk_frozen BK212.out 1
        have hfz10_2 := blk_frozen BK212.out 2
        go_wp2
        go_meet
        case rel => exact ⟨_, (true), (by first | rfl | (simp; done) | (simp [*]; done)), H', ⟨by have := HK1.out; first | omega | exact Nat.le_refl _⟩, ⟨by (with_reducible repeat (first | refine blk_drewN ?_ _ | refine blk_drew ?_ | refine blk_alloc ?_ _)); refine blk_put (cs := #[.int .i64 ((rd_T38 l0 x3_1).f0), .string ((rd_T38 l0 x3_1).f1), .int .i64 0]) ?_ 2 _ rfl; (with_reducible repeat (first | refine blk_drewN ?_ _ | refine blk_drew ?_ | refine blk_alloc ?_ _)); refine blk_put (cs := #[.int .i64 ((rd_T38 l0 x3_1).f0), .string (⟨#[]⟩ : ByteArray), .int .i64 0]) ?_ 1 _ rfl; (with_reducible repeat (first | refine blk_drewN ?_ _ | refine blk_drew ?_ | refine blk_alloc ?_ _)); refine blk_put (cs := #[.int .i64 0, .string (⟨#[]⟩ : ByteArray), .int .i64 0]) ?_ 0 _ rfl; (with_reducible repeat (first | refine blk_drewN ?_ _ | refine blk_drew ?_ | refine blk_alloc ?_ _)); exact BK212.out⟩, ⟨by repeat (first | (with_reducible first | exact HB.out | apply below_alloc | apply pw_below_drewN | apply below_drew1 | refine below_set ?_ GE212.out) | exact HB.out)⟩⟩
       ·rw [if_neg c9] at H
        have c9b0 : decide (3 < ((rd_T38 l0 x3_1).f0)) = false := decide_eq_false c9
        clear c9
        by_cases c11 : ((rd_T38 l0 x3_1).f0) > 1
        ·rw [if_pos c11] at H
         have c11b0 : decide (1 < ((rd_T38 l0 x3_1).f0)) = true := decide_eq_true c11
         clear c11
         by_cases c12 : ((rd_T38 l0 x3_1).f1).toList = ([] : List UInt8)
         ·rw [if_pos c12] at H
          have c12b0 : (((rd_T38 l0 x3_1).f1).toList == ([] : List UInt8)) = true := beq_iff_eq.mpr c12
          have c12b1 : (((rd_T38 l0 x3_1).f1).toList != ([] : List UInt8)) = false := bne_eq_false_iff_eq.mpr c12
          clear c12
          by_cases c13 : ((rd_T38 l0 x3_1).f0) < 2
          ·rw [if_pos c13] at H
           have c13b0 : decide (((rd_T38 l0 x3_1).f0) < 2) = true := decide_eq_true c13
           clear c13
           have H' := Aside0.mk H
           clear H
           have hcz14_0 : w5.cell? ⟨gb212, 0, none⟩ = some (.int .i64 0) := (blk_cell BK212.out 0).trans rfl
           have hcz14_1 : w5.cell? ⟨gb212, 1, none⟩ = some (.string (⟨#[]⟩ : ByteArray)) := (blk_cell BK212.out 1).trans rfl
           have hcz14_2 : w5.cell? ⟨gb212, 2, none⟩ = some (.int .i64 0) := (blk_cell BK212.out 2).trans rfl
           have hfz14_0 := blk_frozen BK212.out 0
           have hfz14_1 := blk_frozen BK212.out 1
           have hfz14_2 := blk_frozen BK212.out 2
           go_wp2
           go_meet
           case rel => exact ⟨_, ((((rd_T38 l0 x3_1).f1).toList == ([] : List UInt8))), (by first | rfl | (simp; done) | (simp [*]; done)), H', ⟨by have := HK1.out; first | omega | exact Nat.le_refl _⟩, ⟨by (with_reducible repeat (first | refine blk_drewN ?_ _ | refine blk_drew ?_ | refine blk_alloc ?_ _)); refine blk_put (cs := #[.int .i64 ((rd_T38 l0 x3_1).f0), .string ((rd_T38 l0 x3_1).f1), .int .i64 0]) ?_ 2 _ rfl; (with_reducible repeat (first | refine blk_drewN ?_ _ | refine blk_drew ?_ | refine blk_alloc ?_ _)); refine blk_put (cs := #[.int .i64 ((rd_T38 l0 x3_1).f0), .string (⟨#[]⟩ : ByteArray), .int .i64 0]) ?_ 1 _ rfl; (with_reducible repeat (first | refine blk_drewN ?_ _ | refine blk_drew ?_ | refine blk_alloc ?_ _)); refine blk_put (cs := #[.int .i64 0, .string (⟨#[]⟩ : ByteArray), .int .i64 0]) ?_ 0 _ rfl; (with_reducible repeat (first | refine blk_drewN ?_ _ | refine blk_drew ?_ | refine blk_alloc ?_ _)); exact BK212.out⟩, ⟨by repeat (first | (with_reducible first | exact HB.out | apply below_alloc | apply pw_below_drewN | apply below_drew1 | refine below_set ?_ GE212.out) | exact HB.out)⟩⟩
          ·rw [if_neg c13] at H
           have c13b0 : decide (((rd_T38 l0 x3_1).f0) < 2) = false := decide_eq_false c13
           clear c13
           have H' := Aside0.mk H
           clear H
           have hcz15_0 : w5.cell? ⟨gb212, 0, none⟩ = some (.int .i64 0) := (blk_cell BK212.out 0).trans rfl
           have hcz15_1 : w5.cell? ⟨gb212, 1, none⟩ = some (.string (⟨#[]⟩ : ByteArray)) := (blk_cell BK212.out 1).trans rfl
           have hcz15_2 : w5.cell? ⟨gb212, 2, none⟩ = some (.int .i64 0) := (blk_cell BK212.out 2).trans rfl
           have hfz15_0 := blk_frozen BK212.out 0
           have hfz15_1 := blk_frozen BK212.out 1
           have hfz15_2 := blk_frozen BK212.out 2
           go_wp2
           go_meet
           case rel => exact ⟨_, (false), (by first | rfl | (simp; done) | (simp [*]; done)), H', ⟨by have := HK1.out; first | omega | exact Nat.le_refl _⟩, ⟨by (with_reducible repeat (first | refine blk_drewN ?_ _ | refine blk_drew ?_ | refine blk_alloc ?_ _)); refine blk_put (cs := #[.int .i64 ((rd_T38 l0 x3_1).f0), .string ((rd_T38 l0 x3_1).f1), .int .i64 0]) ?_ 2 _ rfl; (with_reducible repeat (first | refine blk_drewN ?_ _ | refine blk_drew ?_ | refine blk_alloc ?_ _)); refine blk_put (cs := #[.int .i64 ((rd_T38 l0 x3_1).f0), .string (⟨#[]⟩ : ByteArray), .int .i64 0]) ?_ 1 _ rfl; (with_reducible repeat (first | refine blk_drewN ?_ _ | refine blk_drew ?_ | refine blk_alloc ?_ _)); refine blk_put (cs := #[.int .i64 0, .string (⟨#[]⟩ : ByteArray), .int .i64 0]) ?_ 0 _ rfl; (with_reducible repeat (first | refine blk_drewN ?_ _ | refine blk_drew ?_ | refine blk_alloc ?_ _)); exact BK212.out⟩, ⟨by repeat (first | (with_reducible first | exact HB.out | apply below_alloc | apply pw_below_drewN | apply below_drew1 | refine below_set ?_ GE212.out) | exact HB.out)⟩⟩
         ·rw [if_neg c12] at H
          have c12b0 : (((rd_T38 l0 x3_1).f1).toList == ([] : List UInt8)) = false := beq_eq_false_iff_ne.mpr c12
          have c12b1 : (((rd_T38 l0 x3_1).f1).toList != ([] : List UInt8)) = true := bne_iff_ne.mpr c12
          have H' := Aside0.mk H
          clear H
          have hcz16_0 : w5.cell? ⟨gb212, 0, none⟩ = some (.int .i64 0) := (blk_cell BK212.out 0).trans rfl
          have hcz16_1 : w5.cell? ⟨gb212, 1, none⟩ = some (.string (⟨#[]⟩ : ByteArray)) := (blk_cell BK212.out 1).trans rfl
          have hcz16_2 : w5.cell? ⟨gb212, 2, none⟩ = some (.int .i64 0) := (blk_cell BK212.out 2).trans rfl
          have hfz16_0 := blk_frozen BK212.out 0
          have hfz16_1 := blk_frozen BK212.out 1
          have hfz16_2 := blk_frozen BK212.out 2
          go_wp2
          go_meet
          case rel => exact ⟨_, (true), (by first | rfl | (simp; done) | (simp [*]; done)), H', ⟨by have := HK1.out; first | omega | exact Nat.le_refl _⟩, ⟨by (with_reducible repeat (first | refine blk_drewN ?_ _ | refine blk_drew ?_ | refine blk_alloc ?_ _)); refine blk_put (cs := #[.int .i64 ((rd_T38 l0 x3_1).f0), .string ((rd_T38 l0 x3_1).f1), .int .i64 0]) ?_ 2 _ rfl; (with_reducible repeat (first | refine blk_drewN ?_ _ | refine blk_drew ?_ | refine blk_alloc ?_ _)); refine blk_put (cs := #[.int .i64 ((rd_T38 l0 x3_1).f0), .string (⟨#[]⟩ : ByteArray), .int .i64 0]) ?_ 1 _ rfl; (with_reducible repeat (first | refine blk_drewN ?_ _ | refine blk_drew ?_ | refine blk_alloc ?_ _)); refine blk_put (cs := #[.int .i64 0, .string (⟨#[]⟩ : ByteArray), .int .i64 0]) ?_ 0 _ rfl; (with_reducible repeat (first | refine blk_drewN ?_ _ | refine blk_drew ?_ | refine blk_alloc ?_ _)); exact BK212.out⟩, ⟨by repeat (first | (with_reducible first | exact HB.out | apply below_alloc | apply pw_below_drewN | apply below_drew1 | refine below_set ?_ GE212.out) | exact HB.out)⟩⟩
        ·rw [if_neg c11] at H
         have c11b0 : decide (1 < ((rd_T38 l0 x3_1).f0)) = false := decide_eq_false c11
         clear c11
         by_cases c17 : ((rd_T38 l0 x3_1).f0) < 2
         ·rw [if_pos c17] at H
          have c17b0 : decide (((rd_T38 l0 x3_1).f0) < 2) = true := decide_eq_true c17
          clear c17
          have H' := Aside0.mk H
          clear H
          have hcz18_0 : w5.cell? ⟨gb212, 0, none⟩ = some (.int .i64 0) := (blk_cell BK212.out 0).trans rfl
          have hcz18_1 : w5.cell? ⟨gb212, 1, none⟩ = some (.string (⟨#[]⟩ : ByteArray)) := (blk_cell BK212.out 1).trans rfl
          have hcz18_2 : w5.cell? ⟨gb212, 2, none⟩ = some (.int .i64 0) := (blk_cell BK212.out 2).trans rfl
          have hfz18_0 := blk_frozen BK212.out 0
          have hfz18_1 := blk_frozen BK212.out 1
          have hfz18_2 := blk_frozen BK212.out 2
          go_wp2
          go_meet
          case rel => exact ⟨_, ((((rd_T38 l0 x3_1).f1).toList == ([] : List UInt8))), (by first | rfl | (simp; done) | (simp [*]; done)), H', ⟨by have := HK1.out; first | omega | exact Nat.le_refl _⟩, ⟨by (with_reducible repeat (first | refine blk_drewN ?_ _ | refine blk_drew ?_ | refine blk_alloc ?_ _)); refine blk_put (cs := #[.int .i64 ((rd_T38 l0 x3_1).f0), .string ((rd_T38 l0 x3_1).f1), .int .i64 0]) ?_ 2 _ rfl; (with_reducible repeat (first | refine blk_drewN ?_ _ | refine blk_drew ?_ | refine blk_alloc ?_ _)); refine blk_put (cs := #[.int .i64 ((rd_T38 l0 x3_1).f0), .string (⟨#[]⟩ : ByteArray), .int .i64 0]) ?_ 1 _ rfl; (with_reducible repeat (first | refine blk_drewN ?_ _ | refine blk_drew ?_ | refine blk_alloc ?_ _)); refine blk_put (cs := #[.int .i64 0, .string (⟨#[]⟩ : ByteArray), .int .i64 0]) ?_ 0 _ rfl; (with_reducible repeat (first | refine blk_drewN ?_ _ | refine blk_drew ?_ | refine blk_alloc ?_ _)); exact BK212.out⟩, ⟨by repeat (first | (with_reducible first | exact HB.out | apply below_alloc | apply pw_below_drewN | apply below_drew1 | refine below_set ?_ GE212.out) | exact HB.out)⟩⟩
         ·rw [if_neg c17] at H
          have c17b0 : decide (((rd_T38 l0 x3_1).f0) < 2) = false := decide_eq_false c17
          clear c17
          have H' := Aside0.mk H
          clear H
          have hcz19_0 : w5.cell? ⟨gb212, 0, none⟩ = some (.int .i64 0) := (blk_cell BK212.out 0).trans rfl
          have hcz19_1 : w5.cell? ⟨gb212, 1, none⟩ = some (.string (⟨#[]⟩ : ByteArray)) := (blk_cell BK212.out 1).trans rfl
          have hcz19_2 : w5.cell? ⟨gb212, 2, none⟩ = some (.int .i64 0) := (blk_cell BK212.out 2).trans rfl
          have hfz19_0 := blk_frozen BK212.out 0
          have hfz19_1 := blk_frozen BK212.out 1
          have hfz19_2 := blk_frozen BK212.out 2
          go_wp2
          go_meet
          case rel => exact ⟨_, (false), (by first | rfl | (simp; done) | (simp [*]; done)), H', ⟨by have := HK1.out; first | omega | exact Nat.le_refl _⟩, ⟨by (with_reducible repeat (first | refine blk_drewN ?_ _ | refine blk_drew ?_ | refine blk_alloc ?_ _)); refine blk_put (cs := #[.int .i64 ((rd_T38 l0 x3_1).f0), .string ((rd_T38 l0 x3_1).f1), .int .i64 0]) ?_ 2 _ rfl; (with_reducible repeat (first | refine blk_drewN ?_ _ | refine blk_drew ?_ | refine blk_alloc ?_ _)); refine blk_put (cs := #[.int .i64 ((rd_T38 l0 x3_1).f0), .string (⟨#[]⟩ : ByteArray), .int .i64 0]) ?_ 1 _ rfl; (with_reducible repeat (first | refine blk_drewN ?_ _ | refine blk_drew ?_ | refine blk_alloc ?_ _)); refine blk_put (cs := #[.int .i64 0, .string (⟨#[]⟩ : ByteArray), .int .i64 0]) ?_ 0 _ rfl; (with_reducible repeat (first | refine blk_drewN ?_ _ | refine blk_drew ?_ | refine blk_alloc ?_ _)); exact BK212.out⟩, ⟨by repeat (first | (with_reducible first | exact HB.out | apply below_alloc | apply pw_below_drewN | apply below_drew1 | refine below_set ?_ GE212.out) | exact HB.out)⟩⟩
     case rest =>
      clear HC4
      try clear c1
      try clear c2
      try clear c2b0
      try clear p2
      try clear q2
      try clear hx2
      try clear c3
      try clear c3b0
      try clear c7
      try clear c7b0
      try clear c9
      try clear c9b0
      try clear c11
      try clear c11b0
      try clear c12
      try clear c12b0
      try clear c12b1
      try clear c13
      try clear c13b0
      try clear c15
      try clear c17
      try clear c17b0
      try clear hcz10_0
      try clear hcz10_1
      try clear hcz10_2
      try clear hcz14_0
      try clear hcz14_1
      try clear hcz14_2
      try clear hcz15_0
      try clear hcz15_1
      try clear hcz15_2
      try clear hcz16_0
      try clear hcz16_1
      try clear hcz16_2
      try clear hcz18_0
      try clear hcz18_1
      try clear hcz18_2
      try clear hcz19_0
      try clear hcz19_1
      try clear hcz19_2
      try clear hcz6_0
      try clear hcz6_1
      try clear hcz6_2
      try clear hcz8_0
      try clear hcz8_1
      try clear hcz8_2
      try clear hfz10_0
      try clear hfz10_1
      try clear hfz10_2
      try clear hfz14_0
      try clear hfz14_1
      try clear hfz14_2
      try clear hfz15_0
      try clear hfz15_1
      try clear hfz15_2
      try clear hfz16_0
      try clear hfz16_1
      try clear hfz16_2
      try clear hfz18_0
      try clear hfz18_1
      try clear hfz18_2
      try clear hfz19_0
      try clear hfz19_1
      try clear hfz19_2
      try clear hfz6_0
      try clear hfz6_1
      try clear hfz6_2
      try clear hfz8_0
      try clear hfz8_1
      try clear hfz8_2
      try clear hx211_0
      try clear hx211_1
      try clear hx211_2
      try clear p211
      try clear q211
      obtain ⟨kq, x45_3, rfl, HA, HJ3, BK212, HB⟩ := hcut
      cases kq with
      | zero => exact absurd HA.out (by simp [variorumref05_May.j1])
      | succ kj3 =>
       have H := HA.out
       clear HA
       simp only [variorumref05_May.j1] at H
       by_cases c20 : x45_3 = true
       ·subst c20
        have H1 : (some false) = some r := by rw [if_pos rfl] at H; exact H
        clear H
        have H := H1
        clear H1
        obtain rfl := Option.some.inj H
        go_wp2
        go_ret
        exact ⟨by first | rfl | (simp [errW_none, errW_some] <;> rfl) | (simp [*, errW_none, errW_some] <;> rfl), by repeat (first | (with_reducible first | exact HB.out | apply below_alloc | apply pw_below_drewN | apply below_drew1 | refine below_set ?_ GE212.out) | exact HB.out)⟩
       ·replace c20 := Bool.eq_false_iff.mpr c20
        subst c20
        have H1 : ((variorumref04_Decode.f kj3 ((rd_T38 l0 x3_1).f1)).bind fun bt213 => (if bt213.2.1 = 0 then (variorumref05_May.l1 kj3 l0 x3_1 0 ((rd_T38 l0 x3_1).f0) ((rd_T38 l0 x3_1).f1) ((rd_T38 l0 x3_1).f2)) else (some false))) = some r := by rw [if_neg (show ¬ (false = true) by decide)] at H; exact H
        clear H
        have H := H1
        clear H1
        replace H := Option.bind_eq_some_iff.mp H
        obtain ⟨⟨t213, t216, t217⟩, A210, H⟩ := H
        replace H : (if t216 = 0 then (variorumref05_May.l1 kj3 l0 x3_1 0 ((rd_T38 l0 x3_1).f0) ((rd_T38 l0 x3_1).f1) ((rd_T38 l0 x3_1).f2)) else (some false)) = some r := H
        have A21 := Aside0.mk A210
        clear A210
        by_cases c22 : t216 = 0
        ·rw [if_pos c22] at H
         have c22b0 : (t216 == 0) = true := beq_iff_eq.mpr c22
         have c22b1 : (t216 != 0) = false := bne_eq_false_iff_eq.mpr c22
         clear c22
         have H' := Aside0.mk H
         clear H
         have hcz23_0 : wc.cell? ⟨gb212, 0, none⟩ = some (.int .i64 ((rd_T38 l0 x3_1).f0)) := (blk_cell BK212.out 0).trans rfl
         have hcz23_1 : wc.cell? ⟨gb212, 1, none⟩ = some (.string ((rd_T38 l0 x3_1).f1)) := (blk_cell BK212.out 1).trans rfl
         have hcz23_2 : wc.cell? ⟨gb212, 2, none⟩ = some (.int .i64 ((rd_T38 l0 x3_1).f2)) := (blk_cell BK212.out 2).trans rfl
         have hfz23_0 := blk_frozen BK212.out 0
         have hfz23_1 := blk_frozen BK212.out 1
         have hfz23_2 := blk_frozen BK212.out 2
         go_wp2_with (first | ((with_reducible refine gate_callee (f := 30) rfl ?_); refine goesL_ (some 49) rfl rfl Tryz.func30 (by kernel_rfl) rfl #[.string ((rd_T38 l0 x3_1).f1)] rfl (by (try simp only [List.map_toArray, List.map_cons, List.map_nil]); first | done | rfl | (simp only [List.length_drop, List.length_take]; rfl) | (simp only [*]; first | done | rfl)) ?_; (with_reducible refine (variorumref04_Decode.calls kj3 ((rd_T38 l0 x3_1).f1) t213 t216 t217 _ A21.out).mono ?_); rintro e w24 ⟨v214, rfl, ho0, hb⟩; refine ⟨_, rfl, ?_⟩; have n0_ := Aside0.mk (Kd.R_lower ho0 (below_size (by repeat (first | (with_reducible first | exact HB.out | apply below_alloc | apply pw_below_drewN | apply below_drew1 | refine below_set ?_ GE212.out) | exact HB.out)))); have n1_ := Aside0.mk (blk_below (g := gb212) (o := .cells #[.int .i64 ((rd_T38 l0 x3_1).f0), .string ((rd_T38 l0 x3_1).f1), .int .i64 ((rd_T38 l0 x3_1).f2)] 38 (0, 0)) (by (with_reducible repeat (first | refine blk_drewN ?_ _ | refine blk_drew ?_ | refine blk_alloc ?_ _)); exact BK212.out) hb); have n2_ := Aside0.mk (below_step (by repeat (first | (with_reducible first | exact HB.out | apply below_alloc | apply pw_below_drewN | apply below_drew1 | refine below_set ?_ GE212.out) | exact HB.out)) hb); clear BK212; clear HB; have HO215 := n0_; have BK212 := n1_; have HB := n2_; clear n0_ n1_ n2_; (try clear hb); (try clear hb2); (try clear hk); (try clear hi); (try clear ho0)) | ((with_reducible refine gate_dst (N := 6) rfl ?_); refine box_event ?hg (N := 6) ?hd (cs := #[.int .i64 0, .int .i64 0]) (t := 25) ?hr ?_; (case hd => rfl); (case hg => rfl); (case hr => first | (go_simp; done) | (go_simp; rfl)); intro gb218 hg w25 hbox hb; have n0_ := Aside0.mk (Kd.R_below (by (with_reducible repeat (first | apply Kd.R_alloc | apply Kd.R_drewN | apply Kd.R_drew)); exact HO215.out) hb); have n1_ := Aside0.mk (blk_below (g := gb212) (o := .cells #[.int .i64 ((rd_T38 l0 x3_1).f0), .string ((rd_T38 l0 x3_1).f1), .int .i64 ((rd_T38 l0 x3_1).f2)] 38 (0, 0)) (by (with_reducible repeat (first | refine blk_drewN ?_ _ | refine blk_drew ?_ | refine blk_alloc ?_ _)); exact BK212.out) hb); have n2_ := Aside0.mk (below_step (by repeat (first | (with_reducible first | exact HB.out | apply below_alloc | apply pw_below_drewN | apply below_drew1 | refine below_set ?_ GE212.out) | exact HB.out)) hb); have n3_ := Aside0.mk (hbox); have n4_ := Aside0.mk ((by rw [hg]; exact (below_size (by repeat (first | (with_reducible first | exact HB.out | apply below_alloc | apply pw_below_drewN | apply below_drew1 | refine below_set ?_ GE212.out) | exact HB.out))) : w.heap.size ≤ gb218)); have n5_ := Aside0.mk ((by rw [hg]; exact (below_size (by repeat (first | (with_reducible first | exact HB.out | apply below_alloc | apply pw_below_drewN | apply below_drew1 | refine below_set ?_ GE212.out) | exact HB.out))) : w.heap.size ≤ gb218)); have n6_ := Aside0.mk ((by rw [hg]; exact Nat.ne_of_lt (blk_lt (g := gb212) (o := .cells #[.int .i64 ((rd_T38 l0 x3_1).f0), .string ((rd_T38 l0 x3_1).f1), .int .i64 ((rd_T38 l0 x3_1).f2)] 38 (0, 0)) (by (with_reducible repeat (first | refine blk_drewN ?_ _ | refine blk_drew ?_ | refine blk_alloc ?_ _)); exact BK212.out)) : gb212 ≠ gb218)); have n7_ := Aside0.mk ((by rw [hg]; exact Nat.ne_of_gt (blk_lt (g := gb212) (o := .cells #[.int .i64 ((rd_T38 l0 x3_1).f0), .string ((rd_T38 l0 x3_1).f1), .int .i64 ((rd_T38 l0 x3_1).f2)] 38 (0, 0)) (by (with_reducible repeat (first | refine blk_drewN ?_ _ | refine blk_drew ?_ | refine blk_alloc ?_ _)); exact BK212.out)) : gb218 ≠ gb212)); clear HO215; clear BK212; clear HB; have HO215 := n0_; have BK212 := n1_; have HB := n2_; have BK218 := n3_; have GW218 := n4_; have GE218 := n5_; have NB212_218 := n6_; have NB218_212 := n7_; clear n0_ n1_ n2_ n3_ n4_ n5_ n6_ n7_; clear hb hbox hg; have hnb26 := NB218_212.out; have hnc26 := NB212_218.out; have hcz27_0 : w25.cell? ⟨gb218, 0, none⟩ = some (.int .i64 0) := (blk_cell BK218.out 0).trans rfl; have hcz27_1 : w25.cell? ⟨gb218, 1, none⟩ = some (.int .i64 0) := (blk_cell BK218.out 1).trans rfl; have hfz27_0 := blk_frozen BK218.out 0; have hfz27_1 := blk_frozen BK218.out 1))
         go_loopg [7] kj3 (fun kq v7 w' => ∃ (x7_3 : Int), v7 = .int .i64 x7_3 ∧ Aside0 (variorumref05_May.l1 kq l0 x3_1 x7_3 ((rd_T38 l0 x3_1).f0) ((rd_T38 l0 x3_1).f1) ((rd_T38 l0 x3_1).f2) = some r) ∧ Aside0 (kq ≤ kj3) ∧ Aside0 (w'.heap[gb212]? = some (.cells #[.int .i64 ((rd_T38 l0 x3_1).f0), .string ((rd_T38 l0 x3_1).f1), .int .i64 ((rd_T38 l0 x3_1).f2)] 38 (0, 0))) ∧ Aside0 (w'.heap[gb218]? = some (.cells #[.int .i64 t216, .int .i64 t217] 25 (0, 0))) ∧ Aside0 (Below w.heap.size w w'))
         case atStart => exact ⟨(0), (by first | rfl | (simp; done) | (simp [*]; done)), H', ⟨Nat.le_refl _⟩, ⟨by (with_reducible repeat (first | refine blk_drewN ?_ _ | refine blk_drew ?_ | refine blk_alloc ?_ _)); refine blk_far ?_ NB212_218.out _; (with_reducible repeat (first | refine blk_drewN ?_ _ | refine blk_drew ?_ | refine blk_alloc ?_ _)); refine blk_far ?_ NB212_218.out _; (with_reducible repeat (first | refine blk_drewN ?_ _ | refine blk_drew ?_ | refine blk_alloc ?_ _)); exact BK212.out⟩, ⟨by (with_reducible repeat (first | refine blk_drewN ?_ _ | refine blk_drew ?_ | refine blk_alloc ?_ _)); refine blk_put (cs := #[.int .i64 t216, .int .i64 0]) ?_ 1 _ rfl; (with_reducible repeat (first | refine blk_drewN ?_ _ | refine blk_drew ?_ | refine blk_alloc ?_ _)); refine blk_put (cs := #[.int .i64 0, .int .i64 0]) ?_ 0 _ rfl; (with_reducible repeat (first | refine blk_drewN ?_ _ | refine blk_drew ?_ | refine blk_alloc ?_ _)); exact BK218.out⟩, ⟨by repeat (first | (with_reducible first | exact HB.out | apply below_alloc | apply pw_below_drewN | apply below_drew1 | refine below_set ?_ GE212.out | refine below_set ?_ GE218.out) | exact HB.out)⟩⟩
         case round =>
          clear H'
          try clear c1
          try clear c2
          try clear c2b0
          try clear p2
          try clear q2
          try clear hx2
          try clear c3
          try clear c3b0
          try clear c7
          try clear c7b0
          try clear c9
          try clear c9b0
          try clear c11
          try clear c11b0
          try clear c12
          try clear c12b0
          try clear c12b1
          try clear c13
          try clear c13b0
          try clear c15
          try clear c17
          try clear c17b0
          try clear c20
          try clear p21
          try clear q21
          try clear hx21
          try clear c22
          try clear c22b0
          try clear c22b1
          try clear c26
          try clear hcz10_0
          try clear hcz10_1
          try clear hcz10_2
          try clear hcz14_0
          try clear hcz14_1
          try clear hcz14_2
          try clear hcz15_0
          try clear hcz15_1
          try clear hcz15_2
          try clear hcz16_0
          try clear hcz16_1
          try clear hcz16_2
          try clear hcz18_0
          try clear hcz18_1
          try clear hcz18_2
          try clear hcz19_0
          try clear hcz19_1
          try clear hcz19_2
          try clear hcz23_0
          try clear hcz23_1
          try clear hcz23_2
          try clear hcz27_0
          try clear hcz27_1
          try clear hcz6_0
          try clear hcz6_1
          try clear hcz6_2
          try clear hcz8_0
          try clear hcz8_1
          try clear hcz8_2
          try clear hfz10_0
          try clear hfz10_1
          try clear hfz10_2
          try clear hfz14_0
          try clear hfz14_1
          try clear hfz14_2
          try clear hfz15_0
          try clear hfz15_1
          try clear hfz15_2
          try clear hfz16_0
          try clear hfz16_1
          try clear hfz16_2
          try clear hfz18_0
          try clear hfz18_1
          try clear hfz18_2
          try clear hfz19_0
          try clear hfz19_1
          try clear hfz19_2
          try clear hfz23_0
          try clear hfz23_1
          try clear hfz23_2
          try clear hfz27_0
          try clear hfz27_1
          try clear hfz6_0
          try clear hfz6_1
          try clear hfz6_2
          try clear hfz8_0
          try clear hfz8_1
          try clear hfz8_2
          try clear hx211_0
          try clear hx211_1
          try clear hx211_2
          try clear p2
          try clear p211
          try clear q2
          try clear q211
          obtain ⟨x7_3, rfl, HA, HK3, BK212, BK218, HB⟩ := hrel
          cases gk with
          | zero => exact absurd HA.out (by simp [variorumref05_May.l1])
          | succ k3 =>
           have H := HA.out
           clear HA
           simp only [variorumref05_May.l1] at H
           by_cases c28 : x7_3 < (((rd_T38 l0 x3_1).f1).size : Int)
           ·rw [if_pos c28] at H
            have c28b0 : decide (x7_3 < (((rd_T38 l0 x3_1).f1).size : Int)) = true := decide_eq_true c28
            clear c28
            by_cases c29 : ((rd_T38 l0 x3_1).f0) = 0
            ·rw [if_pos c29] at H
             have c29b0 : (((rd_T38 l0 x3_1).f0) == 0) = true := beq_iff_eq.mpr c29
             have c29b1 : (((rd_T38 l0 x3_1).f0) != 0) = false := bne_eq_false_iff_eq.mpr c29
             clear c29
             by_cases c30 : 0 ≤ x7_3
             ·rw [if_pos c30] at H
              have c30b0 : decide (0 ≤ x7_3) = true := decide_eq_true c30
              clear c30
              replace H := Option.bind_eq_some_iff.mp H
              obtain ⟨t219, A320, H⟩ := H
              replace H : (if t219 = true then (some false) else (if ((rd_T38 l0 x3_1).f0) = 1 then ((variorumref05_Letter.f (bt ((rd_T38 l0 x3_1).f1) x7_3)).bind fun t220 => (if t220 = true then (variorumref05_May.l1 k3 l0 x3_1 (wrap64 (x7_3 + 1)) ((rd_T38 l0 x3_1).f0) ((rd_T38 l0 x3_1).f1) ((rd_T38 l0 x3_1).f2)) else (some false))) else (variorumref05_May.l1 k3 l0 x3_1 (wrap64 (x7_3 + 1)) ((rd_T38 l0 x3_1).f0) ((rd_T38 l0 x3_1).f1) ((rd_T38 l0 x3_1).f2)))) = some r := H
              have A32 := Aside0.mk A320
              clear A320
              by_cases c33 : t219 = true
              ·subst c33
               have H1 : (some false) = some r := by rw [if_pos rfl] at H; exact H
               clear H
               have H := H1
               clear H1
               obtain rfl := Option.some.inj H
               have hnb34 := NB212_218.out
               have hnc34 := NB218_212.out
               have hcz35_0 : wr.cell? ⟨gb212, 0, none⟩ = some (.int .i64 ((rd_T38 l0 x3_1).f0)) := (blk_cell BK212.out 0).trans rfl
               have hcz35_1 : wr.cell? ⟨gb212, 1, none⟩ = some (.string ((rd_T38 l0 x3_1).f1)) := (blk_cell BK212.out 1).trans rfl
               have hcz35_2 : wr.cell? ⟨gb212, 2, none⟩ = some (.int .i64 ((rd_T38 l0 x3_1).f2)) := (blk_cell BK212.out 2).trans rfl
               have hfz35_0 := blk_frozen BK212.out 0
               have hfz35_1 := blk_frozen BK212.out 1
               have hfz35_2 := blk_frozen BK212.out 2
               have p31 : 0 ≤ (x7_3 : Int) := of_decide_eq_true (by first | (with_reducible assumption) | assumption)
               have q31 : x7_3 < (((rd_T38 l0 x3_1).f1).size : Int) := of_decide_eq_true (by first | (with_reducible assumption) | assumption)
               have hx31 := bt_at ((rd_T38 l0 x3_1).f1) x7_3
               replace p31 := eq_true p31
               replace q31 := eq_true q31
               go_wp2_with (first | (go_at_call 22; (with_reducible refine (variorumref05_Blank.calls (bt ((rd_T38 l0 x3_1).f1) x7_3) true _ A32.out).mono ?_); rintro e w' ⟨rfl, ⟨nd, rfl⟩⟩))
               go_ret
               exact ⟨by first | rfl | (simp [errW_none, errW_some] <;> rfl) | (simp [*, errW_none, errW_some] <;> rfl), by repeat (first | (with_reducible first | exact HB.out | apply below_alloc | apply pw_below_drewN | apply below_drew1 | refine below_set ?_ GE212.out | refine below_set ?_ GE218.out) | exact HB.out)⟩
              ·replace c33 := Bool.eq_false_iff.mpr c33
               subst c33
               have H1 : (if ((rd_T38 l0 x3_1).f0) = 1 then ((variorumref05_Letter.f (bt ((rd_T38 l0 x3_1).f1) x7_3)).bind fun t220 => (if t220 = true then (variorumref05_May.l1 k3 l0 x3_1 (wrap64 (x7_3 + 1)) ((rd_T38 l0 x3_1).f0) ((rd_T38 l0 x3_1).f1) ((rd_T38 l0 x3_1).f2)) else (some false))) else (variorumref05_May.l1 k3 l0 x3_1 (wrap64 (x7_3 + 1)) ((rd_T38 l0 x3_1).f0) ((rd_T38 l0 x3_1).f1) ((rd_T38 l0 x3_1).f2))) = some r := by rw [if_neg (show ¬ (false = true) by decide)] at H; exact H
               clear H
               have H := H1
               clear H1
               by_cases c36 : ((rd_T38 l0 x3_1).f0) = 1
               ·rw [if_pos c36] at H
                have c36b0 : (((rd_T38 l0 x3_1).f0) == 1) = true := beq_iff_eq.mpr c36
                have c36b1 : (((rd_T38 l0 x3_1).f0) != 1) = false := bne_eq_false_iff_eq.mpr c36
                clear c36
                replace H := Option.bind_eq_some_iff.mp H
                obtain ⟨t220, A380, H⟩ := H
                replace H : (if t220 = true then (variorumref05_May.l1 k3 l0 x3_1 (wrap64 (x7_3 + 1)) ((rd_T38 l0 x3_1).f0) ((rd_T38 l0 x3_1).f1) ((rd_T38 l0 x3_1).f2)) else (some false)) = some r := H
                have A38 := Aside0.mk A380
                clear A380
                by_cases c39 : t220 = true
                ·subst c39
                 have H1 : (variorumref05_May.l1 k3 l0 x3_1 (wrap64 (x7_3 + 1)) ((rd_T38 l0 x3_1).f0) ((rd_T38 l0 x3_1).f1) ((rd_T38 l0 x3_1).f2)) = some r := by rw [if_pos rfl] at H; exact H
                 clear H
                 have H := H1
                 clear H1
                 have H' := Aside0.mk H
                 clear H
                 have hnb40 := NB212_218.out
                 have hnc40 := NB218_212.out
                 have hcz41_0 : wr.cell? ⟨gb212, 0, none⟩ = some (.int .i64 ((rd_T38 l0 x3_1).f0)) := (blk_cell BK212.out 0).trans rfl
                 have hcz41_1 : wr.cell? ⟨gb212, 1, none⟩ = some (.string ((rd_T38 l0 x3_1).f1)) := (blk_cell BK212.out 1).trans rfl
                 have hcz41_2 : wr.cell? ⟨gb212, 2, none⟩ = some (.int .i64 ((rd_T38 l0 x3_1).f2)) := (blk_cell BK212.out 2).trans rfl
                 have hfz41_0 := blk_frozen BK212.out 0
                 have hfz41_1 := blk_frozen BK212.out 1
                 have hfz41_2 := blk_frozen BK212.out 2
                 have p31 : 0 ≤ (x7_3 : Int) := of_decide_eq_true (by first | (with_reducible assumption) | assumption)
                 have q31 : x7_3 < (((rd_T38 l0 x3_1).f1).size : Int) := of_decide_eq_true (by first | (with_reducible assumption) | assumption)
                 have hx31 := bt_at ((rd_T38 l0 x3_1).f1) x7_3
                 replace p31 := eq_true p31
                 replace q31 := eq_true q31
                 go_wp2_with (first | (go_at_call 22; (with_reducible refine (variorumref05_Blank.calls (bt ((rd_T38 l0 x3_1).f1) x7_3) false _ A32.out).mono ?_); rintro e w' ⟨rfl, ⟨nd, rfl⟩⟩; have p37 : 0 ≤ (x7_3 : Int) := of_decide_eq_true (by first | (with_reducible assumption) | assumption); have q37 : x7_3 < (((rd_T38 l0 x3_1).f1).size : Int) := of_decide_eq_true (by first | (with_reducible assumption) | assumption); have hx37 := bt_at ((rd_T38 l0 x3_1).f1) x7_3; replace p37 := eq_true p37; replace q37 := eq_true q37) | (go_at_call 32; (with_reducible refine (variorumref05_Letter.calls (bt ((rd_T38 l0 x3_1).f1) x7_3) true _ A38.out).mono ?_); rintro e w' ⟨rfl, ⟨nd, rfl⟩⟩))
                 go_roundg k3
                 case measure => have := HK1.out; have := HJ3.out; have := HK3.out; omega
                 case rel => exact ⟨(wrap64 (x7_3 + 1)), (by first | rfl | (simp; done) | (simp [*]; done)), H', ⟨by have := HK1.out; have := HJ3.out; have := HK3.out; omega⟩, ⟨by (with_reducible repeat (first | refine blk_drewN ?_ _ | refine blk_drew ?_ | refine blk_alloc ?_ _)); exact BK212.out⟩, ⟨by (with_reducible repeat (first | refine blk_drewN ?_ _ | refine blk_drew ?_ | refine blk_alloc ?_ _)); exact BK218.out⟩, ⟨by repeat (first | (with_reducible first | exact HB.out | apply below_alloc | apply pw_below_drewN | apply below_drew1 | refine below_set ?_ GE212.out | refine below_set ?_ GE218.out) | exact HB.out)⟩⟩
                ·replace c39 := Bool.eq_false_iff.mpr c39
                 subst c39
                 have H1 : (some false) = some r := by rw [if_neg (show ¬ (false = true) by decide)] at H; exact H
                 clear H
                 have H := H1
                 clear H1
                 obtain rfl := Option.some.inj H
                 have hnb42 := NB212_218.out
                 have hnc42 := NB218_212.out
                 have hcz43_0 : wr.cell? ⟨gb212, 0, none⟩ = some (.int .i64 ((rd_T38 l0 x3_1).f0)) := (blk_cell BK212.out 0).trans rfl
                 have hcz43_1 : wr.cell? ⟨gb212, 1, none⟩ = some (.string ((rd_T38 l0 x3_1).f1)) := (blk_cell BK212.out 1).trans rfl
                 have hcz43_2 : wr.cell? ⟨gb212, 2, none⟩ = some (.int .i64 ((rd_T38 l0 x3_1).f2)) := (blk_cell BK212.out 2).trans rfl
                 have hfz43_0 := blk_frozen BK212.out 0
                 have hfz43_1 := blk_frozen BK212.out 1
                 have hfz43_2 := blk_frozen BK212.out 2
                 have p31 : 0 ≤ (x7_3 : Int) := of_decide_eq_true (by first | (with_reducible assumption) | assumption)
                 have q31 : x7_3 < (((rd_T38 l0 x3_1).f1).size : Int) := of_decide_eq_true (by first | (with_reducible assumption) | assumption)
                 have hx31 := bt_at ((rd_T38 l0 x3_1).f1) x7_3
                 replace p31 := eq_true p31
                 replace q31 := eq_true q31
                 go_wp2_with (first | (go_at_call 22; (with_reducible refine (variorumref05_Blank.calls (bt ((rd_T38 l0 x3_1).f1) x7_3) false _ A32.out).mono ?_); rintro e w' ⟨rfl, ⟨nd, rfl⟩⟩; have p37 : 0 ≤ (x7_3 : Int) := of_decide_eq_true (by first | (with_reducible assumption) | assumption); have q37 : x7_3 < (((rd_T38 l0 x3_1).f1).size : Int) := of_decide_eq_true (by first | (with_reducible assumption) | assumption); have hx37 := bt_at ((rd_T38 l0 x3_1).f1) x7_3; replace p37 := eq_true p37; replace q37 := eq_true q37) | (go_at_call 32; (with_reducible refine (variorumref05_Letter.calls (bt ((rd_T38 l0 x3_1).f1) x7_3) false _ A38.out).mono ?_); rintro e w' ⟨rfl, ⟨nd, rfl⟩⟩))
                 go_ret
                 exact ⟨by first | rfl | (simp [errW_none, errW_some] <;> rfl) | (simp [*, errW_none, errW_some] <;> rfl), by repeat (first | (with_reducible first | exact HB.out | apply below_alloc | apply pw_below_drewN | apply below_drew1 | refine below_set ?_ GE212.out | refine below_set ?_ GE218.out) | exact HB.out)⟩
               ·rw [if_neg c36] at H
                have c36b0 : (((rd_T38 l0 x3_1).f0) == 1) = false := beq_eq_false_iff_ne.mpr c36
                have c36b1 : (((rd_T38 l0 x3_1).f0) != 1) = true := bne_iff_ne.mpr c36
                have H' := Aside0.mk H
                clear H
                have hnb44 := NB212_218.out
                have hnc44 := NB218_212.out
                have hcz45_0 : wr.cell? ⟨gb212, 0, none⟩ = some (.int .i64 ((rd_T38 l0 x3_1).f0)) := (blk_cell BK212.out 0).trans rfl
                have hcz45_1 : wr.cell? ⟨gb212, 1, none⟩ = some (.string ((rd_T38 l0 x3_1).f1)) := (blk_cell BK212.out 1).trans rfl
                have hcz45_2 : wr.cell? ⟨gb212, 2, none⟩ = some (.int .i64 ((rd_T38 l0 x3_1).f2)) := (blk_cell BK212.out 2).trans rfl
                have hfz45_0 := blk_frozen BK212.out 0
                have hfz45_1 := blk_frozen BK212.out 1
                have hfz45_2 := blk_frozen BK212.out 2
                have p31 : 0 ≤ (x7_3 : Int) := of_decide_eq_true (by first | (with_reducible assumption) | assumption)
                have q31 : x7_3 < (((rd_T38 l0 x3_1).f1).size : Int) := of_decide_eq_true (by first | (with_reducible assumption) | assumption)
                have hx31 := bt_at ((rd_T38 l0 x3_1).f1) x7_3
                replace p31 := eq_true p31
                replace q31 := eq_true q31
                go_wp2_with (first | (go_at_call 22; (with_reducible refine (variorumref05_Blank.calls (bt ((rd_T38 l0 x3_1).f1) x7_3) false _ A32.out).mono ?_); rintro e w' ⟨rfl, ⟨nd, rfl⟩⟩))
                go_roundg k3
                case measure => have := HK1.out; have := HJ3.out; have := HK3.out; omega
                case rel => exact ⟨(wrap64 (x7_3 + 1)), (by first | rfl | (simp; done) | (simp [*]; done)), H', ⟨by have := HK1.out; have := HJ3.out; have := HK3.out; omega⟩, ⟨by (with_reducible repeat (first | refine blk_drewN ?_ _ | refine blk_drew ?_ | refine blk_alloc ?_ _)); exact BK212.out⟩, ⟨by (with_reducible repeat (first | refine blk_drewN ?_ _ | refine blk_drew ?_ | refine blk_alloc ?_ _)); exact BK218.out⟩, ⟨by repeat (first | (with_reducible first | exact HB.out | apply below_alloc | apply pw_below_drewN | apply below_drew1 | refine below_set ?_ GE212.out | refine below_set ?_ GE218.out) | exact HB.out)⟩⟩
             ·rw [if_neg c30] at H
              exact absurd H (by simp)
            ·rw [if_neg c29] at H
             have c29b0 : (((rd_T38 l0 x3_1).f0) == 0) = false := beq_eq_false_iff_ne.mpr c29
             have c29b1 : (((rd_T38 l0 x3_1).f0) != 0) = true := bne_iff_ne.mpr c29
             by_cases c46 : ((rd_T38 l0 x3_1).f0) = 1
             ·rw [if_pos c46] at H
              have c46b0 : (((rd_T38 l0 x3_1).f0) == 1) = true := beq_iff_eq.mpr c46
              have c46b1 : (((rd_T38 l0 x3_1).f0) != 1) = false := bne_eq_false_iff_eq.mpr c46
              clear c46
              by_cases c47 : 0 ≤ x7_3
              ·rw [if_pos c47] at H
               have c47b0 : decide (0 ≤ x7_3) = true := decide_eq_true c47
               clear c47
               replace H := Option.bind_eq_some_iff.mp H
               obtain ⟨t221, A490, H⟩ := H
               replace H : (if t221 = true then (variorumref05_May.l1 k3 l0 x3_1 (wrap64 (x7_3 + 1)) ((rd_T38 l0 x3_1).f0) ((rd_T38 l0 x3_1).f1) ((rd_T38 l0 x3_1).f2)) else (some false)) = some r := H
               have A49 := Aside0.mk A490
               clear A490
               by_cases c50 : t221 = true
               ·subst c50
                have H1 : (variorumref05_May.l1 k3 l0 x3_1 (wrap64 (x7_3 + 1)) ((rd_T38 l0 x3_1).f0) ((rd_T38 l0 x3_1).f1) ((rd_T38 l0 x3_1).f2)) = some r := by rw [if_pos rfl] at H; exact H
                clear H
                have H := H1
                clear H1
                have H' := Aside0.mk H
                clear H
                have hnb51 := NB212_218.out
                have hnc51 := NB218_212.out
                have hcz52_0 : wr.cell? ⟨gb212, 0, none⟩ = some (.int .i64 ((rd_T38 l0 x3_1).f0)) := (blk_cell BK212.out 0).trans rfl
                have hcz52_1 : wr.cell? ⟨gb212, 1, none⟩ = some (.string ((rd_T38 l0 x3_1).f1)) := (blk_cell BK212.out 1).trans rfl
                have hcz52_2 : wr.cell? ⟨gb212, 2, none⟩ = some (.int .i64 ((rd_T38 l0 x3_1).f2)) := (blk_cell BK212.out 2).trans rfl
                have hfz52_0 := blk_frozen BK212.out 0
                have hfz52_1 := blk_frozen BK212.out 1
                have hfz52_2 := blk_frozen BK212.out 2
                have p48 : 0 ≤ (x7_3 : Int) := of_decide_eq_true (by first | (with_reducible assumption) | assumption)
                have q48 : x7_3 < (((rd_T38 l0 x3_1).f1).size : Int) := of_decide_eq_true (by first | (with_reducible assumption) | assumption)
                have hx48 := bt_at ((rd_T38 l0 x3_1).f1) x7_3
                replace p48 := eq_true p48
                replace q48 := eq_true q48
                go_wp2_with (first | (go_at_call 32; (with_reducible refine (variorumref05_Letter.calls (bt ((rd_T38 l0 x3_1).f1) x7_3) true _ A49.out).mono ?_); rintro e w' ⟨rfl, ⟨nd, rfl⟩⟩))
                go_roundg k3
                case measure => have := HK1.out; have := HJ3.out; have := HK3.out; omega
                case rel => exact ⟨(wrap64 (x7_3 + 1)), (by first | rfl | (simp; done) | (simp [*]; done)), H', ⟨by have := HK1.out; have := HJ3.out; have := HK3.out; omega⟩, ⟨by (with_reducible repeat (first | refine blk_drewN ?_ _ | refine blk_drew ?_ | refine blk_alloc ?_ _)); exact BK212.out⟩, ⟨by (with_reducible repeat (first | refine blk_drewN ?_ _ | refine blk_drew ?_ | refine blk_alloc ?_ _)); exact BK218.out⟩, ⟨by repeat (first | (with_reducible first | exact HB.out | apply below_alloc | apply pw_below_drewN | apply below_drew1 | refine below_set ?_ GE212.out | refine below_set ?_ GE218.out) | exact HB.out)⟩⟩
               ·replace c50 := Bool.eq_false_iff.mpr c50
                subst c50
                have H1 : (some false) = some r := by rw [if_neg (show ¬ (false = true) by decide)] at H; exact H
                clear H
                have H := H1
                clear H1
                obtain rfl := Option.some.inj H
                have hnb53 := NB212_218.out
                have hnc53 := NB218_212.out
                have hcz54_0 : wr.cell? ⟨gb212, 0, none⟩ = some (.int .i64 ((rd_T38 l0 x3_1).f0)) := (blk_cell BK212.out 0).trans rfl
                have hcz54_1 : wr.cell? ⟨gb212, 1, none⟩ = some (.string ((rd_T38 l0 x3_1).f1)) := (blk_cell BK212.out 1).trans rfl
                have hcz54_2 : wr.cell? ⟨gb212, 2, none⟩ = some (.int .i64 ((rd_T38 l0 x3_1).f2)) := (blk_cell BK212.out 2).trans rfl
                have hfz54_0 := blk_frozen BK212.out 0
                have hfz54_1 := blk_frozen BK212.out 1
                have hfz54_2 := blk_frozen BK212.out 2
                have p48 : 0 ≤ (x7_3 : Int) := of_decide_eq_true (by first | (with_reducible assumption) | assumption)
                have q48 : x7_3 < (((rd_T38 l0 x3_1).f1).size : Int) := of_decide_eq_true (by first | (with_reducible assumption) | assumption)
                have hx48 := bt_at ((rd_T38 l0 x3_1).f1) x7_3
                replace p48 := eq_true p48
                replace q48 := eq_true q48
                go_wp2_with (first | (go_at_call 32; (with_reducible refine (variorumref05_Letter.calls (bt ((rd_T38 l0 x3_1).f1) x7_3) false _ A49.out).mono ?_); rintro e w' ⟨rfl, ⟨nd, rfl⟩⟩))
                go_ret
                exact ⟨by first | rfl | (simp [errW_none, errW_some] <;> rfl) | (simp [*, errW_none, errW_some] <;> rfl), by repeat (first | (with_reducible first | exact HB.out | apply below_alloc | apply pw_below_drewN | apply below_drew1 | refine below_set ?_ GE212.out | refine below_set ?_ GE218.out) | exact HB.out)⟩
              ·rw [if_neg c47] at H
               exact absurd H (by simp)
             ·rw [if_neg c46] at H
              have c46b0 : (((rd_T38 l0 x3_1).f0) == 1) = false := beq_eq_false_iff_ne.mpr c46
              have c46b1 : (((rd_T38 l0 x3_1).f0) != 1) = true := bne_iff_ne.mpr c46
              have H' := Aside0.mk H
              clear H
              have hnb55 := NB212_218.out
              have hnc55 := NB218_212.out
              have hcz56_0 : wr.cell? ⟨gb212, 0, none⟩ = some (.int .i64 ((rd_T38 l0 x3_1).f0)) := (blk_cell BK212.out 0).trans rfl
              have hcz56_1 : wr.cell? ⟨gb212, 1, none⟩ = some (.string ((rd_T38 l0 x3_1).f1)) := (blk_cell BK212.out 1).trans rfl
              have hcz56_2 : wr.cell? ⟨gb212, 2, none⟩ = some (.int .i64 ((rd_T38 l0 x3_1).f2)) := (blk_cell BK212.out 2).trans rfl
              have hfz56_0 := blk_frozen BK212.out 0
              have hfz56_1 := blk_frozen BK212.out 1
              have hfz56_2 := blk_frozen BK212.out 2
              go_wp2
              go_roundg k3
              case measure => have := HK1.out; have := HJ3.out; have := HK3.out; omega
              case rel => exact ⟨(wrap64 (x7_3 + 1)), (by first | rfl | (simp; done) | (simp [*]; done)), H', ⟨by have := HK1.out; have := HJ3.out; have := HK3.out; omega⟩, ⟨by (with_reducible repeat (first | refine blk_drewN ?_ _ | refine blk_drew ?_ | refine blk_alloc ?_ _)); exact BK212.out⟩, ⟨by (with_reducible repeat (first | refine blk_drewN ?_ _ | refine blk_drew ?_ | refine blk_alloc ?_ _)); exact BK218.out⟩, ⟨by repeat (first | (with_reducible first | exact HB.out | apply below_alloc | apply pw_below_drewN | apply below_drew1 | refine below_set ?_ GE212.out | refine below_set ?_ GE218.out) | exact HB.out)⟩⟩
           ·rw [if_neg c28] at H
            have c28b0 : decide (x7_3 < (((rd_T38 l0 x3_1).f1).size : Int)) = false := decide_eq_false c28
            clear c28
            have H' := Aside0.mk H
            clear H
            have hnb57 := NB212_218.out
            have hnc57 := NB218_212.out
            have hcz58_0 : wr.cell? ⟨gb212, 0, none⟩ = some (.int .i64 ((rd_T38 l0 x3_1).f0)) := (blk_cell BK212.out 0).trans rfl
            have hcz58_1 : wr.cell? ⟨gb212, 1, none⟩ = some (.string ((rd_T38 l0 x3_1).f1)) := (blk_cell BK212.out 1).trans rfl
            have hcz58_2 : wr.cell? ⟨gb212, 2, none⟩ = some (.int .i64 ((rd_T38 l0 x3_1).f2)) := (blk_cell BK212.out 2).trans rfl
            have hfz58_0 := blk_frozen BK212.out 0
            have hfz58_1 := blk_frozen BK212.out 1
            have hfz58_2 := blk_frozen BK212.out 2
            go_wp2
            go_roundg k3
            case measure => have := HK1.out; have := HJ3.out; have := HK3.out; omega
            case rel => exact ⟨(wrap64 (x3_1 + 1)), (by first | rfl | (simp; done) | (simp [*]; done)), H', ⟨by have := HK1.out; have := HJ3.out; have := HK3.out; omega⟩, ⟨by repeat (first | (with_reducible first | exact HB.out | apply below_alloc | apply pw_below_drewN | apply below_drew1 | refine below_set ?_ GE212.out | refine below_set ?_ GE218.out) | exact HB.out)⟩⟩
        ·rw [if_neg c22] at H
         have c22b0 : (t216 == 0) = false := beq_eq_false_iff_ne.mpr c22
         have c22b1 : (t216 != 0) = true := bne_iff_ne.mpr c22
         obtain rfl := Option.some.inj H
         have hcz59_0 : wc.cell? ⟨gb212, 0, none⟩ = some (.int .i64 ((rd_T38 l0 x3_1).f0)) := (blk_cell BK212.out 0).trans rfl
         have hcz59_1 : wc.cell? ⟨gb212, 1, none⟩ = some (.string ((rd_T38 l0 x3_1).f1)) := (blk_cell BK212.out 1).trans rfl
         have hcz59_2 : wc.cell? ⟨gb212, 2, none⟩ = some (.int .i64 ((rd_T38 l0 x3_1).f2)) := (blk_cell BK212.out 2).trans rfl
         have hfz59_0 := blk_frozen BK212.out 0
         have hfz59_1 := blk_frozen BK212.out 1
         have hfz59_2 := blk_frozen BK212.out 2
         go_wp2_with (first | ((with_reducible refine gate_callee (f := 30) rfl ?_); refine goesL_ (some 49) rfl rfl Tryz.func30 (by kernel_rfl) rfl #[.string ((rd_T38 l0 x3_1).f1)] rfl (by (try simp only [List.map_toArray, List.map_cons, List.map_nil]); first | done | rfl | (simp only [List.length_drop, List.length_take]; rfl) | (simp only [*]; first | done | rfl)) ?_; (with_reducible refine (variorumref04_Decode.calls kj3 ((rd_T38 l0 x3_1).f1) t213 t216 t217 _ A21.out).mono ?_); rintro e w60 ⟨v214, rfl, ho0, hb⟩; refine ⟨_, rfl, ?_⟩; have n0_ := Aside0.mk (Kd.R_lower ho0 (below_size (by repeat (first | (with_reducible first | exact HB.out | apply below_alloc | apply pw_below_drewN | apply below_drew1 | refine below_set ?_ GE212.out) | exact HB.out)))); have n1_ := Aside0.mk (blk_below (g := gb212) (o := .cells #[.int .i64 ((rd_T38 l0 x3_1).f0), .string ((rd_T38 l0 x3_1).f1), .int .i64 ((rd_T38 l0 x3_1).f2)] 38 (0, 0)) (by (with_reducible repeat (first | refine blk_drewN ?_ _ | refine blk_drew ?_ | refine blk_alloc ?_ _)); exact BK212.out) hb); have n2_ := Aside0.mk (below_step (by repeat (first | (with_reducible first | exact HB.out | apply below_alloc | apply pw_below_drewN | apply below_drew1 | refine below_set ?_ GE212.out) | exact HB.out)) hb); clear BK212; clear HB; have HO215 := n0_; have BK212 := n1_; have HB := n2_; clear n0_ n1_ n2_; (try clear hb); (try clear hb2); (try clear hk); (try clear hi); (try clear ho0)) | ((with_reducible refine gate_dst (N := 6) rfl ?_); refine box_event ?hg (N := 6) ?hd (cs := #[.int .i64 0, .int .i64 0]) (t := 25) ?hr ?_; (case hd => rfl); (case hg => rfl); (case hr => first | (go_simp; done) | (go_simp; rfl)); intro gb218 hg w61 hbox hb; have n0_ := Aside0.mk (Kd.R_below (by (with_reducible repeat (first | apply Kd.R_alloc | apply Kd.R_drewN | apply Kd.R_drew)); exact HO215.out) hb); have n1_ := Aside0.mk (blk_below (g := gb212) (o := .cells #[.int .i64 ((rd_T38 l0 x3_1).f0), .string ((rd_T38 l0 x3_1).f1), .int .i64 ((rd_T38 l0 x3_1).f2)] 38 (0, 0)) (by (with_reducible repeat (first | refine blk_drewN ?_ _ | refine blk_drew ?_ | refine blk_alloc ?_ _)); exact BK212.out) hb); have n2_ := Aside0.mk (below_step (by repeat (first | (with_reducible first | exact HB.out | apply below_alloc | apply pw_below_drewN | apply below_drew1 | refine below_set ?_ GE212.out) | exact HB.out)) hb); have n3_ := Aside0.mk (hbox); have n4_ := Aside0.mk ((by rw [hg]; exact (below_size (by repeat (first | (with_reducible first | exact HB.out | apply below_alloc | apply pw_below_drewN | apply below_drew1 | refine below_set ?_ GE212.out) | exact HB.out))) : w.heap.size ≤ gb218)); have n5_ := Aside0.mk ((by rw [hg]; exact (below_size (by repeat (first | (with_reducible first | exact HB.out | apply below_alloc | apply pw_below_drewN | apply below_drew1 | refine below_set ?_ GE212.out) | exact HB.out))) : w.heap.size ≤ gb218)); have n6_ := Aside0.mk ((by rw [hg]; exact Nat.ne_of_lt (blk_lt (g := gb212) (o := .cells #[.int .i64 ((rd_T38 l0 x3_1).f0), .string ((rd_T38 l0 x3_1).f1), .int .i64 ((rd_T38 l0 x3_1).f2)] 38 (0, 0)) (by (with_reducible repeat (first | refine blk_drewN ?_ _ | refine blk_drew ?_ | refine blk_alloc ?_ _)); exact BK212.out)) : gb212 ≠ gb218)); have n7_ := Aside0.mk ((by rw [hg]; exact Nat.ne_of_gt (blk_lt (g := gb212) (o := .cells #[.int .i64 ((rd_T38 l0 x3_1).f0), .string ((rd_T38 l0 x3_1).f1), .int .i64 ((rd_T38 l0 x3_1).f2)] 38 (0, 0)) (by (with_reducible repeat (first | refine blk_drewN ?_ _ | refine blk_drew ?_ | refine blk_alloc ?_ _)); exact BK212.out)) : gb218 ≠ gb212)); clear HO215; clear BK212; clear HB; have HO215 := n0_; have BK212 := n1_; have HB := n2_; have BK218 := n3_; have GW218 := n4_; have GE218 := n5_; have NB212_218 := n6_; have NB218_212 := n7_; clear n0_ n1_ n2_ n3_ n4_ n5_ n6_ n7_; clear hb hbox hg; have hnb62 := NB218_212.out; have hnc62 := NB212_218.out; have hcz63_0 : w61.cell? ⟨gb218, 0, none⟩ = some (.int .i64 0) := (blk_cell BK218.out 0).trans rfl; have hcz63_1 : w61.cell? ⟨gb218, 1, none⟩ = some (.int .i64 0) := (blk_cell BK218.out 1).trans rfl; have hfz63_0 := blk_frozen BK218.out 0; have hfz63_1 := blk_frozen BK218.out 1))
         go_ret
         exact ⟨by first | rfl | (simp [errW_none, errW_some] <;> rfl) | (simp [*, errW_none, errW_some] <;> rfl), by repeat (first | (with_reducible first | exact HB.out | apply below_alloc | apply pw_below_drewN | apply below_drew1 | refine below_set ?_ GE212.out | refine below_set ?_ GE218.out) | exact HB.out)⟩
    ·rw [if_neg c3] at H
     exact absurd H (by simp)
   ·rw [if_neg c2] at H
    have c2b0 : decide (x3_1 < (l0.length : Int)) = false := decide_eq_false c2
    clear c2
    obtain rfl := Option.some.inj H
    go_wp2
    go_ret
    exact ⟨by first | rfl | (simp [errW_none, errW_some] <;> rfl) | (simp [*, errW_none, errW_some] <;> rfl), by repeat (first | (with_reducible first | exact HB.out | apply below_alloc | apply pw_below_drewN | apply below_drew1) | exact HB.out)⟩

end Go.Proofs.YtjiljpddkfcdbaaGreatDoor.PLx

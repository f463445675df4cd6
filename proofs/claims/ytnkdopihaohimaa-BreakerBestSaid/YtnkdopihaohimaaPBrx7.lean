/- Written by a program of this session: functions of the given program as plain Lean functions, the walks that show it, and the row of each law, for every input that its statement speaks of. -/
import Derived.Test.YtnkdopihaohimaaPBrx0
import Derived.Test.YtnkdopihaohimaaPBrx4
namespace Go.Proofs.Ytnkdopihaohimaa.PBr
open Go.RowKit Go.Proofs.YtnkdopihaohimaaW.PrintWords Go.Proofs.YtnkdopihaohimaaW.PrintLast Go.Proofs.YtnkdopihaohimaaW.PrintMore
attribute [local go_sem] max2_int min2_int max_two min_two max_three min_three max_four min_four   -- for this text's walks alone
set_option linter.unusedVariables false
set_option linter.unusedSimpArgs false

/-! ### demerit_Demerits: function 46 -/
def demerit_Demerits.f (a0_0 : Int) (a0_1 : Int) (a0_2 : Int) (a0_3 : Int) (a1 : Bool) (a2_0 : Int) (a2_1 : Int) (a2_2 : Int) (a2_3 : Int) (a2_4 : Int) (a2_5 : Int) (a2_6 : Bool) (a2_7 : Int) (a2_8 : Int) : Option (Int) := if a2_0 = 2 then (if a2_5 > 0 then (if a1 = true then (if a2_6 = true then (some (wrap64 ((wrap64 ((wrap64 ((wrap64 (a0_3 + 10)) * (wrap64 (a0_3 + 10)))) + (wrap64 (a2_5 * a2_5)))) + 10000))) else (some (wrap64 ((wrap64 ((wrap64 (a0_3 + 10)) * (wrap64 (a0_3 + 10)))) + (wrap64 (a2_5 * a2_5)))))) else (some (wrap64 ((wrap64 ((wrap64 (a0_3 + 10)) * (wrap64 (a0_3 + 10)))) + (wrap64 (a2_5 * a2_5)))))) else ((demerit_Forced.f a2_0 a2_1 a2_2 a2_3 a2_4 a2_5 a2_6 a2_7 a2_8).bind fun t156 => (if t156 = true then (if a1 = true then (if a2_6 = true then (some (wrap64 ((wrap64 ((wrap64 (a0_3 + 10)) * (wrap64 (a0_3 + 10)))) + 10000))) else (some (wrap64 ((wrap64 (a0_3 + 10)) * (wrap64 (a0_3 + 10)))))) else (some (wrap64 ((wrap64 (a0_3 + 10)) * (wrap64 (a0_3 + 10)))))) else (if a1 = true then (if a2_6 = true then (some (wrap64 ((wrap64 ((wrap64 ((wrap64 (a0_3 + 10)) * (wrap64 (a0_3 + 10)))) - (wrap64 (a2_5 * a2_5)))) + 10000))) else (some (wrap64 ((wrap64 ((wrap64 (a0_3 + 10)) * (wrap64 (a0_3 + 10)))) - (wrap64 (a2_5 * a2_5)))))) else (some (wrap64 ((wrap64 ((wrap64 (a0_3 + 10)) * (wrap64 (a0_3 + 10)))) - (wrap64 (a2_5 * a2_5))))))))) else (if a1 = true then (if a2_6 = true then (some (wrap64 ((wrap64 ((wrap64 (a0_3 + 10)) * (wrap64 (a0_3 + 10)))) + 10000))) else (some (wrap64 ((wrap64 (a0_3 + 10)) * (wrap64 (a0_3 + 10)))))) else (some (wrap64 ((wrap64 (a0_3 + 10)) * (wrap64 (a0_3 + 10))))))
set_option maxHeartbeats 8000000 in
set_option maxRecDepth 100000 in
theorem demerit_Demerits.calls (a0_0 : Int) (a0_1 : Int) (a0_2 : Int) (a0_3 : Int) (a1 : Bool) (a2_0 : Int) (a2_1 : Int) (a2_2 : Int) (a2_3 : Int) (a2_4 : Int) (a2_5 : Int) (a2_6 : Bool) (a2_7 : Int) (a2_8 : Int) (r : Int) (w : World) (h : demerit_Demerits.f a0_0 a0_1 a0_2 a0_3 a1 a2_0 a2_1 a2_2 a2_3 a2_4 a2_5 a2_6 a2_7 a2_8 = some r) :
  Calls Try.prog 46 #[.agg #[.int .i64 a0_0, .int .i64 a0_1, .int .i64 a0_2, .int .i64 a0_3], .bool a1, .agg #[.int .i64 a2_0, .int .i64 a2_1, .int .i64 a2_2, .int .i64 a2_3, .int .i64 a2_4, .int .i64 a2_5, .bool a2_6, .int .i64 a2_7, .int .i64 a2_8]] w fun e w' => e = .returned (.int .i64 r) ∧ Below w.heap.size w w' := by
 have hu70 := Try.underlying70
 have hu47 := Try.underlying47
 have HB := a_ (Below.refl w.heap.size w)
 have H : (if a2_0 = 2 then (if a2_5 > 0 then (if a1 = true then (if a2_6 = true then (some (wrap64 ((wrap64 ((wrap64 ((wrap64 (a0_3 + 10)) * (wrap64 (a0_3 + 10)))) + (wrap64 (a2_5 * a2_5)))) + 10000))) else (some (wrap64 ((wrap64 ((wrap64 (a0_3 + 10)) * (wrap64 (a0_3 + 10)))) + (wrap64 (a2_5 * a2_5)))))) else (some (wrap64 ((wrap64 ((wrap64 (a0_3 + 10)) * (wrap64 (a0_3 + 10)))) + (wrap64 (a2_5 * a2_5)))))) else ((demerit_Forced.f a2_0 a2_1 a2_2 a2_3 a2_4 a2_5 a2_6 a2_7 a2_8).bind fun t156 => (if t156 = true then (if a1 = true then (if a2_6 = true then (some (wrap64 ((wrap64 ((wrap64 (a0_3 + 10)) * (wrap64 (a0_3 + 10)))) + 10000))) else (some (wrap64 ((wrap64 (a0_3 + 10)) * (wrap64 (a0_3 + 10)))))) else (some (wrap64 ((wrap64 (a0_3 + 10)) * (wrap64 (a0_3 + 10)))))) else (if a1 = true then (if a2_6 = true then (some (wrap64 ((wrap64 ((wrap64 ((wrap64 (a0_3 + 10)) * (wrap64 (a0_3 + 10)))) - (wrap64 (a2_5 * a2_5)))) + 10000))) else (some (wrap64 ((wrap64 ((wrap64 (a0_3 + 10)) * (wrap64 (a0_3 + 10)))) - (wrap64 (a2_5 * a2_5)))))) else (some (wrap64 ((wrap64 ((wrap64 (a0_3 + 10)) * (wrap64 (a0_3 + 10)))) - (wrap64 (a2_5 * a2_5))))))))) else (if a1 = true then (if a2_6 = true then (some (wrap64 ((wrap64 ((wrap64 (a0_3 + 10)) * (wrap64 (a0_3 + 10)))) + 10000))) else (some (wrap64 ((wrap64 (a0_3 + 10)) * (wrap64 (a0_3 + 10)))))) else (some (wrap64 ((wrap64 (a0_3 + 10)) * (wrap64 (a0_3 + 10))))))) = some r := h
 clear h
 by_cases c4 : a2_0 = 2
 ·rw [if_pos c4] at H
  have c4b0 : (a2_0 == 2) = true := beq_iff_eq.mpr c4
  have c4b1 : (a2_0 != 2) = false := bne_eq_false_iff_eq.mpr c4
  clear c4
  by_cases c5 : a2_5 > 0
  ·rw [if_pos c5] at H
   have c5b0 : decide (0 < a2_5) = true := decide_eq_true c5
   clear c5
   by_cases c6 : a1 = true
   ·subst c6
    have H1 : (if a2_6 = true then (some (wrap64 ((wrap64 ((wrap64 ((wrap64 (a0_3 + 10)) * (wrap64 (a0_3 + 10)))) + (wrap64 (a2_5 * a2_5)))) + 10000))) else (some (wrap64 ((wrap64 ((wrap64 (a0_3 + 10)) * (wrap64 (a0_3 + 10)))) + (wrap64 (a2_5 * a2_5)))))) = some r := by rw [if_pos rfl] at H; exact H
    clear H
    have H := H1
    clear H1
    by_cases c7 : a2_6 = true
    ·subst c7
     have H1 : (some (wrap64 ((wrap64 ((wrap64 ((wrap64 (a0_3 + 10)) * (wrap64 (a0_3 + 10)))) + (wrap64 (a2_5 * a2_5)))) + 10000))) = some r := by rw [if_pos rfl] at H; exact H
     clear H
     have H := H1
     clear H1
     obtain rfl := Option.some.inj H
     go_enter Try.func46, Try.ntmps46
     go_wp2_with (first | ((with_reducible refine gate_dst (N := 3) rfl ?_); refine box_event ?hg (N := 3) ?hd (cs := #[.int .i64 a0_0, .int .i64 a0_1, .int .i64 a0_2, .int .i64 a0_3]) (t := 70) ?hr ?_; (case hd => rfl); (case hg => rfl); (case hr => first | (go_simp; done) | (go_simp; rfl)); intro gb154 hg w8 hbox hb; have n0_ := a_ (bs_ HB.out hb); have n1_ := a_ (hbox); have n2_ := a_ ((by rw [hg]; exact (below_size (bv_ HB.out)) : w.heap.size ≤ gb154)); have n3_ := a_ ((by rw [hg]; exact (below_size (bv_ HB.out)) : w.heap.size ≤ gb154)); clear HB; have HB := n0_; have BK154 := n1_; have GW154 := n2_; have GE154 := n3_; clear n0_ n1_ n2_ n3_; clear hb hbox hg) | ((with_reducible refine gate_dst (N := 5) rfl ?_); refine box_event ?hg (N := 5) ?hd (cs := #[.int .i64 a2_0, .int .i64 a2_1, .int .i64 a2_2, .int .i64 a2_3, .int .i64 a2_4, .int .i64 a2_5, .bool true, .int .i64 a2_7, .int .i64 a2_8]) (t := 47) ?hr ?_; (case hd => rfl); (case hg => rfl); (case hr => first | (go_simp; done) | (go_simp; rfl)); intro gb155 hg w9 hbox hb; have n0_ := a_ (kb_ BK154.out hb); have n1_ := a_ (below_step (bS1_ HB.out GE154.out) hb); have n2_ := a_ (hbox); have n3_ := a_ ((by rw [hg]; exact (below_size (bS1_ HB.out GE154.out)) : w.heap.size ≤ gb155)); have n4_ := a_ ((by rw [hg]; exact (below_size (bS1_ HB.out GE154.out)) : w.heap.size ≤ gb155)); have n5_ := a_ ((by rw [hg]; exact Nat.ne_of_lt (blk_lt (kv_ BK154.out)) : gb154 ≠ gb155)); have n6_ := a_ ((by rw [hg]; exact Nat.ne_of_gt (blk_lt (kv_ BK154.out)) : gb155 ≠ gb154)); clear BK154; clear HB; have BK154 := n0_; have HB := n1_; have BK155 := n2_; have GW155 := n3_; have GE155 := n4_; have NB154_155 := n5_; have NB155_154 := n6_; clear n0_ n1_ n2_ n3_ n4_ n5_ n6_; clear hb hbox hg; have hnb10 := NB154_155.out; have hnc10 := NB155_154.out; obtain ⟨⟨Z11_0, Y11_0⟩, ⟨Z11_1, Y11_1⟩, ⟨Z11_2, Y11_2⟩, Z11_3, Y11_3⟩ := cs4_ BK154.out; obtain ⟨⟨Z12_0, Y12_0⟩, ⟨Z12_1, Y12_1⟩, ⟨Z12_2, Y12_2⟩, ⟨Z12_3, Y12_3⟩, ⟨Z12_4, Y12_4⟩, ⟨Z12_5, Y12_5⟩, ⟨Z12_6, Y12_6⟩, ⟨Z12_7, Y12_7⟩, Z12_8, Y12_8⟩ := cs9_ BK155.out))
     go_ret
     exact ⟨by first | rfl | (simp [errW_none, errW_some] <;> rfl) | (simp [*, errW_none, errW_some] <;> rfl), bS2_ HB.out GE154.out GE155.out⟩
    ·replace c7 := Bool.eq_false_iff.mpr c7
     subst c7
     have H1 : (some (wrap64 ((wrap64 ((wrap64 (a0_3 + 10)) * (wrap64 (a0_3 + 10)))) + (wrap64 (a2_5 * a2_5))))) = some r := by rw [if_neg (show ¬ (false = true) by decide)] at H; exact H
     clear H
     have H := H1
     clear H1
     obtain rfl := Option.some.inj H
     go_enter Try.func46, Try.ntmps46
     go_wp2_with (first | ((with_reducible refine gate_dst (N := 3) rfl ?_); refine box_event ?hg (N := 3) ?hd (cs := #[.int .i64 a0_0, .int .i64 a0_1, .int .i64 a0_2, .int .i64 a0_3]) (t := 70) ?hr ?_; (case hd => rfl); (case hg => rfl); (case hr => first | (go_simp; done) | (go_simp; rfl)); intro gb154 hg w13 hbox hb; have n0_ := a_ (bs_ HB.out hb); have n1_ := a_ (hbox); have n2_ := a_ ((by rw [hg]; exact (below_size (bv_ HB.out)) : w.heap.size ≤ gb154)); have n3_ := a_ ((by rw [hg]; exact (below_size (bv_ HB.out)) : w.heap.size ≤ gb154)); clear HB; have HB := n0_; have BK154 := n1_; have GW154 := n2_; have GE154 := n3_; clear n0_ n1_ n2_ n3_; clear hb hbox hg) | ((with_reducible refine gate_dst (N := 5) rfl ?_); refine box_event ?hg (N := 5) ?hd (cs := #[.int .i64 a2_0, .int .i64 a2_1, .int .i64 a2_2, .int .i64 a2_3, .int .i64 a2_4, .int .i64 a2_5, .bool false, .int .i64 a2_7, .int .i64 a2_8]) (t := 47) ?hr ?_; (case hd => rfl); (case hg => rfl); (case hr => first | (go_simp; done) | (go_simp; rfl)); intro gb155 hg w14 hbox hb; have n0_ := a_ (kb_ BK154.out hb); have n1_ := a_ (below_step (bS1_ HB.out GE154.out) hb); have n2_ := a_ (hbox); have n3_ := a_ ((by rw [hg]; exact (below_size (bS1_ HB.out GE154.out)) : w.heap.size ≤ gb155)); have n4_ := a_ ((by rw [hg]; exact (below_size (bS1_ HB.out GE154.out)) : w.heap.size ≤ gb155)); have n5_ := a_ ((by rw [hg]; exact Nat.ne_of_lt (blk_lt (kv_ BK154.out)) : gb154 ≠ gb155)); have n6_ := a_ ((by rw [hg]; exact Nat.ne_of_gt (blk_lt (kv_ BK154.out)) : gb155 ≠ gb154)); clear BK154; clear HB; have BK154 := n0_; have HB := n1_; have BK155 := n2_; have GW155 := n3_; have GE155 := n4_; have NB154_155 := n5_; have NB155_154 := n6_; clear n0_ n1_ n2_ n3_ n4_ n5_ n6_; clear hb hbox hg; have hnb15 := NB154_155.out; have hnc15 := NB155_154.out; obtain ⟨⟨Z16_0, Y16_0⟩, ⟨Z16_1, Y16_1⟩, ⟨Z16_2, Y16_2⟩, Z16_3, Y16_3⟩ := cs4_ BK154.out; obtain ⟨⟨Z17_0, Y17_0⟩, ⟨Z17_1, Y17_1⟩, ⟨Z17_2, Y17_2⟩, ⟨Z17_3, Y17_3⟩, ⟨Z17_4, Y17_4⟩, ⟨Z17_5, Y17_5⟩, ⟨Z17_6, Y17_6⟩, ⟨Z17_7, Y17_7⟩, Z17_8, Y17_8⟩ := cs9_ BK155.out))
     go_ret
     exact ⟨by first | rfl | (simp [errW_none, errW_some] <;> rfl) | (simp [*, errW_none, errW_some] <;> rfl), bS2_ HB.out GE154.out GE155.out⟩
   ·replace c6 := Bool.eq_false_iff.mpr c6
    subst c6
    have H1 : (some (wrap64 ((wrap64 ((wrap64 (a0_3 + 10)) * (wrap64 (a0_3 + 10)))) + (wrap64 (a2_5 * a2_5))))) = some r := by rw [if_neg (show ¬ (false = true) by decide)] at H; exact H
    clear H
    have H := H1
    clear H1
    obtain rfl := Option.some.inj H
    go_enter Try.func46, Try.ntmps46
    go_wp2_with (first | ((with_reducible refine gate_dst (N := 3) rfl ?_); refine box_event ?hg (N := 3) ?hd (cs := #[.int .i64 a0_0, .int .i64 a0_1, .int .i64 a0_2, .int .i64 a0_3]) (t := 70) ?hr ?_; (case hd => rfl); (case hg => rfl); (case hr => first | (go_simp; done) | (go_simp; rfl)); intro gb154 hg w18 hbox hb; have n0_ := a_ (bs_ HB.out hb); have n1_ := a_ (hbox); have n2_ := a_ ((by rw [hg]; exact (below_size (bv_ HB.out)) : w.heap.size ≤ gb154)); have n3_ := a_ ((by rw [hg]; exact (below_size (bv_ HB.out)) : w.heap.size ≤ gb154)); clear HB; have HB := n0_; have BK154 := n1_; have GW154 := n2_; have GE154 := n3_; clear n0_ n1_ n2_ n3_; clear hb hbox hg) | ((with_reducible refine gate_dst (N := 5) rfl ?_); refine box_event ?hg (N := 5) ?hd (cs := #[.int .i64 a2_0, .int .i64 a2_1, .int .i64 a2_2, .int .i64 a2_3, .int .i64 a2_4, .int .i64 a2_5, .bool a2_6, .int .i64 a2_7, .int .i64 a2_8]) (t := 47) ?hr ?_; (case hd => rfl); (case hg => rfl); (case hr => first | (go_simp; done) | (go_simp; rfl)); intro gb155 hg w19 hbox hb; have n0_ := a_ (kb_ BK154.out hb); have n1_ := a_ (below_step (bS1_ HB.out GE154.out) hb); have n2_ := a_ (hbox); have n3_ := a_ ((by rw [hg]; exact (below_size (bS1_ HB.out GE154.out)) : w.heap.size ≤ gb155)); have n4_ := a_ ((by rw [hg]; exact (below_size (bS1_ HB.out GE154.out)) : w.heap.size ≤ gb155)); have n5_ := a_ ((by rw [hg]; exact Nat.ne_of_lt (blk_lt (kv_ BK154.out)) : gb154 ≠ gb155)); have n6_ := a_ ((by rw [hg]; exact Nat.ne_of_gt (blk_lt (kv_ BK154.out)) : gb155 ≠ gb154)); clear BK154; clear HB; have BK154 := n0_; have HB := n1_; have BK155 := n2_; have GW155 := n3_; have GE155 := n4_; have NB154_155 := n5_; have NB155_154 := n6_; clear n0_ n1_ n2_ n3_ n4_ n5_ n6_; clear hb hbox hg; have hnb20 := NB154_155.out; have hnc20 := NB155_154.out; obtain ⟨⟨Z21_0, Y21_0⟩, ⟨Z21_1, Y21_1⟩, ⟨Z21_2, Y21_2⟩, Z21_3, Y21_3⟩ := cs4_ BK154.out; obtain ⟨⟨Z22_0, Y22_0⟩, ⟨Z22_1, Y22_1⟩, ⟨Z22_2, Y22_2⟩, ⟨Z22_3, Y22_3⟩, ⟨Z22_4, Y22_4⟩, ⟨Z22_5, Y22_5⟩, ⟨Z22_6, Y22_6⟩, ⟨Z22_7, Y22_7⟩, Z22_8, Y22_8⟩ := cs9_ BK155.out))
    go_ret
    exact ⟨by first | rfl | (simp [errW_none, errW_some] <;> rfl) | (simp [*, errW_none, errW_some] <;> rfl), bS2_ HB.out GE154.out GE155.out⟩
  ·rw [if_neg c5] at H
   have c5b0 : decide (0 < a2_5) = false := decide_eq_false c5
   clear c5
   replace H := Option.bind_eq_some_iff.mp H
   obtain ⟨t156, A230, H⟩ := H
   replace H : (if t156 = true then (if a1 = true then (if a2_6 = true then (some (wrap64 ((wrap64 ((wrap64 (a0_3 + 10)) * (wrap64 (a0_3 + 10)))) + 10000))) else (some (wrap64 ((wrap64 (a0_3 + 10)) * (wrap64 (a0_3 + 10)))))) else (some (wrap64 ((wrap64 (a0_3 + 10)) * (wrap64 (a0_3 + 10)))))) else (if a1 = true then (if a2_6 = true then (some (wrap64 ((wrap64 ((wrap64 ((wrap64 (a0_3 + 10)) * (wrap64 (a0_3 + 10)))) - (wrap64 (a2_5 * a2_5)))) + 10000))) else (some (wrap64 ((wrap64 ((wrap64 (a0_3 + 10)) * (wrap64 (a0_3 + 10)))) - (wrap64 (a2_5 * a2_5)))))) else (some (wrap64 ((wrap64 ((wrap64 (a0_3 + 10)) * (wrap64 (a0_3 + 10)))) - (wrap64 (a2_5 * a2_5))))))) = some r := H
   have A23 := a_ A230
   clear A230
   by_cases c24 : t156 = true
   ·subst c24
    have H1 : (if a1 = true then (if a2_6 = true then (some (wrap64 ((wrap64 ((wrap64 (a0_3 + 10)) * (wrap64 (a0_3 + 10)))) + 10000))) else (some (wrap64 ((wrap64 (a0_3 + 10)) * (wrap64 (a0_3 + 10)))))) else (some (wrap64 ((wrap64 (a0_3 + 10)) * (wrap64 (a0_3 + 10)))))) = some r := by rw [if_pos rfl] at H; exact H
    clear H
    have H := H1
    clear H1
    by_cases c25 : a1 = true
    ·subst c25
     have H1 : (if a2_6 = true then (some (wrap64 ((wrap64 ((wrap64 (a0_3 + 10)) * (wrap64 (a0_3 + 10)))) + 10000))) else (some (wrap64 ((wrap64 (a0_3 + 10)) * (wrap64 (a0_3 + 10)))))) = some r := by rw [if_pos rfl] at H; exact H
     clear H
     have H := H1
     clear H1
     by_cases c26 : a2_6 = true
     ·subst c26
      have H1 : (some (wrap64 ((wrap64 ((wrap64 (a0_3 + 10)) * (wrap64 (a0_3 + 10)))) + 10000))) = some r := by rw [if_pos rfl] at H; exact H
      clear H
      have H := H1
      clear H1
      obtain rfl := Option.some.inj H
      go_enter Try.func46, Try.ntmps46
      go_wp2_with (first | ((with_reducible refine gate_dst (N := 3) rfl ?_); refine box_event ?hg (N := 3) ?hd (cs := #[.int .i64 a0_0, .int .i64 a0_1, .int .i64 a0_2, .int .i64 a0_3]) (t := 70) ?hr ?_; (case hd => rfl); (case hg => rfl); (case hr => first | (go_simp; done) | (go_simp; rfl)); intro gb154 hg w27 hbox hb; have n0_ := a_ (bs_ HB.out hb); have n1_ := a_ (hbox); have n2_ := a_ ((by rw [hg]; exact (below_size (bv_ HB.out)) : w.heap.size ≤ gb154)); have n3_ := a_ ((by rw [hg]; exact (below_size (bv_ HB.out)) : w.heap.size ≤ gb154)); clear HB; have HB := n0_; have BK154 := n1_; have GW154 := n2_; have GE154 := n3_; clear n0_ n1_ n2_ n3_; clear hb hbox hg) | ((with_reducible refine gate_dst (N := 5) rfl ?_); refine box_event ?hg (N := 5) ?hd (cs := #[.int .i64 a2_0, .int .i64 a2_1, .int .i64 a2_2, .int .i64 a2_3, .int .i64 a2_4, .int .i64 a2_5, .bool true, .int .i64 a2_7, .int .i64 a2_8]) (t := 47) ?hr ?_; (case hd => rfl); (case hg => rfl); (case hr => first | (go_simp; done) | (go_simp; rfl)); intro gb155 hg w28 hbox hb; have n0_ := a_ (kb_ BK154.out hb); have n1_ := a_ (below_step (bS1_ HB.out GE154.out) hb); have n2_ := a_ (hbox); have n3_ := a_ ((by rw [hg]; exact (below_size (bS1_ HB.out GE154.out)) : w.heap.size ≤ gb155)); have n4_ := a_ ((by rw [hg]; exact (below_size (bS1_ HB.out GE154.out)) : w.heap.size ≤ gb155)); have n5_ := a_ ((by rw [hg]; exact Nat.ne_of_lt (blk_lt (kv_ BK154.out)) : gb154 ≠ gb155)); have n6_ := a_ ((by rw [hg]; exact Nat.ne_of_gt (blk_lt (kv_ BK154.out)) : gb155 ≠ gb154)); clear BK154; clear HB; have BK154 := n0_; have HB := n1_; have BK155 := n2_; have GW155 := n3_; have GE155 := n4_; have NB154_155 := n5_; have NB155_154 := n6_; clear n0_ n1_ n2_ n3_ n4_ n5_ n6_; clear hb hbox hg; have hnb29 := NB154_155.out; have hnc29 := NB155_154.out; obtain ⟨⟨Z30_0, Y30_0⟩, ⟨Z30_1, Y30_1⟩, ⟨Z30_2, Y30_2⟩, Z30_3, Y30_3⟩ := cs4_ BK154.out; obtain ⟨⟨Z31_0, Y31_0⟩, ⟨Z31_1, Y31_1⟩, ⟨Z31_2, Y31_2⟩, ⟨Z31_3, Y31_3⟩, ⟨Z31_4, Y31_4⟩, ⟨Z31_5, Y31_5⟩, ⟨Z31_6, Y31_6⟩, ⟨Z31_7, Y31_7⟩, Z31_8, Y31_8⟩ := cs9_ BK155.out) | ((with_reducible refine gate_callee (f := 37) rfl ?_); refine gl_ (some 33) Try.func37 (by kernel_rfl) #[.agg #[.int .i64 a2_0, .int .i64 a2_1, .int .i64 a2_2, .int .i64 a2_3, .int .i64 a2_4, .int .i64 a2_5, .bool true, .int .i64 a2_7, .int .i64 a2_8]] ?_; (with_reducible refine (demerit_Forced.calls a2_0 a2_1 a2_2 a2_3 a2_4 a2_5 true a2_7 a2_8 true _ A23.out).mono ?_); rintro e w32 ⟨rfl, hb⟩; refine ⟨_, rfl, ?_⟩; have n0_ := a_ (kb_ BK154.out hb); have n1_ := a_ (kb_ BK155.out hb); have n2_ := a_ (below_step (bS2_ HB.out GE154.out GE155.out) hb); clear BK154; clear BK155; clear HB; have BK154 := n0_; have BK155 := n1_; have HB := n2_; clear n0_ n1_ n2_; (try clear hb); (try clear hb2); (try clear hk); (try clear hi); obtain ⟨⟨Z33_0, Y33_0⟩, ⟨Z33_1, Y33_1⟩, ⟨Z33_2, Y33_2⟩, ⟨Z33_3, Y33_3⟩, ⟨Z33_4, Y33_4⟩, ⟨Z33_5, Y33_5⟩, ⟨Z33_6, Y33_6⟩, ⟨Z33_7, Y33_7⟩, Z33_8, Y33_8⟩ := cs9_ BK155.out))
      go_ret
      exact ⟨by first | rfl | (simp [errW_none, errW_some] <;> rfl) | (simp [*, errW_none, errW_some] <;> rfl), bS2_ HB.out GE154.out GE155.out⟩
     ·replace c26 := Bool.eq_false_iff.mpr c26
      subst c26
      have H1 : (some (wrap64 ((wrap64 (a0_3 + 10)) * (wrap64 (a0_3 + 10))))) = some r := by rw [if_neg (show ¬ (false = true) by decide)] at H; exact H
      clear H
      have H := H1
      clear H1
      obtain rfl := Option.some.inj H
      go_enter Try.func46, Try.ntmps46
      go_wp2_with (first | ((with_reducible refine gate_dst (N := 3) rfl ?_); refine box_event ?hg (N := 3) ?hd (cs := #[.int .i64 a0_0, .int .i64 a0_1, .int .i64 a0_2, .int .i64 a0_3]) (t := 70) ?hr ?_; (case hd => rfl); (case hg => rfl); (case hr => first | (go_simp; done) | (go_simp; rfl)); intro gb154 hg w34 hbox hb; have n0_ := a_ (bs_ HB.out hb); have n1_ := a_ (hbox); have n2_ := a_ ((by rw [hg]; exact (below_size (bv_ HB.out)) : w.heap.size ≤ gb154)); have n3_ := a_ ((by rw [hg]; exact (below_size (bv_ HB.out)) : w.heap.size ≤ gb154)); clear HB; have HB := n0_; have BK154 := n1_; have GW154 := n2_; have GE154 := n3_; clear n0_ n1_ n2_ n3_; clear hb hbox hg) | ((with_reducible refine gate_dst (N := 5) rfl ?_); refine box_event ?hg (N := 5) ?hd (cs := #[.int .i64 a2_0, .int .i64 a2_1, .int .i64 a2_2, .int .i64 a2_3, .int .i64 a2_4, .int .i64 a2_5, .bool false, .int .i64 a2_7, .int .i64 a2_8]) (t := 47) ?hr ?_; (case hd => rfl); (case hg => rfl); (case hr => first | (go_simp; done) | (go_simp; rfl)); intro gb155 hg w35 hbox hb; have n0_ := a_ (kb_ BK154.out hb); have n1_ := a_ (below_step (bS1_ HB.out GE154.out) hb); have n2_ := a_ (hbox); have n3_ := a_ ((by rw [hg]; exact (below_size (bS1_ HB.out GE154.out)) : w.heap.size ≤ gb155)); have n4_ := a_ ((by rw [hg]; exact (below_size (bS1_ HB.out GE154.out)) : w.heap.size ≤ gb155)); have n5_ := a_ ((by rw [hg]; exact Nat.ne_of_lt (blk_lt (kv_ BK154.out)) : gb154 ≠ gb155)); have n6_ := a_ ((by rw [hg]; exact Nat.ne_of_gt (blk_lt (kv_ BK154.out)) : gb155 ≠ gb154)); clear BK154; clear HB; have BK154 := n0_; have HB := n1_; have BK155 := n2_; have GW155 := n3_; have GE155 := n4_; have NB154_155 := n5_; have NB155_154 := n6_; clear n0_ n1_ n2_ n3_ n4_ n5_ n6_; clear hb hbox hg; have hnb36 := NB154_155.out; have hnc36 := NB155_154.out; obtain ⟨⟨Z37_0, Y37_0⟩, ⟨Z37_1, Y37_1⟩, ⟨Z37_2, Y37_2⟩, Z37_3, Y37_3⟩ := cs4_ BK154.out; obtain ⟨⟨Z38_0, Y38_0⟩, ⟨Z38_1, Y38_1⟩, ⟨Z38_2, Y38_2⟩, ⟨Z38_3, Y38_3⟩, ⟨Z38_4, Y38_4⟩, ⟨Z38_5, Y38_5⟩, ⟨Z38_6, Y38_6⟩, ⟨Z38_7, Y38_7⟩, Z38_8, Y38_8⟩ := cs9_ BK155.out) | ((with_reducible refine gate_callee (f := 37) rfl ?_); refine gl_ (some 33) Try.func37 (by kernel_rfl) #[.agg #[.int .i64 a2_0, .int .i64 a2_1, .int .i64 a2_2, .int .i64 a2_3, .int .i64 a2_4, .int .i64 a2_5, .bool false, .int .i64 a2_7, .int .i64 a2_8]] ?_; (with_reducible refine (demerit_Forced.calls a2_0 a2_1 a2_2 a2_3 a2_4 a2_5 false a2_7 a2_8 true _ A23.out).mono ?_); rintro e w39 ⟨rfl, hb⟩; refine ⟨_, rfl, ?_⟩; have n0_ := a_ (kb_ BK154.out hb); have n1_ := a_ (kb_ BK155.out hb); have n2_ := a_ (below_step (bS2_ HB.out GE154.out GE155.out) hb); clear BK154; clear BK155; clear HB; have BK154 := n0_; have BK155 := n1_; have HB := n2_; clear n0_ n1_ n2_; (try clear hb); (try clear hb2); (try clear hk); (try clear hi); obtain ⟨⟨Z40_0, Y40_0⟩, ⟨Z40_1, Y40_1⟩, ⟨Z40_2, Y40_2⟩, ⟨Z40_3, Y40_3⟩, ⟨Z40_4, Y40_4⟩, ⟨Z40_5, Y40_5⟩, ⟨Z40_6, Y40_6⟩, ⟨Z40_7, Y40_7⟩, Z40_8, Y40_8⟩ := cs9_ BK155.out))
      go_ret
      exact ⟨by first | rfl | (simp [errW_none, errW_some] <;> rfl) | (simp [*, errW_none, errW_some] <;> rfl), bS2_ HB.out GE154.out GE155.out⟩
    ·replace c25 := Bool.eq_false_iff.mpr c25
     subst c25
     have H1 : (some (wrap64 ((wrap64 (a0_3 + 10)) * (wrap64 (a0_3 + 10))))) = some r := by rw [if_neg (show ¬ (false = true) by decide)] at H; exact H
     clear H
     have H := H1
     clear H1
     obtain rfl := Option.some.inj H
     go_enter Try.func46, Try.ntmps46
     go_wp2_with (first | ((with_reducible refine gate_dst (N := 3) rfl ?_); refine box_event ?hg (N := 3) ?hd (cs := #[.int .i64 a0_0, .int .i64 a0_1, .int .i64 a0_2, .int .i64 a0_3]) (t := 70) ?hr ?_; (case hd => rfl); (case hg => rfl); (case hr => first | (go_simp; done) | (go_simp; rfl)); intro gb154 hg w41 hbox hb; have n0_ := a_ (bs_ HB.out hb); have n1_ := a_ (hbox); have n2_ := a_ ((by rw [hg]; exact (below_size (bv_ HB.out)) : w.heap.size ≤ gb154)); have n3_ := a_ ((by rw [hg]; exact (below_size (bv_ HB.out)) : w.heap.size ≤ gb154)); clear HB; have HB := n0_; have BK154 := n1_; have GW154 := n2_; have GE154 := n3_; clear n0_ n1_ n2_ n3_; clear hb hbox hg) | ((with_reducible refine gate_dst (N := 5) rfl ?_); refine box_event ?hg (N := 5) ?hd (cs := #[.int .i64 a2_0, .int .i64 a2_1, .int .i64 a2_2, .int .i64 a2_3, .int .i64 a2_4, .int .i64 a2_5, .bool a2_6, .int .i64 a2_7, .int .i64 a2_8]) (t := 47) ?hr ?_; (case hd => rfl); (case hg => rfl); (case hr => first | (go_simp; done) | (go_simp; rfl)); intro gb155 hg w42 hbox hb; have n0_ := a_ (kb_ BK154.out hb); have n1_ := a_ (below_step (bS1_ HB.out GE154.out) hb); have n2_ := a_ (hbox); have n3_ := a_ ((by rw [hg]; exact (below_size (bS1_ HB.out GE154.out)) : w.heap.size ≤ gb155)); have n4_ := a_ ((by rw [hg]; exact (below_size (bS1_ HB.out GE154.out)) : w.heap.size ≤ gb155)); have n5_ := a_ ((by rw [hg]; exact Nat.ne_of_lt (blk_lt (kv_ BK154.out)) : gb154 ≠ gb155)); have n6_ := a_ ((by rw [hg]; exact Nat.ne_of_gt (blk_lt (kv_ BK154.out)) : gb155 ≠ gb154)); clear BK154; clear HB; have BK154 := n0_; have HB := n1_; have BK155 := n2_; have GW155 := n3_; have GE155 := n4_; have NB154_155 := n5_; have NB155_154 := n6_; clear n0_ n1_ n2_ n3_ n4_ n5_ n6_; clear hb hbox hg; have hnb43 := NB154_155.out; have hnc43 := NB155_154.out; obtain ⟨⟨Z44_0, Y44_0⟩, ⟨Z44_1, Y44_1⟩, ⟨Z44_2, Y44_2⟩, Z44_3, Y44_3⟩ := cs4_ BK154.out; obtain ⟨⟨Z45_0, Y45_0⟩, ⟨Z45_1, Y45_1⟩, ⟨Z45_2, Y45_2⟩, ⟨Z45_3, Y45_3⟩, ⟨Z45_4, Y45_4⟩, ⟨Z45_5, Y45_5⟩, ⟨Z45_6, Y45_6⟩, ⟨Z45_7, Y45_7⟩, Z45_8, Y45_8⟩ := cs9_ BK155.out) | ((with_reducible refine gate_callee (f := 37) rfl ?_); refine gl_ (some 33) Try.func37 (by kernel_rfl) #[.agg #[.int .i64 a2_0, .int .i64 a2_1, .int .i64 a2_2, .int .i64 a2_3, .int .i64 a2_4, .int .i64 a2_5, .bool a2_6, .int .i64 a2_7, .int .i64 a2_8]] ?_; (with_reducible refine (demerit_Forced.calls a2_0 a2_1 a2_2 a2_3 a2_4 a2_5 a2_6 a2_7 a2_8 true _ A23.out).mono ?_); rintro e w46 ⟨rfl, hb⟩; refine ⟨_, rfl, ?_⟩; have n0_ := a_ (kb_ BK154.out hb); have n1_ := a_ (kb_ BK155.out hb); have n2_ := a_ (below_step (bS2_ HB.out GE154.out GE155.out) hb); clear BK154; clear BK155; clear HB; have BK154 := n0_; have BK155 := n1_; have HB := n2_; clear n0_ n1_ n2_; (try clear hb); (try clear hb2); (try clear hk); (try clear hi)))
     go_ret
     exact ⟨by first | rfl | (simp [errW_none, errW_some] <;> rfl) | (simp [*, errW_none, errW_some] <;> rfl), bS2_ HB.out GE154.out GE155.out⟩
   ·replace c24 := Bool.eq_false_iff.mpr c24
    subst c24
    have H1 : (if a1 = true then (if a2_6 = true then (some (wrap64 ((wrap64 ((wrap64 ((wrap64 (a0_3 + 10)) * (wrap64 (a0_3 + 10)))) - (wrap64 (a2_5 * a2_5)))) + 10000))) else (some (wrap64 ((wrap64 ((wrap64 (a0_3 + 10)) * (wrap64 (a0_3 + 10)))) - (wrap64 (a2_5 * a2_5)))))) else (some (wrap64 ((wrap64 ((wrap64 (a0_3 + 10)) * (wrap64 (a0_3 + 10)))) - (wrap64 (a2_5 * a2_5)))))) = some r := by rw [if_neg (show ¬ (false = true) by decide)] at H; exact H
    clear H
    have H := H1
    clear H1
    by_cases c47 : a1 = true
    ·subst c47
     have H1 : (if a2_6 = true then (some (wrap64 ((wrap64 ((wrap64 ((wrap64 (a0_3 + 10)) * (wrap64 (a0_3 + 10)))) - (wrap64 (a2_5 * a2_5)))) + 10000))) else (some (wrap64 ((wrap64 ((wrap64 (a0_3 + 10)) * (wrap64 (a0_3 + 10)))) - (wrap64 (a2_5 * a2_5)))))) = some r := by rw [if_pos rfl] at H; exact H
     clear H
     have H := H1
     clear H1
     by_cases c48 : a2_6 = true
     ·subst c48
      have H1 : (some (wrap64 ((wrap64 ((wrap64 ((wrap64 (a0_3 + 10)) * (wrap64 (a0_3 + 10)))) - (wrap64 (a2_5 * a2_5)))) + 10000))) = some r := by rw [if_pos rfl] at H; exact H
      clear H
      have H := H1
      clear H1
      obtain rfl := Option.some.inj H
      go_enter Try.func46, Try.ntmps46
      go_wp2_with (first | ((with_reducible refine gate_dst (N := 3) rfl ?_); refine box_event ?hg (N := 3) ?hd (cs := #[.int .i64 a0_0, .int .i64 a0_1, .int .i64 a0_2, .int .i64 a0_3]) (t := 70) ?hr ?_; (case hd => rfl); (case hg => rfl); (case hr => first | (go_simp; done) | (go_simp; rfl)); intro gb154 hg w49 hbox hb; have n0_ := a_ (bs_ HB.out hb); have n1_ := a_ (hbox); have n2_ := a_ ((by rw [hg]; exact (below_size (bv_ HB.out)) : w.heap.size ≤ gb154)); have n3_ := a_ ((by rw [hg]; exact (below_size (bv_ HB.out)) : w.heap.size ≤ gb154)); clear HB; have HB := n0_; have BK154 := n1_; have GW154 := n2_; have GE154 := n3_; clear n0_ n1_ n2_ n3_; clear hb hbox hg) | ((with_reducible refine gate_dst (N := 5) rfl ?_); refine box_event ?hg (N := 5) ?hd (cs := #[.int .i64 a2_0, .int .i64 a2_1, .int .i64 a2_2, .int .i64 a2_3, .int .i64 a2_4, .int .i64 a2_5, .bool true, .int .i64 a2_7, .int .i64 a2_8]) (t := 47) ?hr ?_; (case hd => rfl); (case hg => rfl); (case hr => first | (go_simp; done) | (go_simp; rfl)); intro gb155 hg w50 hbox hb; have n0_ := a_ (kb_ BK154.out hb); have n1_ := a_ (below_step (bS1_ HB.out GE154.out) hb); have n2_ := a_ (hbox); have n3_ := a_ ((by rw [hg]; exact (below_size (bS1_ HB.out GE154.out)) : w.heap.size ≤ gb155)); have n4_ := a_ ((by rw [hg]; exact (below_size (bS1_ HB.out GE154.out)) : w.heap.size ≤ gb155)); have n5_ := a_ ((by rw [hg]; exact Nat.ne_of_lt (blk_lt (kv_ BK154.out)) : gb154 ≠ gb155)); have n6_ := a_ ((by rw [hg]; exact Nat.ne_of_gt (blk_lt (kv_ BK154.out)) : gb155 ≠ gb154)); clear BK154; clear HB; have BK154 := n0_; have HB := n1_; have BK155 := n2_; have GW155 := n3_; have GE155 := n4_; have NB154_155 := n5_; have NB155_154 := n6_; clear n0_ n1_ n2_ n3_ n4_ n5_ n6_; clear hb hbox hg; have hnb51 := NB154_155.out; have hnc51 := NB155_154.out; obtain ⟨⟨Z52_0, Y52_0⟩, ⟨Z52_1, Y52_1⟩, ⟨Z52_2, Y52_2⟩, Z52_3, Y52_3⟩ := cs4_ BK154.out; obtain ⟨⟨Z53_0, Y53_0⟩, ⟨Z53_1, Y53_1⟩, ⟨Z53_2, Y53_2⟩, ⟨Z53_3, Y53_3⟩, ⟨Z53_4, Y53_4⟩, ⟨Z53_5, Y53_5⟩, ⟨Z53_6, Y53_6⟩, ⟨Z53_7, Y53_7⟩, Z53_8, Y53_8⟩ := cs9_ BK155.out) | ((with_reducible refine gate_callee (f := 37) rfl ?_); refine gl_ (some 33) Try.func37 (by kernel_rfl) #[.agg #[.int .i64 a2_0, .int .i64 a2_1, .int .i64 a2_2, .int .i64 a2_3, .int .i64 a2_4, .int .i64 a2_5, .bool true, .int .i64 a2_7, .int .i64 a2_8]] ?_; (with_reducible refine (demerit_Forced.calls a2_0 a2_1 a2_2 a2_3 a2_4 a2_5 true a2_7 a2_8 false _ A23.out).mono ?_); rintro e w54 ⟨rfl, hb⟩; refine ⟨_, rfl, ?_⟩; have n0_ := a_ (kb_ BK154.out hb); have n1_ := a_ (kb_ BK155.out hb); have n2_ := a_ (below_step (bS2_ HB.out GE154.out GE155.out) hb); clear BK154; clear BK155; clear HB; have BK154 := n0_; have BK155 := n1_; have HB := n2_; clear n0_ n1_ n2_; (try clear hb); (try clear hb2); (try clear hk); (try clear hi); obtain ⟨⟨Z55_0, Y55_0⟩, ⟨Z55_1, Y55_1⟩, ⟨Z55_2, Y55_2⟩, ⟨Z55_3, Y55_3⟩, ⟨Z55_4, Y55_4⟩, ⟨Z55_5, Y55_5⟩, ⟨Z55_6, Y55_6⟩, ⟨Z55_7, Y55_7⟩, Z55_8, Y55_8⟩ := cs9_ BK155.out))
      go_ret
      exact ⟨by first | rfl | (simp [errW_none, errW_some] <;> rfl) | (simp [*, errW_none, errW_some] <;> rfl), bS2_ HB.out GE154.out GE155.out⟩
     ·replace c48 := Bool.eq_false_iff.mpr c48
      subst c48
      have H1 : (some (wrap64 ((wrap64 ((wrap64 (a0_3 + 10)) * (wrap64 (a0_3 + 10)))) - (wrap64 (a2_5 * a2_5))))) = some r := by rw [if_neg (show ¬ (false = true) by decide)] at H; exact H
      clear H
      have H := H1
      clear H1
      obtain rfl := Option.some.inj H
      go_enter Try.func46, Try.ntmps46
      go_wp2_with (first | ((with_reducible refine gate_dst (N := 3) rfl ?_); refine box_event ?hg (N := 3) ?hd (cs := #[.int .i64 a0_0, .int .i64 a0_1, .int .i64 a0_2, .int .i64 a0_3]) (t := 70) ?hr ?_; (case hd => rfl); (case hg => rfl); (case hr => first | (go_simp; done) | (go_simp; rfl)); intro gb154 hg w56 hbox hb; have n0_ := a_ (bs_ HB.out hb); have n1_ := a_ (hbox); have n2_ := a_ ((by rw [hg]; exact (below_size (bv_ HB.out)) : w.heap.size ≤ gb154)); have n3_ := a_ ((by rw [hg]; exact (below_size (bv_ HB.out)) : w.heap.size ≤ gb154)); clear HB; have HB := n0_; have BK154 := n1_; have GW154 := n2_; have GE154 := n3_; clear n0_ n1_ n2_ n3_; clear hb hbox hg) | ((with_reducible refine gate_dst (N := 5) rfl ?_); refine box_event ?hg (N := 5) ?hd (cs := #[.int .i64 a2_0, .int .i64 a2_1, .int .i64 a2_2, .int .i64 a2_3, .int .i64 a2_4, .int .i64 a2_5, .bool false, .int .i64 a2_7, .int .i64 a2_8]) (t := 47) ?hr ?_; (case hd => rfl); (case hg => rfl); (case hr => first | (go_simp; done) | (go_simp; rfl)); intro gb155 hg w57 hbox hb; have n0_ := a_ (kb_ BK154.out hb); have n1_ := a_ (below_step (bS1_ HB.out GE154.out) hb); have n2_ := a_ (hbox); have n3_ := a_ ((by rw [hg]; exact (below_size (bS1_ HB.out GE154.out)) : w.heap.size ≤ gb155)); have n4_ := a_ ((by rw [hg]; exact (below_size (bS1_ HB.out GE154.out)) : w.heap.size ≤ gb155)); have n5_ := a_ ((by rw [hg]; exact Nat.ne_of_lt (blk_lt (kv_ BK154.out)) : gb154 ≠ gb155)); have n6_ := a_ ((by rw [hg]; exact Nat.ne_of_gt (blk_lt (kv_ BK154.out)) : gb155 ≠ gb154)); clear BK154; clear HB; have BK154 := n0_; have HB := n1_; have BK155 := n2_; have GW155 := n3_; have GE155 := n4_; have NB154_155 := n5_; have NB155_154 := n6_; clear n0_ n1_ n2_ n3_ n4_ n5_ n6_; clear hb hbox hg; have hnb58 := NB154_155.out; have hnc58 := NB155_154.out; obtain ⟨⟨Z59_0, Y59_0⟩, ⟨Z59_1, Y59_1⟩, ⟨Z59_2, Y59_2⟩, Z59_3, Y59_3⟩ := cs4_ BK154.out; obtain ⟨⟨Z60_0, Y60_0⟩, ⟨Z60_1, Y60_1⟩, ⟨Z60_2, Y60_2⟩, ⟨Z60_3, Y60_3⟩, ⟨Z60_4, Y60_4⟩, ⟨Z60_5, Y60_5⟩, ⟨Z60_6, Y60_6⟩, ⟨Z60_7, Y60_7⟩, Z60_8, Y60_8⟩ := cs9_ BK155.out) | ((with_reducible refine gate_callee (f := 37) rfl ?_); refine gl_ (some 33) Try.func37 (by kernel_rfl) #[.agg #[.int .i64 a2_0, .int .i64 a2_1, .int .i64 a2_2, .int .i64 a2_3, .int .i64 a2_4, .int .i64 a2_5, .bool false, .int .i64 a2_7, .int .i64 a2_8]] ?_; (with_reducible refine (demerit_Forced.calls a2_0 a2_1 a2_2 a2_3 a2_4 a2_5 false a2_7 a2_8 false _ A23.out).mono ?_); rintro e w61 ⟨rfl, hb⟩; refine ⟨_, rfl, ?_⟩; have n0_ := a_ (kb_ BK154.out hb); have n1_ := a_ (kb_ BK155.out hb); have n2_ := a_ (below_step (bS2_ HB.out GE154.out GE155.out) hb); clear BK154; clear BK155; clear HB; have BK154 := n0_; have BK155 := n1_; have HB := n2_; clear n0_ n1_ n2_; (try clear hb); (try clear hb2); (try clear hk); (try clear hi); obtain ⟨⟨Z62_0, Y62_0⟩, ⟨Z62_1, Y62_1⟩, ⟨Z62_2, Y62_2⟩, ⟨Z62_3, Y62_3⟩, ⟨Z62_4, Y62_4⟩, ⟨Z62_5, Y62_5⟩, ⟨Z62_6, Y62_6⟩, ⟨Z62_7, Y62_7⟩, Z62_8, Y62_8⟩ := cs9_ BK155.out))
      go_ret
      exact ⟨by first | rfl | (simp [errW_none, errW_some] <;> rfl) | (simp [*, errW_none, errW_some] <;> rfl), bS2_ HB.out GE154.out GE155.out⟩
    ·replace c47 := Bool.eq_false_iff.mpr c47
     subst c47
     have H1 : (some (wrap64 ((wrap64 ((wrap64 (a0_3 + 10)) * (wrap64 (a0_3 + 10)))) - (wrap64 (a2_5 * a2_5))))) = some r := by rw [if_neg (show ¬ (false = true) by decide)] at H; exact H
     clear H
     have H := H1
     clear H1
     obtain rfl := Option.some.inj H
     go_enter Try.func46, Try.ntmps46
     go_wp2_with (first | ((with_reducible refine gate_dst (N := 3) rfl ?_); refine box_event ?hg (N := 3) ?hd (cs := #[.int .i64 a0_0, .int .i64 a0_1, .int .i64 a0_2, .int .i64 a0_3]) (t := 70) ?hr ?_; (case hd => rfl); (case hg => rfl); (case hr => first | (go_simp; done) | (go_simp; rfl)); intro gb154 hg w63 hbox hb; have n0_ := a_ (bs_ HB.out hb); have n1_ := a_ (hbox); have n2_ := a_ ((by rw [hg]; exact (below_size (bv_ HB.out)) : w.heap.size ≤ gb154)); have n3_ := a_ ((by rw [hg]; exact (below_size (bv_ HB.out)) : w.heap.size ≤ gb154)); clear HB; have HB := n0_; have BK154 := n1_; have GW154 := n2_; have GE154 := n3_; clear n0_ n1_ n2_ n3_; clear hb hbox hg) | ((with_reducible refine gate_dst (N := 5) rfl ?_); refine box_event ?hg (N := 5) ?hd (cs := #[.int .i64 a2_0, .int .i64 a2_1, .int .i64 a2_2, .int .i64 a2_3, .int .i64 a2_4, .int .i64 a2_5, .bool a2_6, .int .i64 a2_7, .int .i64 a2_8]) (t := 47) ?hr ?_; (case hd => rfl); (case hg => rfl); (case hr => first | (go_simp; done) | (go_simp; rfl)); intro gb155 hg w64 hbox hb; have n0_ := a_ (kb_ BK154.out hb); have n1_ := a_ (below_step (bS1_ HB.out GE154.out) hb); have n2_ := a_ (hbox); have n3_ := a_ ((by rw [hg]; exact (below_size (bS1_ HB.out GE154.out)) : w.heap.size ≤ gb155)); have n4_ := a_ ((by rw [hg]; exact (below_size (bS1_ HB.out GE154.out)) : w.heap.size ≤ gb155)); have n5_ := a_ ((by rw [hg]; exact Nat.ne_of_lt (blk_lt (kv_ BK154.out)) : gb154 ≠ gb155)); have n6_ := a_ ((by rw [hg]; exact Nat.ne_of_gt (blk_lt (kv_ BK154.out)) : gb155 ≠ gb154)); clear BK154; clear HB; have BK154 := n0_; have HB := n1_; have BK155 := n2_; have GW155 := n3_; have GE155 := n4_; have NB154_155 := n5_; have NB155_154 := n6_; clear n0_ n1_ n2_ n3_ n4_ n5_ n6_; clear hb hbox hg; have hnb65 := NB154_155.out; have hnc65 := NB155_154.out; obtain ⟨⟨Z66_0, Y66_0⟩, ⟨Z66_1, Y66_1⟩, ⟨Z66_2, Y66_2⟩, Z66_3, Y66_3⟩ := cs4_ BK154.out; obtain ⟨⟨Z67_0, Y67_0⟩, ⟨Z67_1, Y67_1⟩, ⟨Z67_2, Y67_2⟩, ⟨Z67_3, Y67_3⟩, ⟨Z67_4, Y67_4⟩, ⟨Z67_5, Y67_5⟩, ⟨Z67_6, Y67_6⟩, ⟨Z67_7, Y67_7⟩, Z67_8, Y67_8⟩ := cs9_ BK155.out) | ((with_reducible refine gate_callee (f := 37) rfl ?_); refine gl_ (some 33) Try.func37 (by kernel_rfl) #[.agg #[.int .i64 a2_0, .int .i64 a2_1, .int .i64 a2_2, .int .i64 a2_3, .int .i64 a2_4, .int .i64 a2_5, .bool a2_6, .int .i64 a2_7, .int .i64 a2_8]] ?_; (with_reducible refine (demerit_Forced.calls a2_0 a2_1 a2_2 a2_3 a2_4 a2_5 a2_6 a2_7 a2_8 false _ A23.out).mono ?_); rintro e w68 ⟨rfl, hb⟩; refine ⟨_, rfl, ?_⟩; have n0_ := a_ (kb_ BK154.out hb); have n1_ := a_ (kb_ BK155.out hb); have n2_ := a_ (below_step (bS2_ HB.out GE154.out GE155.out) hb); clear BK154; clear BK155; clear HB; have BK154 := n0_; have BK155 := n1_; have HB := n2_; clear n0_ n1_ n2_; (try clear hb); (try clear hb2); (try clear hk); (try clear hi)))
     go_ret
     exact ⟨by first | rfl | (simp [errW_none, errW_some] <;> rfl) | (simp [*, errW_none, errW_some] <;> rfl), bS2_ HB.out GE154.out GE155.out⟩
 ·rw [if_neg c4] at H
  have c4b0 : (a2_0 == 2) = false := beq_eq_false_iff_ne.mpr c4
  have c4b1 : (a2_0 != 2) = true := bne_iff_ne.mpr c4
  by_cases c69 : a1 = true
  ·subst c69
   have H1 : (if a2_6 = true then (some (wrap64 ((wrap64 ((wrap64 (a0_3 + 10)) * (wrap64 (a0_3 + 10)))) + 10000))) else (some (wrap64 ((wrap64 (a0_3 + 10)) * (wrap64 (a0_3 + 10)))))) = some r := by rw [if_pos rfl] at H; exact H
   clear H
   have H := H1
   clear H1
   by_cases c70 : a2_6 = true
   ·subst c70
    have H1 : (some (wrap64 ((wrap64 ((wrap64 (a0_3 + 10)) * (wrap64 (a0_3 + 10)))) + 10000))) = some r := by rw [if_pos rfl] at H; exact H
    clear H
    have H := H1
    clear H1
    obtain rfl := Option.some.inj H
    go_enter Try.func46, Try.ntmps46
    go_wp2_with (first | ((with_reducible refine gate_dst (N := 3) rfl ?_); refine box_event ?hg (N := 3) ?hd (cs := #[.int .i64 a0_0, .int .i64 a0_1, .int .i64 a0_2, .int .i64 a0_3]) (t := 70) ?hr ?_; (case hd => rfl); (case hg => rfl); (case hr => first | (go_simp; done) | (go_simp; rfl)); intro gb154 hg w71 hbox hb; have n0_ := a_ (bs_ HB.out hb); have n1_ := a_ (hbox); have n2_ := a_ ((by rw [hg]; exact (below_size (bv_ HB.out)) : w.heap.size ≤ gb154)); have n3_ := a_ ((by rw [hg]; exact (below_size (bv_ HB.out)) : w.heap.size ≤ gb154)); clear HB; have HB := n0_; have BK154 := n1_; have GW154 := n2_; have GE154 := n3_; clear n0_ n1_ n2_ n3_; clear hb hbox hg) | ((with_reducible refine gate_dst (N := 5) rfl ?_); refine box_event ?hg (N := 5) ?hd (cs := #[.int .i64 a2_0, .int .i64 a2_1, .int .i64 a2_2, .int .i64 a2_3, .int .i64 a2_4, .int .i64 a2_5, .bool true, .int .i64 a2_7, .int .i64 a2_8]) (t := 47) ?hr ?_; (case hd => rfl); (case hg => rfl); (case hr => first | (go_simp; done) | (go_simp; rfl)); intro gb155 hg w72 hbox hb; have n0_ := a_ (kb_ BK154.out hb); have n1_ := a_ (below_step (bS1_ HB.out GE154.out) hb); have n2_ := a_ (hbox); have n3_ := a_ ((by rw [hg]; exact (below_size (bS1_ HB.out GE154.out)) : w.heap.size ≤ gb155)); have n4_ := a_ ((by rw [hg]; exact (below_size (bS1_ HB.out GE154.out)) : w.heap.size ≤ gb155)); have n5_ := a_ ((by rw [hg]; exact Nat.ne_of_lt (blk_lt (kv_ BK154.out)) : gb154 ≠ gb155)); have n6_ := a_ ((by rw [hg]; exact Nat.ne_of_gt (blk_lt (kv_ BK154.out)) : gb155 ≠ gb154)); clear BK154; clear HB; have BK154 := n0_; have HB := n1_; have BK155 := n2_; have GW155 := n3_; have GE155 := n4_; have NB154_155 := n5_; have NB155_154 := n6_; clear n0_ n1_ n2_ n3_ n4_ n5_ n6_; clear hb hbox hg; have hnb73 := NB154_155.out; have hnc73 := NB155_154.out; obtain ⟨⟨Z74_0, Y74_0⟩, ⟨Z74_1, Y74_1⟩, ⟨Z74_2, Y74_2⟩, Z74_3, Y74_3⟩ := cs4_ BK154.out; obtain ⟨⟨Z75_0, Y75_0⟩, ⟨Z75_1, Y75_1⟩, ⟨Z75_2, Y75_2⟩, ⟨Z75_3, Y75_3⟩, ⟨Z75_4, Y75_4⟩, ⟨Z75_5, Y75_5⟩, ⟨Z75_6, Y75_6⟩, ⟨Z75_7, Y75_7⟩, Z75_8, Y75_8⟩ := cs9_ BK155.out))
    go_ret
    exact ⟨by first | rfl | (simp [errW_none, errW_some] <;> rfl) | (simp [*, errW_none, errW_some] <;> rfl), bS2_ HB.out GE154.out GE155.out⟩
   ·replace c70 := Bool.eq_false_iff.mpr c70
    subst c70
    have H1 : (some (wrap64 ((wrap64 (a0_3 + 10)) * (wrap64 (a0_3 + 10))))) = some r := by rw [if_neg (show ¬ (false = true) by decide)] at H; exact H
    clear H
    have H := H1
    clear H1
    obtain rfl := Option.some.inj H
    go_enter Try.func46, Try.ntmps46
    go_wp2_with (first | ((with_reducible refine gate_dst (N := 3) rfl ?_); refine box_event ?hg (N := 3) ?hd (cs := #[.int .i64 a0_0, .int .i64 a0_1, .int .i64 a0_2, .int .i64 a0_3]) (t := 70) ?hr ?_; (case hd => rfl); (case hg => rfl); (case hr => first | (go_simp; done) | (go_simp; rfl)); intro gb154 hg w76 hbox hb; have n0_ := a_ (bs_ HB.out hb); have n1_ := a_ (hbox); have n2_ := a_ ((by rw [hg]; exact (below_size (bv_ HB.out)) : w.heap.size ≤ gb154)); have n3_ := a_ ((by rw [hg]; exact (below_size (bv_ HB.out)) : w.heap.size ≤ gb154)); clear HB; have HB := n0_; have BK154 := n1_; have GW154 := n2_; have GE154 := n3_; clear n0_ n1_ n2_ n3_; clear hb hbox hg) | ((with_reducible refine gate_dst (N := 5) rfl ?_); refine box_event ?hg (N := 5) ?hd (cs := #[.int .i64 a2_0, .int .i64 a2_1, .int .i64 a2_2, .int .i64 a2_3, .int .i64 a2_4, .int .i64 a2_5, .bool false, .int .i64 a2_7, .int .i64 a2_8]) (t := 47) ?hr ?_; (case hd => rfl); (case hg => rfl); (case hr => first | (go_simp; done) | (go_simp; rfl)); intro gb155 hg w77 hbox hb; have n0_ := a_ (kb_ BK154.out hb); have n1_ := a_ (below_step (bS1_ HB.out GE154.out) hb); have n2_ := a_ (hbox); have n3_ := a_ ((by rw [hg]; exact (below_size (bS1_ HB.out GE154.out)) : w.heap.size ≤ gb155)); have n4_ := a_ ((by rw [hg]; exact (below_size (bS1_ HB.out GE154.out)) : w.heap.size ≤ gb155)); have n5_ := a_ ((by rw [hg]; exact Nat.ne_of_lt (blk_lt (kv_ BK154.out)) : gb154 ≠ gb155)); have n6_ := a_ ((by rw [hg]; exact Nat.ne_of_gt (blk_lt (kv_ BK154.out)) : gb155 ≠ gb154)); clear BK154; clear HB; have BK154 := n0_; have HB := n1_; have BK155 := n2_; have GW155 := n3_; have GE155 := n4_; have NB154_155 := n5_; have NB155_154 := n6_; clear n0_ n1_ n2_ n3_ n4_ n5_ n6_; clear hb hbox hg; have hnb78 := NB154_155.out; have hnc78 := NB155_154.out; obtain ⟨⟨Z79_0, Y79_0⟩, ⟨Z79_1, Y79_1⟩, ⟨Z79_2, Y79_2⟩, Z79_3, Y79_3⟩ := cs4_ BK154.out; obtain ⟨⟨Z80_0, Y80_0⟩, ⟨Z80_1, Y80_1⟩, ⟨Z80_2, Y80_2⟩, ⟨Z80_3, Y80_3⟩, ⟨Z80_4, Y80_4⟩, ⟨Z80_5, Y80_5⟩, ⟨Z80_6, Y80_6⟩, ⟨Z80_7, Y80_7⟩, Z80_8, Y80_8⟩ := cs9_ BK155.out))
    go_ret
    exact ⟨by first | rfl | (simp [errW_none, errW_some] <;> rfl) | (simp [*, errW_none, errW_some] <;> rfl), bS2_ HB.out GE154.out GE155.out⟩
  ·replace c69 := Bool.eq_false_iff.mpr c69
   subst c69
   have H1 : (some (wrap64 ((wrap64 (a0_3 + 10)) * (wrap64 (a0_3 + 10))))) = some r := by rw [if_neg (show ¬ (false = true) by decide)] at H; exact H
   clear H
   have H := H1
   clear H1
   obtain rfl := Option.some.inj H
   go_enter Try.func46, Try.ntmps46
   go_wp2_with (first | ((with_reducible refine gate_dst (N := 3) rfl ?_); refine box_event ?hg (N := 3) ?hd (cs := #[.int .i64 a0_0, .int .i64 a0_1, .int .i64 a0_2, .int .i64 a0_3]) (t := 70) ?hr ?_; (case hd => rfl); (case hg => rfl); (case hr => first | (go_simp; done) | (go_simp; rfl)); intro gb154 hg w81 hbox hb; have n0_ := a_ (bs_ HB.out hb); have n1_ := a_ (hbox); have n2_ := a_ ((by rw [hg]; exact (below_size (bv_ HB.out)) : w.heap.size ≤ gb154)); have n3_ := a_ ((by rw [hg]; exact (below_size (bv_ HB.out)) : w.heap.size ≤ gb154)); clear HB; have HB := n0_; have BK154 := n1_; have GW154 := n2_; have GE154 := n3_; clear n0_ n1_ n2_ n3_; clear hb hbox hg) | ((with_reducible refine gate_dst (N := 5) rfl ?_); refine box_event ?hg (N := 5) ?hd (cs := #[.int .i64 a2_0, .int .i64 a2_1, .int .i64 a2_2, .int .i64 a2_3, .int .i64 a2_4, .int .i64 a2_5, .bool a2_6, .int .i64 a2_7, .int .i64 a2_8]) (t := 47) ?hr ?_; (case hd => rfl); (case hg => rfl); (case hr => first | (go_simp; done) | (go_simp; rfl)); intro gb155 hg w82 hbox hb; have n0_ := a_ (kb_ BK154.out hb); have n1_ := a_ (below_step (bS1_ HB.out GE154.out) hb); have n2_ := a_ (hbox); have n3_ := a_ ((by rw [hg]; exact (below_size (bS1_ HB.out GE154.out)) : w.heap.size ≤ gb155)); have n4_ := a_ ((by rw [hg]; exact (below_size (bS1_ HB.out GE154.out)) : w.heap.size ≤ gb155)); have n5_ := a_ ((by rw [hg]; exact Nat.ne_of_lt (blk_lt (kv_ BK154.out)) : gb154 ≠ gb155)); have n6_ := a_ ((by rw [hg]; exact Nat.ne_of_gt (blk_lt (kv_ BK154.out)) : gb155 ≠ gb154)); clear BK154; clear HB; have BK154 := n0_; have HB := n1_; have BK155 := n2_; have GW155 := n3_; have GE155 := n4_; have NB154_155 := n5_; have NB155_154 := n6_; clear n0_ n1_ n2_ n3_ n4_ n5_ n6_; clear hb hbox hg; have hnb83 := NB154_155.out; have hnc83 := NB155_154.out; obtain ⟨⟨Z84_0, Y84_0⟩, ⟨Z84_1, Y84_1⟩, ⟨Z84_2, Y84_2⟩, Z84_3, Y84_3⟩ := cs4_ BK154.out; obtain ⟨⟨Z85_0, Y85_0⟩, ⟨Z85_1, Y85_1⟩, ⟨Z85_2, Y85_2⟩, ⟨Z85_3, Y85_3⟩, ⟨Z85_4, Y85_4⟩, ⟨Z85_5, Y85_5⟩, ⟨Z85_6, Y85_6⟩, ⟨Z85_7, Y85_7⟩, Z85_8, Y85_8⟩ := cs9_ BK155.out))
   go_ret
   exact ⟨by first | rfl | (simp [errW_none, errW_some] <;> rfl) | (simp [*, errW_none, errW_some] <;> rfl), bS2_ HB.out GE154.out GE155.out⟩

/-! ### demerit_Class: function 47 -/
def demerit_Class.f (a0_0 : Int) (a0_1 : Int) (a0_2 : Int) (a0_3 : Int) : Option (Int) := if a0_3 ≤ 12 then (some 2) else (if a0_0 < 0 then (some 3) else (if a0_3 < 100 then (some 1) else (some 0)))
set_option maxHeartbeats 8000000 in
set_option maxRecDepth 100000 in
theorem demerit_Class.calls (a0_0 : Int) (a0_1 : Int) (a0_2 : Int) (a0_3 : Int) (r : Int) (w : World) (h : demerit_Class.f a0_0 a0_1 a0_2 a0_3 = some r) :
  Calls Try.prog 47 #[.agg #[.int .i64 a0_0, .int .i64 a0_1, .int .i64 a0_2, .int .i64 a0_3]] w fun e w' => e = .returned (.int .i64 r) ∧ Below w.heap.size w w' := by
 have hu70 := Try.underlying70
 have HB := a_ (Below.refl w.heap.size w)
 have H : (if a0_3 ≤ 12 then (some 2) else (if a0_0 < 0 then (some 3) else (if a0_3 < 100 then (some 1) else (some 0)))) = some r := h
 clear h
 by_cases c2 : a0_3 ≤ 12
 ·rw [if_pos c2] at H
  have c2b0 : decide (a0_3 ≤ 12) = true := decide_eq_true c2
  clear c2
  obtain rfl := Option.some.inj H
  go_enter Try.func47, Try.ntmps47
  go_wp2_with (first | ((with_reducible refine gate_dst (N := 1) rfl ?_); refine box_event ?hg (N := 1) ?hd (cs := #[.int .i64 a0_0, .int .i64 a0_1, .int .i64 a0_2, .int .i64 a0_3]) (t := 70) ?hr ?_; (case hd => rfl); (case hg => rfl); (case hr => first | (go_simp; done) | (go_simp; rfl)); intro gb157 hg w3 hbox hb; have n0_ := a_ (bs_ HB.out hb); have n1_ := a_ (hbox); have n2_ := a_ ((by rw [hg]; exact (below_size (bv_ HB.out)) : w.heap.size ≤ gb157)); have n3_ := a_ ((by rw [hg]; exact (below_size (bv_ HB.out)) : w.heap.size ≤ gb157)); clear HB; have HB := n0_; have BK157 := n1_; have GW157 := n2_; have GE157 := n3_; clear n0_ n1_ n2_ n3_; clear hb hbox hg; obtain ⟨⟨Z4_0, Y4_0⟩, ⟨Z4_1, Y4_1⟩, ⟨Z4_2, Y4_2⟩, Z4_3, Y4_3⟩ := cs4_ BK157.out))
  go_ret
  exact ⟨by first | rfl | (simp [errW_none, errW_some] <;> rfl) | (simp [*, errW_none, errW_some] <;> rfl), bS1_ HB.out GE157.out⟩
 ·rw [if_neg c2] at H
  have c2b0 : decide (a0_3 ≤ 12) = false := decide_eq_false c2
  clear c2
  by_cases c5 : a0_0 < 0
  ·rw [if_pos c5] at H
   have c5b0 : decide (a0_0 < 0) = true := decide_eq_true c5
   clear c5
   obtain rfl := Option.some.inj H
   go_enter Try.func47, Try.ntmps47
   go_wp2_with (first | ((with_reducible refine gate_dst (N := 1) rfl ?_); refine box_event ?hg (N := 1) ?hd (cs := #[.int .i64 a0_0, .int .i64 a0_1, .int .i64 a0_2, .int .i64 a0_3]) (t := 70) ?hr ?_; (case hd => rfl); (case hg => rfl); (case hr => first | (go_simp; done) | (go_simp; rfl)); intro gb157 hg w6 hbox hb; have n0_ := a_ (bs_ HB.out hb); have n1_ := a_ (hbox); have n2_ := a_ ((by rw [hg]; exact (below_size (bv_ HB.out)) : w.heap.size ≤ gb157)); have n3_ := a_ ((by rw [hg]; exact (below_size (bv_ HB.out)) : w.heap.size ≤ gb157)); clear HB; have HB := n0_; have BK157 := n1_; have GW157 := n2_; have GE157 := n3_; clear n0_ n1_ n2_ n3_; clear hb hbox hg; obtain ⟨⟨Z7_0, Y7_0⟩, ⟨Z7_1, Y7_1⟩, ⟨Z7_2, Y7_2⟩, Z7_3, Y7_3⟩ := cs4_ BK157.out))
   go_ret
   exact ⟨by first | rfl | (simp [errW_none, errW_some] <;> rfl) | (simp [*, errW_none, errW_some] <;> rfl), bS1_ HB.out GE157.out⟩
  ·rw [if_neg c5] at H
   have c5b0 : decide (a0_0 < 0) = false := decide_eq_false c5
   clear c5
   by_cases c8 : a0_3 < 100
   ·rw [if_pos c8] at H
    have c8b0 : decide (a0_3 < 100) = true := decide_eq_true c8
    clear c8
    obtain rfl := Option.some.inj H
    go_enter Try.func47, Try.ntmps47
    go_wp2_with (first | ((with_reducible refine gate_dst (N := 1) rfl ?_); refine box_event ?hg (N := 1) ?hd (cs := #[.int .i64 a0_0, .int .i64 a0_1, .int .i64 a0_2, .int .i64 a0_3]) (t := 70) ?hr ?_; (case hd => rfl); (case hg => rfl); (case hr => first | (go_simp; done) | (go_simp; rfl)); intro gb157 hg w9 hbox hb; have n0_ := a_ (bs_ HB.out hb); have n1_ := a_ (hbox); have n2_ := a_ ((by rw [hg]; exact (below_size (bv_ HB.out)) : w.heap.size ≤ gb157)); have n3_ := a_ ((by rw [hg]; exact (below_size (bv_ HB.out)) : w.heap.size ≤ gb157)); clear HB; have HB := n0_; have BK157 := n1_; have GW157 := n2_; have GE157 := n3_; clear n0_ n1_ n2_ n3_; clear hb hbox hg; obtain ⟨⟨Z10_0, Y10_0⟩, ⟨Z10_1, Y10_1⟩, ⟨Z10_2, Y10_2⟩, Z10_3, Y10_3⟩ := cs4_ BK157.out))
    go_ret
    exact ⟨by first | rfl | (simp [errW_none, errW_some] <;> rfl) | (simp [*, errW_none, errW_some] <;> rfl), bS1_ HB.out GE157.out⟩
   ·rw [if_neg c8] at H
    have c8b0 : decide (a0_3 < 100) = false := decide_eq_false c8
    clear c8
    obtain rfl := Option.some.inj H
    go_enter Try.func47, Try.ntmps47
    go_wp2_with (first | ((with_reducible refine gate_dst (N := 1) rfl ?_); refine box_event ?hg (N := 1) ?hd (cs := #[.int .i64 a0_0, .int .i64 a0_1, .int .i64 a0_2, .int .i64 a0_3]) (t := 70) ?hr ?_; (case hd => rfl); (case hg => rfl); (case hr => first | (go_simp; done) | (go_simp; rfl)); intro gb157 hg w11 hbox hb; have n0_ := a_ (bs_ HB.out hb); have n1_ := a_ (hbox); have n2_ := a_ ((by rw [hg]; exact (below_size (bv_ HB.out)) : w.heap.size ≤ gb157)); have n3_ := a_ ((by rw [hg]; exact (below_size (bv_ HB.out)) : w.heap.size ≤ gb157)); clear HB; have HB := n0_; have BK157 := n1_; have GW157 := n2_; have GE157 := n3_; clear n0_ n1_ n2_ n3_; clear hb hbox hg; obtain ⟨⟨Z12_0, Y12_0⟩, ⟨Z12_1, Y12_1⟩, ⟨Z12_2, Y12_2⟩, Z12_3, Y12_3⟩ := cs4_ BK157.out))
    go_ret
    exact ⟨by first | rfl | (simp [errW_none, errW_some] <;> rfl) | (simp [*, errW_none, errW_some] <;> rfl), bS1_ HB.out GE157.out⟩

/-! ### demerit_Apart: function 48 -/
def demerit_Apart.f (a0 : Int) (a1 : Int) : Option (Int) := if (wrap64 (a0 - a1)) > 1 then (some 10000) else (if (wrap64 (a1 - a0)) > 1 then (some 10000) else (some 0))
set_option maxHeartbeats 8000000 in
set_option maxRecDepth 100000 in
theorem demerit_Apart.calls (a0 : Int) (a1 : Int) (r : Int) (w : World) (h : demerit_Apart.f a0 a1 = some r) :
  Calls Try.prog 48 #[.int .i64 a0, .int .i64 a1] w fun e w' => e = .returned (.int .i64 r) ∧ Drawn0 w w' := by
 have H : (if (wrap64 (a0 - a1)) > 1 then (some 10000) else (if (wrap64 (a1 - a0)) > 1 then (some 10000) else (some 0))) = some r := h
 clear h
 by_cases c3 : (wrap64 (a0 - a1)) > 1
 ·rw [if_pos c3] at H
  have c3b0 : decide (1 < (wrap64 (a0 - a1))) = true := decide_eq_true c3
  clear c3
  obtain rfl := Option.some.inj H
  go_enter Try.func48, Try.ntmps48
  go_wp2
  go_ret
  exact ⟨by first | rfl | (simp; done) | (simp [*]; done), by repeat (first | exact Drawn0.refl _ | apply Drawn0.step)⟩
 ·rw [if_neg c3] at H
  have c3b0 : decide (1 < (wrap64 (a0 - a1))) = false := decide_eq_false c3
  clear c3
  by_cases c4 : (wrap64 (a1 - a0)) > 1
  ·rw [if_pos c4] at H
   have c4b0 : decide (1 < (wrap64 (a1 - a0))) = true := decide_eq_true c4
   clear c4
   obtain rfl := Option.some.inj H
   go_enter Try.func48, Try.ntmps48
   go_wp2
   go_ret
   exact ⟨by first | rfl | (simp; done) | (simp [*]; done), by repeat (first | exact Drawn0.refl _ | apply Drawn0.step)⟩
  ·rw [if_neg c4] at H
   have c4b0 : decide (1 < (wrap64 (a1 - a0))) = false := decide_eq_false c4
   clear c4
   obtain rfl := Option.some.inj H
   go_enter Try.func48, Try.ntmps48
   go_wp2
   go_ret
   exact ⟨by first | rfl | (simp; done) | (simp [*]; done), by repeat (first | exact Drawn0.refl _ | apply Drawn0.step)⟩

end Go.Proofs.Ytnkdopihaohimaa.PBr

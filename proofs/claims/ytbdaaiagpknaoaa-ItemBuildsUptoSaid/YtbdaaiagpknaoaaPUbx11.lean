/- Written by a program of this session: functions of the given program as plain Lean functions, the walks that show it, and the row of each law, for every input that its statement speaks of. -/
import Derived.Test.YtbdaaiagpknaoaaPUbx0
import Derived.Test.YtbdaaiagpknaoaaPUbx6
import Derived.Test.YtbdaaiagpknaoaaPUbx9
import Derived.Test.YtbdaaiagpknaoaaPUbx10
namespace Go.Proofs.Ytbdaaiagpknaoaa.PUb
open Go.RowKit Go.Proofs.YtbdaaiagpknaoaaW.PrintWords Go.Proofs.YtbdaaiagpknaoaaW.PrintLast Go.Proofs.YtbdaaiagpknaoaaW.PrintMore
attribute [local go_sem] max2_int min2_int max_two min_two max_three min_three max_four min_four   -- for this text's walks alone
set_option linter.unusedVariables false
set_option linter.unusedSimpArgs false

/-! ### variorumlaw09_fixed: function 10 -/
def variorumlaw09_fixed.f (k : Nat)  : Option (Bool) := (variorumlaw09_one.f 5).bind fun t224 => ((variorumlaw09_one.f 6).bind fun t227 => ((item_Prose.f k 3 1 1 0 0 ([] : List (S85)) ([] : List (S87)) ([] : List (S89)) 2 (([t224, t227] : List (List (S47))))).bind fun bt233 => ((item_Prose.f k 3 1 1 0 0 ([] : List (S85)) ([] : List (S87)) ([] : List (S89)) 2 ([] : List (List (S47)))).bind fun bt239 => (if bt233.2.1 = 0 then (if (bt233.1.length : Int) = 6 then (if 0 < (bt233.1.length : Int) then (if ((rd_T45 bt233.1 0).f1.f0) = 5 then (if 1 < (bt233.1.length : Int) then (if ((rd_T45 bt233.1 1).f0) = 1 then (if 2 < (bt233.1.length : Int) then (if ((rd_T45 bt233.1 2).f4) = 1 then (if 5 < (bt233.1.length : Int) then (if ((rd_T45 bt233.1 5).f2) = (-10000) then (if bt239.2.1 = 0 then ((variorumref09_End.f).bind fun t249 => ((variorumref09_Same.f k bt239.1 t249).bind fun t252 => (if t252 = true then ((item_May.f k bt233.1).bind fun t253 => (if t253 = true then ((item_Boxes.f k bt233.1).bind fun t254 => (some ((t254.length : Int) == 2))) else (none))) else (none)))) else (none)) else (none)) else (none)) else (none)) else (none)) else (none)) else (none)) else (none)) else (none)) else (none)) else (none)))))
theorem variorumlaw09_fixed.mono : ∀ k, LeO (variorumlaw09_fixed.f k ) (variorumlaw09_fixed.f (k + 1) ) := by
 intro  k
 unfold variorumlaw09_fixed.f
 repeat' first
   | (with_reducible exact item_Boxes.mono _ _)
   | (with_reducible exact item_May.mono _ _)
   | (with_reducible exact item_Prose.mono _ _ _ _ _ _ _ _ _ _ _)
   | (with_reducible exact variorumref09_Same.mono _ _ _)
   | (with_reducible exact LeO.refl _)
   | (with_reducible exact LeO.none _)
   | (with_reducible refine LeO.ite ?_ ?_)
   | (with_reducible refine LeO.bind ?_ (fun _ => ?_))
   | exact item_Boxes.mono _ _
   | exact item_May.mono _ _
   | exact item_Prose.mono _ _ _ _ _ _ _ _ _ _ _
   | exact variorumref09_Same.mono _ _ _
   | exact LeO.none _
   | refine LeO.ite ?_ ?_
   | refine LeO.bind ?_ (fun _ => ?_)
def variorumlaw09_fixed.T2 : Bool × List (List Nat × List Nat) := (true, [([], []), ([], []), ([1], []), ([1, 2], [1, 2]), ([0, 3, 2], [0, 3]), ([4], [4]), ([5], [5]), ([5], [5]), ([], []), ([6, 4, 0, 1, 2, 3, 4, 5, 6, 8], [6]), ([8, 7, 9, 0, 1, 2, 3, 4, 5, 6, 7, 8, 9], [7, 8])])
def variorumlaw09_fixed.B2 : List Nat := [0, 0, 2, 6, 15, 31, 63, 63, 0, 383, 1023]
theorem variorumlaw09_fixed.tab2 : rtab .any (opsOf Try.f10 2) = variorumlaw09_fixed.T2 := by kernel_rfl
theorem variorumlaw09_fixed.bits2 : waitsOk variorumlaw09_fixed.T2.2 variorumlaw09_fixed.B2 = true := by kernel_rfl
set_option maxHeartbeats 8000000 in
set_option maxRecDepth 100000 in
theorem variorumlaw09_fixed.calls (k : Nat)  (r : Bool) (w : World) (h : variorumlaw09_fixed.f k  = some r) :
  Calls Try.prog 10 #[] w fun e w' => e = .returned (.bool r) ∧ Below w.heap.size w w' := by
 have hu23 := Try.underlying23
 have hu28 := Try.underlying28
 have hu33 := Try.underlying33
 have HB := Aside0.mk (Below.refl w.heap.size w)
 have H : ((variorumlaw09_one.f 5).bind fun t224 => ((variorumlaw09_one.f 6).bind fun t227 => ((item_Prose.f k 3 1 1 0 0 ([] : List (S85)) ([] : List (S87)) ([] : List (S89)) 2 (([t224, t227] : List (List (S47))))).bind fun bt233 => ((item_Prose.f k 3 1 1 0 0 ([] : List (S85)) ([] : List (S87)) ([] : List (S89)) 2 ([] : List (List (S47)))).bind fun bt239 => (if bt233.2.1 = 0 then (if (bt233.1.length : Int) = 6 then (if 0 < (bt233.1.length : Int) then (if ((rd_T45 bt233.1 0).f1.f0) = 5 then (if 1 < (bt233.1.length : Int) then (if ((rd_T45 bt233.1 1).f0) = 1 then (if 2 < (bt233.1.length : Int) then (if ((rd_T45 bt233.1 2).f4) = 1 then (if 5 < (bt233.1.length : Int) then (if ((rd_T45 bt233.1 5).f2) = (-10000) then (if bt239.2.1 = 0 then ((variorumref09_End.f).bind fun t249 => ((variorumref09_Same.f k bt239.1 t249).bind fun t252 => (if t252 = true then ((item_May.f k bt233.1).bind fun t253 => (if t253 = true then ((item_Boxes.f k bt233.1).bind fun t254 => (some ((t254.length : Int) == 2))) else (none))) else (none)))) else (none)) else (none)) else (none)) else (none)) else (none)) else (none)) else (none)) else (none)) else (none)) else (none)) else (none)))))) = some r := h
 clear h
 replace H := Option.bind_eq_some_iff.mp H
 obtain ⟨t224, A10, H⟩ := H
 replace H : ((variorumlaw09_one.f 6).bind fun t227 => ((item_Prose.f k 3 1 1 0 0 ([] : List (S85)) ([] : List (S87)) ([] : List (S89)) 2 (([t224, t227] : List (List (S47))))).bind fun bt233 => ((item_Prose.f k 3 1 1 0 0 ([] : List (S85)) ([] : List (S87)) ([] : List (S89)) 2 ([] : List (List (S47)))).bind fun bt239 => (if bt233.2.1 = 0 then (if (bt233.1.length : Int) = 6 then (if 0 < (bt233.1.length : Int) then (if ((rd_T45 bt233.1 0).f1.f0) = 5 then (if 1 < (bt233.1.length : Int) then (if ((rd_T45 bt233.1 1).f0) = 1 then (if 2 < (bt233.1.length : Int) then (if ((rd_T45 bt233.1 2).f4) = 1 then (if 5 < (bt233.1.length : Int) then (if ((rd_T45 bt233.1 5).f2) = (-10000) then (if bt239.2.1 = 0 then ((variorumref09_End.f).bind fun t249 => ((variorumref09_Same.f k bt239.1 t249).bind fun t252 => (if t252 = true then ((item_May.f k bt233.1).bind fun t253 => (if t253 = true then ((item_Boxes.f k bt233.1).bind fun t254 => (some ((t254.length : Int) == 2))) else (none))) else (none)))) else (none)) else (none)) else (none)) else (none)) else (none)) else (none)) else (none)) else (none)) else (none)) else (none)) else (none))))) = some r := H
 have A1 := Aside0.mk A10
 clear A10
 replace H := Option.bind_eq_some_iff.mp H
 obtain ⟨t227, A20, H⟩ := H
 replace H : ((item_Prose.f k 3 1 1 0 0 ([] : List (S85)) ([] : List (S87)) ([] : List (S89)) 2 (([t224, t227] : List (List (S47))))).bind fun bt233 => ((item_Prose.f k 3 1 1 0 0 ([] : List (S85)) ([] : List (S87)) ([] : List (S89)) 2 ([] : List (List (S47)))).bind fun bt239 => (if bt233.2.1 = 0 then (if (bt233.1.length : Int) = 6 then (if 0 < (bt233.1.length : Int) then (if ((rd_T45 bt233.1 0).f1.f0) = 5 then (if 1 < (bt233.1.length : Int) then (if ((rd_T45 bt233.1 1).f0) = 1 then (if 2 < (bt233.1.length : Int) then (if ((rd_T45 bt233.1 2).f4) = 1 then (if 5 < (bt233.1.length : Int) then (if ((rd_T45 bt233.1 5).f2) = (-10000) then (if bt239.2.1 = 0 then ((variorumref09_End.f).bind fun t249 => ((variorumref09_Same.f k bt239.1 t249).bind fun t252 => (if t252 = true then ((item_May.f k bt233.1).bind fun t253 => (if t253 = true then ((item_Boxes.f k bt233.1).bind fun t254 => (some ((t254.length : Int) == 2))) else (none))) else (none)))) else (none)) else (none)) else (none)) else (none)) else (none)) else (none)) else (none)) else (none)) else (none)) else (none)) else (none)))) = some r := H
 have A2 := Aside0.mk A20
 clear A20
 obtain ⟨y230, hy230⟩ : ∃ y_ : List (List (S47)), y_ = (([t224, t227] : List (List (S47)))) := ⟨_, rfl⟩
 replace H : ((item_Prose.f k 3 1 1 0 0 ([] : List (S85)) ([] : List (S87)) ([] : List (S89)) 2 y230).bind fun bt233 => ((item_Prose.f k 3 1 1 0 0 ([] : List (S85)) ([] : List (S87)) ([] : List (S89)) 2 ([] : List (List (S47)))).bind fun bt239 => (if bt233.2.1 = 0 then (if (bt233.1.length : Int) = 6 then (if 0 < (bt233.1.length : Int) then (if ((rd_T45 bt233.1 0).f1.f0) = 5 then (if 1 < (bt233.1.length : Int) then (if ((rd_T45 bt233.1 1).f0) = 1 then (if 2 < (bt233.1.length : Int) then (if ((rd_T45 bt233.1 2).f4) = 1 then (if 5 < (bt233.1.length : Int) then (if ((rd_T45 bt233.1 5).f2) = (-10000) then (if bt239.2.1 = 0 then ((variorumref09_End.f).bind fun t249 => ((variorumref09_Same.f k bt239.1 t249).bind fun t252 => (if t252 = true then ((item_May.f k bt233.1).bind fun t253 => (if t253 = true then ((item_Boxes.f k bt233.1).bind fun t254 => (some ((t254.length : Int) == 2))) else (none))) else (none)))) else (none)) else (none)) else (none)) else (none)) else (none)) else (none)) else (none)) else (none)) else (none)) else (none)) else (none)))) = some r := by first | (rw [hy230]; with_reducible exact H) | (have H2_ := (Option.bind_some _ _).symm.trans H; rw [hy230]; with_reducible exact H2_) | (have H2_ := (Option.bind_some _ _).symm.trans H; with_reducible exact H2_) | with_reducible exact H | (rw [hy230]; exact H) | exact H
 have Ny230 := Aside0.mk hy230
 clear hy230
 replace H := Option.bind_eq_some_iff.mp H
 obtain ⟨⟨t233, t236, t237⟩, A30, H⟩ := H
 replace H : ((item_Prose.f k 3 1 1 0 0 ([] : List (S85)) ([] : List (S87)) ([] : List (S89)) 2 ([] : List (List (S47)))).bind fun bt239 => (if t236 = 0 then (if (t233.length : Int) = 6 then (if 0 < (t233.length : Int) then (if ((rd_T45 t233 0).f1.f0) = 5 then (if 1 < (t233.length : Int) then (if ((rd_T45 t233 1).f0) = 1 then (if 2 < (t233.length : Int) then (if ((rd_T45 t233 2).f4) = 1 then (if 5 < (t233.length : Int) then (if ((rd_T45 t233 5).f2) = (-10000) then (if bt239.2.1 = 0 then ((variorumref09_End.f).bind fun t249 => ((variorumref09_Same.f k bt239.1 t249).bind fun t252 => (if t252 = true then ((item_May.f k t233).bind fun t253 => (if t253 = true then ((item_Boxes.f k t233).bind fun t254 => (some ((t254.length : Int) == 2))) else (none))) else (none)))) else (none)) else (none)) else (none)) else (none)) else (none)) else (none)) else (none)) else (none)) else (none)) else (none)) else (none))) = some r := H
 have A3 := Aside0.mk A30
 clear A30
 replace H := Option.bind_eq_some_iff.mp H
 obtain ⟨⟨t239, t242, t243⟩, A40, H⟩ := H
 replace H : (if t236 = 0 then (if (t233.length : Int) = 6 then (if 0 < (t233.length : Int) then (if ((rd_T45 t233 0).f1.f0) = 5 then (if 1 < (t233.length : Int) then (if ((rd_T45 t233 1).f0) = 1 then (if 2 < (t233.length : Int) then (if ((rd_T45 t233 2).f4) = 1 then (if 5 < (t233.length : Int) then (if ((rd_T45 t233 5).f2) = (-10000) then (if t242 = 0 then ((variorumref09_End.f).bind fun t249 => ((variorumref09_Same.f k t239 t249).bind fun t252 => (if t252 = true then ((item_May.f k t233).bind fun t253 => (if t253 = true then ((item_Boxes.f k t233).bind fun t254 => (some ((t254.length : Int) == 2))) else (none))) else (none)))) else (none)) else (none)) else (none)) else (none)) else (none)) else (none)) else (none)) else (none)) else (none)) else (none)) else (none)) = some r := H
 have A4 := Aside0.mk A40
 clear A40
 by_cases c5 : t236 = 0
 ·rw [if_pos c5] at H
  have c5b0 : (t236 == 0) = true := beq_iff_eq.mpr c5
  have c5b1 : (t236 != 0) = false := bne_eq_false_iff_eq.mpr c5
  clear c5
  by_cases c6 : (t233.length : Int) = 6
  ·rw [if_pos c6] at H
   have c6b0 : ((t233.length : Int) == 6) = true := beq_iff_eq.mpr c6
   have c6b1 : ((t233.length : Int) != 6) = false := bne_eq_false_iff_eq.mpr c6
   clear c6
   by_cases c7 : 0 < (t233.length : Int)
   ·rw [if_pos c7] at H
    have c7b0 : decide (0 < (t233.length : Int)) = true := decide_eq_true c7
    have c7b1 : decide (0 < t233.length) = true := decide_eq_true (by omega)
    clear c7
    by_cases c8 : ((rd_T45 t233 0).f1.f0) = 5
    ·rw [if_pos c8] at H
     have c8b0 : (((rd_T45 t233 0).f1.f0) == 5) = true := beq_iff_eq.mpr c8
     have c8b1 : (((rd_T45 t233 0).f1.f0) != 5) = false := bne_eq_false_iff_eq.mpr c8
     clear c8
     by_cases c9 : 1 < (t233.length : Int)
     ·rw [if_pos c9] at H
      have c9b0 : decide (1 < (t233.length : Int)) = true := decide_eq_true c9
      have c9b1 : decide (1 < t233.length) = true := decide_eq_true (by omega)
      clear c9
      by_cases c10 : ((rd_T45 t233 1).f0) = 1
      ·rw [if_pos c10] at H
       have c10b0 : (((rd_T45 t233 1).f0) == 1) = true := beq_iff_eq.mpr c10
       have c10b1 : (((rd_T45 t233 1).f0) != 1) = false := bne_eq_false_iff_eq.mpr c10
       clear c10
       by_cases c11 : 2 < (t233.length : Int)
       ·rw [if_pos c11] at H
        have c11b0 : decide (2 < (t233.length : Int)) = true := decide_eq_true c11
        have c11b1 : decide (2 < t233.length) = true := decide_eq_true (by omega)
        clear c11
        by_cases c12 : ((rd_T45 t233 2).f4) = 1
        ·rw [if_pos c12] at H
         have c12b0 : (((rd_T45 t233 2).f4) == 1) = true := beq_iff_eq.mpr c12
         have c12b1 : (((rd_T45 t233 2).f4) != 1) = false := bne_eq_false_iff_eq.mpr c12
         clear c12
         by_cases c13 : 5 < (t233.length : Int)
         ·rw [if_pos c13] at H
          have c13b0 : decide (5 < (t233.length : Int)) = true := decide_eq_true c13
          have c13b1 : decide (5 < t233.length) = true := decide_eq_true (by omega)
          clear c13
          by_cases c14 : ((rd_T45 t233 5).f2) = (-10000)
          ·rw [if_pos c14] at H
           have c14b0 : (((rd_T45 t233 5).f2) == (-10000)) = true := beq_iff_eq.mpr c14
           have c14b1 : (((rd_T45 t233 5).f2) != (-10000)) = false := bne_eq_false_iff_eq.mpr c14
           clear c14
           by_cases c15 : t242 = 0
           ·rw [if_pos c15] at H
            have c15b0 : (t242 == 0) = true := beq_iff_eq.mpr c15
            have c15b1 : (t242 != 0) = false := bne_eq_false_iff_eq.mpr c15
            clear c15
            replace H := Option.bind_eq_some_iff.mp H
            obtain ⟨t249, A160, H⟩ := H
            replace H : ((variorumref09_Same.f k t239 t249).bind fun t252 => (if t252 = true then ((item_May.f k t233).bind fun t253 => (if t253 = true then ((item_Boxes.f k t233).bind fun t254 => (some ((t254.length : Int) == 2))) else (none))) else (none))) = some r := H
            have A16 := Aside0.mk A160
            clear A160
            replace H := Option.bind_eq_some_iff.mp H
            obtain ⟨t252, A170, H⟩ := H
            replace H : (if t252 = true then ((item_May.f k t233).bind fun t253 => (if t253 = true then ((item_Boxes.f k t233).bind fun t254 => (some ((t254.length : Int) == 2))) else (none))) else (none)) = some r := H
            have A17 := Aside0.mk A170
            clear A170
            by_cases c18 : t252 = true
            ·subst c18
             have H1 : ((item_May.f k t233).bind fun t253 => (if t253 = true then ((item_Boxes.f k t233).bind fun t254 => (some ((t254.length : Int) == 2))) else (none))) = some r := by rw [if_pos rfl] at H; exact H
             clear H
             have H := H1
             clear H1
             replace H := Option.bind_eq_some_iff.mp H
             obtain ⟨t253, A190, H⟩ := H
             replace H : (if t253 = true then ((item_Boxes.f k t233).bind fun t254 => (some ((t254.length : Int) == 2))) else (none)) = some r := H
             have A19 := Aside0.mk A190
             clear A190
             by_cases c20 : t253 = true
             ·subst c20
              have H1 : ((item_Boxes.f k t233).bind fun t254 => (some ((t254.length : Int) == 2))) = some r := by rw [if_pos rfl] at H; exact H
              clear H
              have H := H1
              clear H1
              replace H := Option.bind_eq_some_iff.mp H
              obtain ⟨t254, A210, H⟩ := H
              replace H : (some ((t254.length : Int) == 2)) = some r := H
              have A21 := Aside0.mk A210
              clear A210
              obtain rfl := Option.some.inj H
              go_enter Try.func10, Try.ntmps10
              try go_wp2_with (first | ((with_reducible refine gate_dst (N := 1) rfl ?_); (try (refine gate_guard (by rfl) ?_; dsimp only)); refine box_event ?hg (N := 1) ?hd (cs := #[.int .i64 0, .int .i64 0, .int .i64 0, .int .i64 0, .int .i32 0, .slice none 0 0, .slice none 0 0, .slice none 0 0]) (t := 28) ?hr ?_; (case hd => rfl); (case hg => rfl); (case hr => first | (go_simp; done) | (go_simp; rfl)); intro gb223 hg w22 hbox hb; have n0_ := Aside0.mk (below_step (by repeat (first | (with_reducible first | exact HB.out | apply below_alloc | apply pw_below_drewN | apply below_drew1) | exact HB.out)) hb); have n1_ := Aside0.mk (hbox); have n2_ := Aside0.mk ((by rw [hg]; exact (below_size (by repeat (first | (with_reducible first | exact HB.out | apply below_alloc | apply pw_below_drewN | apply below_drew1) | exact HB.out))) : w.heap.size ≤ gb223)); have n3_ := Aside0.mk ((by rw [hg]; exact (below_size (by repeat (first | (with_reducible first | exact HB.out | apply below_alloc | apply pw_below_drewN | apply below_drew1) | exact HB.out))) : w.heap.size ≤ gb223)); clear HB; have HB := n0_; have BK223 := n1_; have GW223 := n2_; have GE223 := n3_; clear n0_ n1_ n2_ n3_; clear hb hbox hg; have hcz23_0 : w22.cell? ⟨gb223, 0, none⟩ = some (.int .i64 0) := (blk_cell BK223.out 0).trans rfl; have hcz23_1 : w22.cell? ⟨gb223, 1, none⟩ = some (.int .i64 0) := (blk_cell BK223.out 1).trans rfl; have hcz23_2 : w22.cell? ⟨gb223, 2, none⟩ = some (.int .i64 0) := (blk_cell BK223.out 2).trans rfl; have hcz23_3 : w22.cell? ⟨gb223, 3, none⟩ = some (.int .i64 0) := (blk_cell BK223.out 3).trans rfl; have hcz23_4 : w22.cell? ⟨gb223, 4, none⟩ = some (.int .i32 0) := (blk_cell BK223.out 4).trans rfl; have hcz23_5 : w22.cell? ⟨gb223, 5, none⟩ = some (.slice none 0 0) := (blk_cell BK223.out 5).trans rfl; have hcz23_6 : w22.cell? ⟨gb223, 6, none⟩ = some (.slice none 0 0) := (blk_cell BK223.out 6).trans rfl; have hcz23_7 : w22.cell? ⟨gb223, 7, none⟩ = some (.slice none 0 0) := (blk_cell BK223.out 7).trans rfl; have hfz23_0 := blk_frozen BK223.out 0; have hfz23_1 := blk_frozen BK223.out 1; have hfz23_2 := blk_frozen BK223.out 2; have hfz23_3 := blk_frozen BK223.out 3; have hfz23_4 := blk_frozen BK223.out 4; have hfz23_5 := blk_frozen BK223.out 5; have hfz23_6 := blk_frozen BK223.out 6; have hfz23_7 := blk_frozen BK223.out 7))
              have n0_ : Aside0 (((((((((w22.setCell ⟨gb223, 0, none⟩ (.int .i64 3)).setCell ⟨gb223, 1, none⟩ (.int .i64 1)).setCell ⟨gb223, 2, none⟩ (.int .i64 1)).setCell ⟨gb223, 3, none⟩ (.int .i64 0)).setCell ⟨gb223, 4, none⟩ (.int .i32 0)).setCell ⟨gb223, 5, none⟩ (.slice none 0 0)).setCell ⟨gb223, 6, none⟩ (.slice none 0 0)).setCell ⟨gb223, 7, none⟩ (.slice none 0 0)).heap[gb223]? = some (.cells #[.int .i64 3, .int .i64 1, .int .i64 1, .int .i64 0, .int .i32 0, .slice none 0 0, .slice none 0 0, .slice none 0 0] 28 (0, 0))) := ⟨by (with_reducible repeat (first | refine blk_drewN ?_ _ | refine blk_drew ?_ | refine blk_alloc ?_ _)); refine blk_put (cs := #[.int .i64 3, .int .i64 1, .int .i64 1, .int .i64 0, .int .i32 0, .slice none 0 0, .slice none 0 0, .slice none 0 0]) ?_ 7 _ rfl; (with_reducible repeat (first | refine blk_drewN ?_ _ | refine blk_drew ?_ | refine blk_alloc ?_ _)); refine blk_put (cs := #[.int .i64 3, .int .i64 1, .int .i64 1, .int .i64 0, .int .i32 0, .slice none 0 0, .slice none 0 0, .slice none 0 0]) ?_ 6 _ rfl; (with_reducible repeat (first | refine blk_drewN ?_ _ | refine blk_drew ?_ | refine blk_alloc ?_ _)); refine blk_put (cs := #[.int .i64 3, .int .i64 1, .int .i64 1, .int .i64 0, .int .i32 0, .slice none 0 0, .slice none 0 0, .slice none 0 0]) ?_ 5 _ rfl; (with_reducible repeat (first | refine blk_drewN ?_ _ | refine blk_drew ?_ | refine blk_alloc ?_ _)); refine blk_put (cs := #[.int .i64 3, .int .i64 1, .int .i64 1, .int .i64 0, .int .i32 0, .slice none 0 0, .slice none 0 0, .slice none 0 0]) ?_ 4 _ rfl; (with_reducible repeat (first | refine blk_drewN ?_ _ | refine blk_drew ?_ | refine blk_alloc ?_ _)); refine blk_put (cs := #[.int .i64 3, .int .i64 1, .int .i64 1, .int .i64 0, .int .i32 0, .slice none 0 0, .slice none 0 0, .slice none 0 0]) ?_ 3 _ rfl; (with_reducible repeat (first | refine blk_drewN ?_ _ | refine blk_drew ?_ | refine blk_alloc ?_ _)); refine blk_put (cs := #[.int .i64 3, .int .i64 1, .int .i64 0, .int .i64 0, .int .i32 0, .slice none 0 0, .slice none 0 0, .slice none 0 0]) ?_ 2 _ rfl; (with_reducible repeat (first | refine blk_drewN ?_ _ | refine blk_drew ?_ | refine blk_alloc ?_ _)); refine blk_put (cs := #[.int .i64 3, .int .i64 0, .int .i64 0, .int .i64 0, .int .i32 0, .slice none 0 0, .slice none 0 0, .slice none 0 0]) ?_ 1 _ rfl; (with_reducible repeat (first | refine blk_drewN ?_ _ | refine blk_drew ?_ | refine blk_alloc ?_ _)); refine blk_put (cs := #[.int .i64 0, .int .i64 0, .int .i64 0, .int .i64 0, .int .i32 0, .slice none 0 0, .slice none 0 0, .slice none 0 0]) ?_ 0 _ rfl; (with_reducible repeat (first | refine blk_drewN ?_ _ | refine blk_drew ?_ | refine blk_alloc ?_ _)); exact BK223.out⟩
              have n1_ : Aside0 (Below w.heap.size w ((((((((w22.setCell ⟨gb223, 0, none⟩ (.int .i64 3)).setCell ⟨gb223, 1, none⟩ (.int .i64 1)).setCell ⟨gb223, 2, none⟩ (.int .i64 1)).setCell ⟨gb223, 3, none⟩ (.int .i64 0)).setCell ⟨gb223, 4, none⟩ (.int .i32 0)).setCell ⟨gb223, 5, none⟩ (.slice none 0 0)).setCell ⟨gb223, 6, none⟩ (.slice none 0 0)).setCell ⟨gb223, 7, none⟩ (.slice none 0 0))) := ⟨by repeat (first | (with_reducible first | exact HB.out | apply below_alloc | apply pw_below_drewN | apply below_drew1 | refine below_set ?_ GE223.out) | exact HB.out)⟩
              (try clear BK223)
              (try clear HB)
              generalize ((((((((w22.setCell ⟨gb223, 0, none⟩ (.int .i64 3)).setCell ⟨gb223, 1, none⟩ (.int .i64 1)).setCell ⟨gb223, 2, none⟩ (.int .i64 1)).setCell ⟨gb223, 3, none⟩ (.int .i64 0)).setCell ⟨gb223, 4, none⟩ (.int .i32 0)).setCell ⟨gb223, 5, none⟩ (.slice none 0 0)).setCell ⟨gb223, 6, none⟩ (.slice none 0 0)).setCell ⟨gb223, 7, none⟩ (.slice none 0 0)) = w24 at n0_ n1_ ⊢
              have BK223 := n0_
              have HB := n1_
              clear n0_ n1_
              have n0_ := Aside0.mk (blk_drew BK223.out)
              have n1_ := Aside0.mk (below_drew1 HB.out)
              clear BK223
              clear HB
              have BK223 := n0_
              have HB := n1_
              clear n0_ n1_
              refine start_ (n := 11) (S := fun w' => w'.cell? ⟨gb223, 0, none⟩ = some (.int .i64 3) ∧ w'.cell? ⟨gb223, 1, none⟩ = some (.int .i64 1) ∧ w'.cell? ⟨gb223, 2, none⟩ = some (.int .i64 1) ∧ w'.cell? ⟨gb223, 3, none⟩ = some (.int .i64 0) ∧ w'.cell? ⟨gb223, 4, none⟩ = some (.int .i32 0) ∧ w'.cell? ⟨gb223, 5, none⟩ = some (.slice none 0 0) ∧ w'.cell? ⟨gb223, 6, none⟩ = some (.slice none 0 0) ∧ w'.cell? ⟨gb223, 7, none⟩ = some (.slice none 0 0)) (ds := []) #[false, false, false, false, false, false, false, false, false, false, false] (by kernel_rfl) rfl rfl ⟨(blk_cell BK223.out 0).trans rfl, (blk_cell BK223.out 1).trans rfl, (blk_cell BK223.out 2).trans rfl, (blk_cell BK223.out 3).trans rfl, (blk_cell BK223.out 4).trans rfl, (blk_cell BK223.out 5).trans rfl, (blk_cell BK223.out 6).trans rfl, (blk_cell BK223.out 7).trans rfl⟩ (fun hHeld => ?_); refine with_tabW variorumlaw09_fixed.tab2 variorumlaw09_fixed.bits2 (fun HT_ HW_ => ?_)
              generalize w24.drew = w25 at BK223 HB hHeld ⊢
              refine take_ (i := 0) (N := some 9) (v := ?_) (a' := ?_) #[true, false, false, false, false, false, false, false, false, false, false] rfl rfl (take_ofW HT_.out HW_.out (by kernel_rfl)) (fun _ _ _ h => h) (Or.inl ⟨by rfl, ?_⟩) hHeld ?_ ?_
              rotate_left
              ·rintro w' ⟨s0, s1, s2, s3, s4, s5, s6, s7⟩
               go_simp
               with_reducible rfl
              rotate_left
              ·simp only [Act.put, List.setIfInBounds_toArray, List.set_cons_zero, List.set_cons_succ, i64_w, i32_w]
               rfl
              refine join_ (σ := Value × Value × Value × Value × Nat) 2 #[true, true, true, true, true, true, true, true, true, false, false] (fun s_ => [(10, s_.1), (11, s_.2.1), (12, s_.2.2.1), (13, .tuple #[s_.2.2.2.1, .agg #[.int .i64 t236, .int .i64 t237]]), (3, .pointer (some ⟨s_.2.2.2.2, 0, none⟩)), (8, .tuple #[s_.2.2.2.1, .agg #[.int .i64 t236, .int .i64 t237]]), (14, s_.2.2.2.1), (15, .agg #[.int .i64 t236, .int .i64 t237])]) (fun s_ w' => (w'.cell? ⟨gb223, 0, none⟩ = some (.int .i64 3) ∧ w'.cell? ⟨gb223, 1, none⟩ = some (.int .i64 1) ∧ w'.cell? ⟨gb223, 2, none⟩ = some (.int .i64 1) ∧ w'.cell? ⟨gb223, 3, none⟩ = some (.int .i64 0) ∧ w'.cell? ⟨gb223, 4, none⟩ = some (.int .i32 0) ∧ w'.cell? ⟨gb223, 5, none⟩ = some (.slice none 0 0) ∧ w'.cell? ⟨gb223, 6, none⟩ = some (.slice none 0 0) ∧ w'.cell? ⟨gb223, 7, none⟩ = some (.slice none 0 0)) ∧ (Kd.N (Kd.slice 47 k47) 43 w' w.heap.size (fun k_ => some k_ ≠ (s_.2.2.2.1 : Value).ownBlock ∧ k_ ≠ gb223 ∧ k_ ≠ s_.2.2.2.2) s_.2.2.1 y230) ∧ (Kd.R k45 45 w' w.heap.size (fun _ => True) s_.2.2.2.1 t233) ∧ (w'.heap[gb223]? = some (.cells #[.int .i64 3, .int .i64 1, .int .i64 1, .int .i64 0, .int .i32 0, .slice none 0 0, .slice none 0 0, .slice none 0 0] 28 (0, 0))) ∧ (w'.heap[s_.2.2.2.2]? = some (.cells #[.int .i64 0, .int .i64 0] 33 (0, 0))) ∧ (w.heap.size ≤ s_.2.2.2.2) ∧ (w.heap.size ≤ s_.2.2.2.2) ∧ (gb223 ≠ s_.2.2.2.2) ∧ (s_.2.2.2.2 ≠ gb223) ∧ (Below w.heap.size w w')) ?_ ?_
              rotate_left
              ·intro hJ1_2_3_4_8
               refine join_ (σ := Value × Value × Value × Value) 3 #[true, true, true, true, true, true, true, true, false, false, false] (fun s_ => [(10, s_.1), (11, s_.2.1), (12, s_.2.2.1), (13, .tuple #[s_.2.2.2, .agg #[.int .i64 t236, .int .i64 t237]]), (8, .tuple #[s_.2.2.2, .agg #[.int .i64 t236, .int .i64 t237]]), (14, s_.2.2.2), (15, .agg #[.int .i64 t236, .int .i64 t237])]) (fun s_ w' => (w'.cell? ⟨gb223, 0, none⟩ = some (.int .i64 3) ∧ w'.cell? ⟨gb223, 1, none⟩ = some (.int .i64 1) ∧ w'.cell? ⟨gb223, 2, none⟩ = some (.int .i64 1) ∧ w'.cell? ⟨gb223, 3, none⟩ = some (.int .i64 0) ∧ w'.cell? ⟨gb223, 4, none⟩ = some (.int .i32 0) ∧ w'.cell? ⟨gb223, 5, none⟩ = some (.slice none 0 0) ∧ w'.cell? ⟨gb223, 6, none⟩ = some (.slice none 0 0) ∧ w'.cell? ⟨gb223, 7, none⟩ = some (.slice none 0 0)) ∧ (Kd.N (Kd.slice 47 k47) 43 w' w.heap.size (fun k_ => some k_ ≠ (s_.2.2.2 : Value).ownBlock ∧ k_ ≠ gb223) s_.2.2.1 y230) ∧ (Kd.R k45 45 w' w.heap.size (fun _ => True) s_.2.2.2 t233) ∧ (w'.heap[gb223]? = some (.cells #[.int .i64 3, .int .i64 1, .int .i64 1, .int .i64 0, .int .i32 0, .slice none 0 0, .slice none 0 0, .slice none 0 0] 28 (0, 0))) ∧ (Below w.heap.size w w')) ?_ ?_
               rotate_left
               ·intro hJ1_2_3_4
                refine join_ (σ := Value × Value × Value × Nat) 6 #[true, true, true, true, false, false, false, false, true, false, false] (fun s_ => [(10, s_.1), (11, s_.2.1), (12, s_.2.2.1), (3, .pointer (some ⟨s_.2.2.2, 0, none⟩))]) (fun s_ w' => (w'.cell? ⟨gb223, 0, none⟩ = some (.int .i64 3) ∧ w'.cell? ⟨gb223, 1, none⟩ = some (.int .i64 1) ∧ w'.cell? ⟨gb223, 2, none⟩ = some (.int .i64 1) ∧ w'.cell? ⟨gb223, 3, none⟩ = some (.int .i64 0) ∧ w'.cell? ⟨gb223, 4, none⟩ = some (.int .i32 0) ∧ w'.cell? ⟨gb223, 5, none⟩ = some (.slice none 0 0) ∧ w'.cell? ⟨gb223, 6, none⟩ = some (.slice none 0 0) ∧ w'.cell? ⟨gb223, 7, none⟩ = some (.slice none 0 0)) ∧ (Kd.N (Kd.slice 47 k47) 43 w' w.heap.size (fun k_ => k_ ≠ gb223 ∧ k_ ≠ s_.2.2.2) s_.2.2.1 y230) ∧ (w'.heap[gb223]? = some (.cells #[.int .i64 3, .int .i64 1, .int .i64 1, .int .i64 0, .int .i32 0, .slice none 0 0, .slice none 0 0, .slice none 0 0] 28 (0, 0))) ∧ (w'.heap[s_.2.2.2]? = some (.cells #[.int .i64 0, .int .i64 0] 33 (0, 0))) ∧ (w.heap.size ≤ s_.2.2.2) ∧ (w.heap.size ≤ s_.2.2.2) ∧ (gb223 ≠ s_.2.2.2) ∧ (s_.2.2.2 ≠ gb223) ∧ (Below w.heap.size w w')) ?_ ?_
                rotate_left
                ·intro hJ1_2_3_8
                 refine join_ (σ := Value × Value × Value) 7 #[true, true, true, true, false, false, false, false, false, false, false] (fun s_ => [(10, s_.1), (11, s_.2.1), (12, s_.2.2)]) (fun s_ w' => (w'.cell? ⟨gb223, 0, none⟩ = some (.int .i64 3) ∧ w'.cell? ⟨gb223, 1, none⟩ = some (.int .i64 1) ∧ w'.cell? ⟨gb223, 2, none⟩ = some (.int .i64 1) ∧ w'.cell? ⟨gb223, 3, none⟩ = some (.int .i64 0) ∧ w'.cell? ⟨gb223, 4, none⟩ = some (.int .i32 0) ∧ w'.cell? ⟨gb223, 5, none⟩ = some (.slice none 0 0) ∧ w'.cell? ⟨gb223, 6, none⟩ = some (.slice none 0 0) ∧ w'.cell? ⟨gb223, 7, none⟩ = some (.slice none 0 0)) ∧ (Kd.N (Kd.slice 47 k47) 43 w' w.heap.size (fun k_ => k_ ≠ gb223) s_.2.2 y230) ∧ (w'.heap[gb223]? = some (.cells #[.int .i64 3, .int .i64 1, .int .i64 1, .int .i64 0, .int .i32 0, .slice none 0 0, .slice none 0 0, .slice none 0 0] 28 (0, 0))) ∧ (Below w.heap.size w w')) ?_ ?_
                 rotate_left
                 ·intro hJ1_2_3
                  refine join_ (σ := Value × Value × Nat) 7 #[true, true, true, false, false, false, false, false, true, false, false] (fun s_ => [(10, s_.1), (11, s_.2.1), (3, .pointer (some ⟨s_.2.2, 0, none⟩))]) (fun s_ w' => (w'.cell? ⟨gb223, 0, none⟩ = some (.int .i64 3) ∧ w'.cell? ⟨gb223, 1, none⟩ = some (.int .i64 1) ∧ w'.cell? ⟨gb223, 2, none⟩ = some (.int .i64 1) ∧ w'.cell? ⟨gb223, 3, none⟩ = some (.int .i64 0) ∧ w'.cell? ⟨gb223, 4, none⟩ = some (.int .i32 0) ∧ w'.cell? ⟨gb223, 5, none⟩ = some (.slice none 0 0) ∧ w'.cell? ⟨gb223, 6, none⟩ = some (.slice none 0 0) ∧ w'.cell? ⟨gb223, 7, none⟩ = some (.slice none 0 0)) ∧ (Kd.R k47 47 w' w.heap.size (fun k_ => some k_ ≠ (s_.2.1 : Value).ownBlock) s_.1 t224) ∧ (Kd.R k47 47 w' w.heap.size (fun k_ => some k_ ≠ (s_.1 : Value).ownBlock) s_.2.1 t227) ∧ (w'.heap[gb223]? = some (.cells #[.int .i64 3, .int .i64 1, .int .i64 1, .int .i64 0, .int .i32 0, .slice none 0 0, .slice none 0 0, .slice none 0 0] 28 (0, 0))) ∧ (w'.heap[s_.2.2]? = some (.cells #[.int .i64 0, .int .i64 0] 33 (0, 0))) ∧ (w.heap.size ≤ s_.2.2) ∧ (w.heap.size ≤ s_.2.2) ∧ (gb223 ≠ s_.2.2) ∧ (s_.2.2 ≠ gb223) ∧ (Below w.heap.size w w')) ?_ ?_
                  rotate_left
                  ·intro hJ1_2_8
                   refine join_ (σ := Value × Value) 8 #[true, true, true, false, false, false, false, false, false, false, false] (fun s_ => [(10, s_.1), (11, s_.2)]) (fun s_ w' => (w'.cell? ⟨gb223, 0, none⟩ = some (.int .i64 3) ∧ w'.cell? ⟨gb223, 1, none⟩ = some (.int .i64 1) ∧ w'.cell? ⟨gb223, 2, none⟩ = some (.int .i64 1) ∧ w'.cell? ⟨gb223, 3, none⟩ = some (.int .i64 0) ∧ w'.cell? ⟨gb223, 4, none⟩ = some (.int .i32 0) ∧ w'.cell? ⟨gb223, 5, none⟩ = some (.slice none 0 0) ∧ w'.cell? ⟨gb223, 6, none⟩ = some (.slice none 0 0) ∧ w'.cell? ⟨gb223, 7, none⟩ = some (.slice none 0 0)) ∧ (Kd.R k47 47 w' w.heap.size (fun k_ => some k_ ≠ (s_.2 : Value).ownBlock) s_.1 t224) ∧ (Kd.R k47 47 w' w.heap.size (fun k_ => some k_ ≠ (s_.1 : Value).ownBlock) s_.2 t227) ∧ (w'.heap[gb223]? = some (.cells #[.int .i64 3, .int .i64 1, .int .i64 1, .int .i64 0, .int .i32 0, .slice none 0 0, .slice none 0 0, .slice none 0 0] 28 (0, 0))) ∧ (Below w.heap.size w w')) ?_ ?_
                   rotate_left
                   ·intro hJ1_2
                    refine join_ (σ := Value × Nat) 8 #[true, true, false, false, false, false, false, false, true, false, false] (fun s_ => [(10, s_.1), (3, .pointer (some ⟨s_.2, 0, none⟩))]) (fun s_ w' => (w'.cell? ⟨gb223, 0, none⟩ = some (.int .i64 3) ∧ w'.cell? ⟨gb223, 1, none⟩ = some (.int .i64 1) ∧ w'.cell? ⟨gb223, 2, none⟩ = some (.int .i64 1) ∧ w'.cell? ⟨gb223, 3, none⟩ = some (.int .i64 0) ∧ w'.cell? ⟨gb223, 4, none⟩ = some (.int .i32 0) ∧ w'.cell? ⟨gb223, 5, none⟩ = some (.slice none 0 0) ∧ w'.cell? ⟨gb223, 6, none⟩ = some (.slice none 0 0) ∧ w'.cell? ⟨gb223, 7, none⟩ = some (.slice none 0 0)) ∧ (Kd.R k47 47 w' w.heap.size (fun _ => True) s_.1 t224) ∧ (w'.heap[gb223]? = some (.cells #[.int .i64 3, .int .i64 1, .int .i64 1, .int .i64 0, .int .i32 0, .slice none 0 0, .slice none 0 0, .slice none 0 0] 28 (0, 0))) ∧ (w'.heap[s_.2]? = some (.cells #[.int .i64 0, .int .i64 0] 33 (0, 0))) ∧ (w.heap.size ≤ s_.2) ∧ (w.heap.size ≤ s_.2) ∧ (gb223 ≠ s_.2) ∧ (s_.2 ≠ gb223) ∧ (Below w.heap.size w w')) ?_ ?_
                    rotate_left
                    ·intro hJ1_8
                     refine join_ (σ := Value) 9 #[true, true, false, false, false, false, false, false, false, false, false] (fun s_ => [(10, s_)]) (fun s_ w' => (w'.cell? ⟨gb223, 0, none⟩ = some (.int .i64 3) ∧ w'.cell? ⟨gb223, 1, none⟩ = some (.int .i64 1) ∧ w'.cell? ⟨gb223, 2, none⟩ = some (.int .i64 1) ∧ w'.cell? ⟨gb223, 3, none⟩ = some (.int .i64 0) ∧ w'.cell? ⟨gb223, 4, none⟩ = some (.int .i32 0) ∧ w'.cell? ⟨gb223, 5, none⟩ = some (.slice none 0 0) ∧ w'.cell? ⟨gb223, 6, none⟩ = some (.slice none 0 0) ∧ w'.cell? ⟨gb223, 7, none⟩ = some (.slice none 0 0)) ∧ (Kd.R k47 47 w' w.heap.size (fun _ => True) s_ t224) ∧ (w'.heap[gb223]? = some (.cells #[.int .i64 3, .int .i64 1, .int .i64 1, .int .i64 0, .int .i32 0, .slice none 0 0, .slice none 0 0, .slice none 0 0] 28 (0, 0))) ∧ (Below w.heap.size w w')) ?_ ?_
                     rotate_left
                     ·intro hJ1
                      refine join_ (σ := Nat) 9 #[true, false, false, false, false, false, false, false, true, false, false] (fun s_ => [(3, .pointer (some ⟨s_, 0, none⟩))]) (fun s_ w' => (w'.cell? ⟨gb223, 0, none⟩ = some (.int .i64 3) ∧ w'.cell? ⟨gb223, 1, none⟩ = some (.int .i64 1) ∧ w'.cell? ⟨gb223, 2, none⟩ = some (.int .i64 1) ∧ w'.cell? ⟨gb223, 3, none⟩ = some (.int .i64 0) ∧ w'.cell? ⟨gb223, 4, none⟩ = some (.int .i32 0) ∧ w'.cell? ⟨gb223, 5, none⟩ = some (.slice none 0 0) ∧ w'.cell? ⟨gb223, 6, none⟩ = some (.slice none 0 0) ∧ w'.cell? ⟨gb223, 7, none⟩ = some (.slice none 0 0)) ∧ (w'.heap[gb223]? = some (.cells #[.int .i64 3, .int .i64 1, .int .i64 1, .int .i64 0, .int .i32 0, .slice none 0 0, .slice none 0 0, .slice none 0 0] 28 (0, 0))) ∧ (w'.heap[s_]? = some (.cells #[.int .i64 0, .int .i64 0] 33 (0, 0))) ∧ (w.heap.size ≤ s_) ∧ (w.heap.size ≤ s_) ∧ (gb223 ≠ s_) ∧ (s_ ≠ gb223) ∧ (Below w.heap.size w w')) ?_ ?_
                      rotate_left
                      ·intro hJ8
                       refine two_ (i := 1) (j := 8) (Ni := some 10) (Nj := some 3) #[true, true, false, false, false, false, false, false, false, false, false] #[true, false, false, false, false, false, false, false, true, false, false] rfl rfl rfl rfl (two_of HT_.out (by kernel_rfl)) (by decide) (by decide) (fun K hK => ?_) (fun K hK => ?_)
                       ·skip
                        refine goes_ Try.func20 (by kernel_rfl) rfl #[.int .i64 5] (by rfl) rfl rfl (by (try simp only [List.map_toArray, List.map_cons, List.map_nil]); first | done | rfl | (simp only [List.length_drop, List.length_take]; rfl) | (simp only [*]; first | done | rfl)) ?_
                        with_reducible refine (variorumlaw09_one.calls 5 t224 _ A1.out).mono ?_
                        rintro e w26 ⟨v225, rfl, ho0, hb⟩
                        refine ⟨_, rfl, ?_⟩
                        have n0_ := Aside0.mk (Kd.R_lower ho0 (below_size (by repeat (first | (with_reducible first | exact HB.out | apply below_alloc | apply pw_below_drewN | apply below_drew1 | refine below_set ?_ GE223.out) | exact HB.out))))
                        have n1_ := Aside0.mk (blk_below (g := gb223) (o := .cells #[.int .i64 3, .int .i64 1, .int .i64 1, .int .i64 0, .int .i32 0, .slice none 0 0, .slice none 0 0, .slice none 0 0] 28 (0, 0)) (by (with_reducible repeat (first | refine blk_drewN ?_ _ | refine blk_drew ?_ | refine blk_alloc ?_ _)); exact BK223.out) hb)
                        have n2_ := Aside0.mk (below_step (by repeat (first | (with_reducible first | exact HB.out | apply below_alloc | apply pw_below_drewN | apply below_drew1 | refine below_set ?_ GE223.out) | exact HB.out)) hb)
                        clear BK223
                        clear HB
                        have HO226 := n0_
                        have BK223 := n1_
                        have HB := n2_
                        clear n0_ n1_ n2_
                        (try clear hb)
                        (try clear hb2)
                        (try clear hk)
                        (try clear hi)
                        (try clear ho0)
                        refine hK.out _ _ ⟨(blk_cell BK223.out 0).trans rfl, (blk_cell BK223.out 1).trans rfl, (blk_cell BK223.out 2).trans rfl, (blk_cell BK223.out 3).trans rfl, (blk_cell BK223.out 4).trans rfl, (blk_cell BK223.out 5).trans rfl, (blk_cell BK223.out 6).trans rfl, (blk_cell BK223.out 7).trans rfl⟩ (fun hHeld => ?_)
                        clear hK K
                        refine norm_ (a' := ?_) ?_ ?_
                        rotate_left
                        ·show Act.put _ (some 10) _ = _
                         simp only [Act.put, List.setIfInBounds_toArray, List.set_cons_zero, List.set_cons_succ, i64_w, i32_w]
                         rfl
                        exact norm_ (by first | (simp only [putAll, Act.put, List.setIfInBounds_toArray, List.set_cons_zero, List.set_cons_succ]; done) | (simp only [putAll, Act.put, List.setIfInBounds_toArray, List.set_cons_zero, List.set_cons_succ]; rfl)) (hJ1 (_) _ ⟨hHeld, (by (with_reducible repeat (first | apply Kd.R_alloc | apply Kd.R_drewN | apply Kd.R_drew)); exact HO226.out), (by (with_reducible repeat (first | refine blk_drewN ?_ _ | refine blk_drew ?_ | refine blk_alloc ?_ _)); exact BK223.out), (by repeat (first | (with_reducible first | exact HB.out | apply below_alloc | apply pw_below_drewN | apply below_drew1 | refine below_set ?_ GE223.out) | exact HB.out))⟩)
                       ·skip
                        refine box_step ?hg (N := 3) ?hd (cs := #[.int .i64 0, .int .i64 0]) (t := 33) ?hr ?_; (case hd => rfl); (case hg => rfl); (case hr => first | (go_simp; done) | (go_simp; rfl))
                        intro gb238 hg w26 hbox hb
                        have n0_ := Aside0.mk (blk_below (g := gb223) (o := .cells #[.int .i64 3, .int .i64 1, .int .i64 1, .int .i64 0, .int .i32 0, .slice none 0 0, .slice none 0 0, .slice none 0 0] 28 (0, 0)) (by (with_reducible repeat (first | refine blk_drewN ?_ _ | refine blk_drew ?_ | refine blk_alloc ?_ _)); exact BK223.out) hb)
                        have n1_ := Aside0.mk (below_step (by repeat (first | (with_reducible first | exact HB.out | apply below_alloc | apply pw_below_drewN | apply below_drew1 | refine below_set ?_ GE223.out) | exact HB.out)) hb)
                        have n2_ := Aside0.mk (hbox)
                        have n3_ := Aside0.mk ((by rw [hg]; exact (below_size (by repeat (first | (with_reducible first | exact HB.out | apply below_alloc | apply pw_below_drewN | apply below_drew1 | refine below_set ?_ GE223.out) | exact HB.out))) : w.heap.size ≤ gb238))
                        have n4_ := Aside0.mk ((by rw [hg]; exact (below_size (by repeat (first | (with_reducible first | exact HB.out | apply below_alloc | apply pw_below_drewN | apply below_drew1 | refine below_set ?_ GE223.out) | exact HB.out))) : w.heap.size ≤ gb238))
                        have n5_ := Aside0.mk ((by rw [hg]; exact Nat.ne_of_lt (blk_lt (g := gb223) (o := .cells #[.int .i64 3, .int .i64 1, .int .i64 1, .int .i64 0, .int .i32 0, .slice none 0 0, .slice none 0 0, .slice none 0 0] 28 (0, 0)) (by (with_reducible repeat (first | refine blk_drewN ?_ _ | refine blk_drew ?_ | refine blk_alloc ?_ _)); exact BK223.out)) : gb223 ≠ gb238))
                        have n6_ := Aside0.mk ((by rw [hg]; exact Nat.ne_of_gt (blk_lt (g := gb223) (o := .cells #[.int .i64 3, .int .i64 1, .int .i64 1, .int .i64 0, .int .i32 0, .slice none 0 0, .slice none 0 0, .slice none 0 0] 28 (0, 0)) (by (with_reducible repeat (first | refine blk_drewN ?_ _ | refine blk_drew ?_ | refine blk_alloc ?_ _)); exact BK223.out)) : gb238 ≠ gb223))
                        clear BK223
                        clear HB
                        have BK223 := n0_
                        have HB := n1_
                        have BK238 := n2_
                        have GW238 := n3_
                        have GE238 := n4_
                        have NB223_238 := n5_
                        have NB238_223 := n6_
                        clear n0_ n1_ n2_ n3_ n4_ n5_ n6_
                        clear hb hbox hg
                        refine hK.out _ _ ⟨(blk_cell BK223.out 0).trans rfl, (blk_cell BK223.out 1).trans rfl, (blk_cell BK223.out 2).trans rfl, (blk_cell BK223.out 3).trans rfl, (blk_cell BK223.out 4).trans rfl, (blk_cell BK223.out 5).trans rfl, (blk_cell BK223.out 6).trans rfl, (blk_cell BK223.out 7).trans rfl⟩ (fun hHeld => ?_)
                        clear hK K
                        refine norm_ (a' := ?_) ?_ ?_
                        rotate_left
                        ·show Act.put _ (some 3) _ = _
                         simp only [Act.put, List.setIfInBounds_toArray, List.set_cons_zero, List.set_cons_succ, i64_w, i32_w]
                         rfl
                        exact norm_ (by first | (simp only [putAll, Act.put, List.setIfInBounds_toArray, List.set_cons_zero, List.set_cons_succ]; done) | (simp only [putAll, Act.put, List.setIfInBounds_toArray, List.set_cons_zero, List.set_cons_succ]; rfl)) (hJ8 (gb238) _ ⟨hHeld, (by (with_reducible repeat (first | refine blk_drewN ?_ _ | refine blk_drew ?_ | refine blk_alloc ?_ _)); exact BK223.out), (by (with_reducible repeat (first | refine blk_drewN ?_ _ | refine blk_drew ?_ | refine blk_alloc ?_ _)); exact BK238.out), GW238.out, GE238.out, NB223_238.out, NB238_223.out, (by repeat (first | (with_reducible first | exact HB.out | apply below_alloc | apply pw_below_drewN | apply below_drew1 | refine below_set ?_ GE223.out | refine below_set ?_ GE238.out) | exact HB.out))⟩)
                      ·skip
                       rintro gb238 w27 ⟨hS_, h0_, h1_, h2_, h3_, h4_, h5_, h6_⟩
                       have n0_ : Aside0 (w27.heap[gb223]? = some (.cells #[.int .i64 3, .int .i64 1, .int .i64 1, .int .i64 0, .int .i32 0, .slice none 0 0, .slice none 0 0, .slice none 0 0] 28 (0, 0))) := ⟨h0_⟩
                       have n1_ : Aside0 (w27.heap[gb238]? = some (.cells #[.int .i64 0, .int .i64 0] 33 (0, 0))) := ⟨h1_⟩
                       have n2_ : Aside0 (w.heap.size ≤ gb238) := ⟨h2_⟩
                       have n3_ : Aside0 (w.heap.size ≤ gb238) := ⟨h3_⟩
                       have n4_ : Aside0 (gb223 ≠ gb238) := ⟨h4_⟩
                       have n5_ : Aside0 (gb238 ≠ gb223) := ⟨h5_⟩
                       have n6_ : Aside0 (Below w.heap.size w w27) := ⟨h6_⟩
                       clear BK223
                       clear HB
                       clear h0_ h1_ h2_ h3_ h4_ h5_ h6_
                       have BK223 := n0_
                       have BK238 := n1_
                       have GW238 := n2_
                       have GE238 := n3_
                       have NB223_238 := n4_
                       have NB238_223 := n5_
                       have HB := n6_
                       clear n0_ n1_ n2_ n3_ n4_ n5_ n6_
                       have hHeld : w27.cell? ⟨gb223, 0, none⟩ = some (.int .i64 3) ∧ w27.cell? ⟨gb223, 1, none⟩ = some (.int .i64 1) ∧ w27.cell? ⟨gb223, 2, none⟩ = some (.int .i64 1) ∧ w27.cell? ⟨gb223, 3, none⟩ = some (.int .i64 0) ∧ w27.cell? ⟨gb223, 4, none⟩ = some (.int .i32 0) ∧ w27.cell? ⟨gb223, 5, none⟩ = some (.slice none 0 0) ∧ w27.cell? ⟨gb223, 6, none⟩ = some (.slice none 0 0) ∧ w27.cell? ⟨gb223, 7, none⟩ = some (.slice none 0 0) := hS_
                       refine norm_ (a' := ?_) ?_ ?_
                       rotate_left
                       ·simp only [putAll, Act.put, List.setIfInBounds_toArray, List.set_cons_zero, List.set_cons_succ]
                        rfl
                       refine one_ (i := 1) (N := some 10) #[true, true, false, false, false, false, false, false, true, false, false] rfl rfl (one_of HT_.out (by kernel_rfl)) (by decide) (fun K hK => ?_)
                       refine goes_ Try.func20 (by kernel_rfl) rfl #[.int .i64 5] (by rfl) rfl rfl (by (try simp only [List.map_toArray, List.map_cons, List.map_nil]); first | done | rfl | (simp only [List.length_drop, List.length_take]; rfl) | (simp only [*]; first | done | rfl)) ?_
                       with_reducible refine (variorumlaw09_one.calls 5 t224 _ A1.out).mono ?_
                       rintro e w28 ⟨v225, rfl, ho0, hb⟩
                       refine ⟨_, rfl, ?_⟩
                       have n0_ := Aside0.mk (Kd.R_lower ho0 (below_size (by repeat (first | (with_reducible first | exact HB.out | apply below_alloc | apply pw_below_drewN | apply below_drew1 | refine below_set ?_ GE223.out | refine below_set ?_ GE238.out) | exact HB.out))))
                       have n1_ := Aside0.mk (blk_below (g := gb223) (o := .cells #[.int .i64 3, .int .i64 1, .int .i64 1, .int .i64 0, .int .i32 0, .slice none 0 0, .slice none 0 0, .slice none 0 0] 28 (0, 0)) (by (with_reducible repeat (first | refine blk_drewN ?_ _ | refine blk_drew ?_ | refine blk_alloc ?_ _)); exact BK223.out) hb)
                       have n2_ := Aside0.mk (blk_below (g := gb238) (o := .cells #[.int .i64 0, .int .i64 0] 33 (0, 0)) (by (with_reducible repeat (first | refine blk_drewN ?_ _ | refine blk_drew ?_ | refine blk_alloc ?_ _)); exact BK238.out) hb)
                       have n3_ := Aside0.mk (below_step (by repeat (first | (with_reducible first | exact HB.out | apply below_alloc | apply pw_below_drewN | apply below_drew1 | refine below_set ?_ GE223.out | refine below_set ?_ GE238.out) | exact HB.out)) hb)
                       clear BK223
                       clear BK238
                       clear HB
                       have HO226 := n0_
                       have BK223 := n1_
                       have BK238 := n2_
                       have HB := n3_
                       clear n0_ n1_ n2_ n3_
                       (try clear hb)
                       (try clear hb2)
                       (try clear hk)
                       (try clear hi)
                       (try clear ho0)
                       refine hK.out _ _ ⟨(blk_cell BK223.out 0).trans rfl, (blk_cell BK223.out 1).trans rfl, (blk_cell BK223.out 2).trans rfl, (blk_cell BK223.out 3).trans rfl, (blk_cell BK223.out 4).trans rfl, (blk_cell BK223.out 5).trans rfl, (blk_cell BK223.out 6).trans rfl, (blk_cell BK223.out 7).trans rfl⟩ (fun hHeld => ?_)
                       clear hK K
                       refine norm_ (a' := ?_) ?_ ?_
                       rotate_left
                       ·show Act.put _ (some 10) _ = _
                        simp only [Act.put, List.setIfInBounds_toArray, List.set_cons_zero, List.set_cons_succ, i64_w, i32_w]
                        rfl
                       exact norm_ (by first | (simp only [putAll, Act.put, List.setIfInBounds_toArray, List.set_cons_zero, List.set_cons_succ]; done) | (simp only [putAll, Act.put, List.setIfInBounds_toArray, List.set_cons_zero, List.set_cons_succ]; rfl)) (hJ1_8 (_, gb238) _ ⟨hHeld, (by (with_reducible repeat (first | apply Kd.R_alloc | apply Kd.R_drewN | apply Kd.R_drew)); exact HO226.out), (by (with_reducible repeat (first | refine blk_drewN ?_ _ | refine blk_drew ?_ | refine blk_alloc ?_ _)); exact BK223.out), (by (with_reducible repeat (first | refine blk_drewN ?_ _ | refine blk_drew ?_ | refine blk_alloc ?_ _)); exact BK238.out), GW238.out, GE238.out, NB223_238.out, NB238_223.out, (by repeat (first | (with_reducible first | exact HB.out | apply below_alloc | apply pw_below_drewN | apply below_drew1 | refine below_set ?_ GE223.out | refine below_set ?_ GE238.out) | exact HB.out))⟩)
                     ·skip
                      rintro v225 w27 ⟨hS_, h0_, h1_, h2_⟩
                      have n0_ : Aside0 (Kd.R k47 47 w27 w.heap.size (fun _ => True) v225 t224) := ⟨h0_⟩
                      have n1_ : Aside0 (w27.heap[gb223]? = some (.cells #[.int .i64 3, .int .i64 1, .int .i64 1, .int .i64 0, .int .i32 0, .slice none 0 0, .slice none 0 0, .slice none 0 0] 28 (0, 0))) := ⟨h1_⟩
                      have n2_ : Aside0 (Below w.heap.size w w27) := ⟨h2_⟩
                      clear BK223
                      clear HB
                      clear h0_ h1_ h2_
                      have HO226 := n0_
                      have BK223 := n1_
                      have HB := n2_
                      clear n0_ n1_ n2_
                      have hHeld : w27.cell? ⟨gb223, 0, none⟩ = some (.int .i64 3) ∧ w27.cell? ⟨gb223, 1, none⟩ = some (.int .i64 1) ∧ w27.cell? ⟨gb223, 2, none⟩ = some (.int .i64 1) ∧ w27.cell? ⟨gb223, 3, none⟩ = some (.int .i64 0) ∧ w27.cell? ⟨gb223, 4, none⟩ = some (.int .i32 0) ∧ w27.cell? ⟨gb223, 5, none⟩ = some (.slice none 0 0) ∧ w27.cell? ⟨gb223, 6, none⟩ = some (.slice none 0 0) ∧ w27.cell? ⟨gb223, 7, none⟩ = some (.slice none 0 0) := hS_
                      refine norm_ (a' := ?_) ?_ ?_
                      rotate_left
                      ·simp only [putAll, Act.put, List.setIfInBounds_toArray, List.set_cons_zero, List.set_cons_succ]
                       rfl
                      refine two_ (i := 2) (j := 8) (Ni := some 11) (Nj := some 3) #[true, true, true, false, false, false, false, false, false, false, false] #[true, true, false, false, false, false, false, false, true, false, false] rfl rfl rfl rfl (two_of HT_.out (by kernel_rfl)) (by decide) (by decide) (fun K hK => ?_) (fun K hK => ?_)
                      ·skip
                       refine goes_ Try.func20 (by kernel_rfl) rfl #[.int .i64 6] (by rfl) rfl rfl (by (try simp only [List.map_toArray, List.map_cons, List.map_nil]); first | done | rfl | (simp only [List.length_drop, List.length_take]; rfl) | (simp only [*]; first | done | rfl)) ?_
                       with_reducible refine (variorumlaw09_one.calls 6 t227 _ A2.out).mono ?_
                       rintro e w28 ⟨v228, rfl, ho0, hb⟩
                       refine ⟨_, rfl, ?_⟩
                       have n0_ := Aside0.mk (Kd.R_elder' (by (with_reducible repeat (first | apply Kd.R_alloc | apply Kd.R_drewN | apply Kd.R_drew)); exact HO226.out) (Kd.R_base ho0) hb)
                       have n1_ := Aside0.mk (Kd.R_lower (Kd.R_new' ho0 (Kd.R_lt (by (with_reducible repeat (first | apply Kd.R_alloc | apply Kd.R_drewN | apply Kd.R_drew)); exact HO226.out))) (below_size (by repeat (first | (with_reducible first | exact HB.out | apply below_alloc | apply pw_below_drewN | apply below_drew1 | refine below_set ?_ GE223.out) | exact HB.out))))
                       have n2_ := Aside0.mk (blk_below (g := gb223) (o := .cells #[.int .i64 3, .int .i64 1, .int .i64 1, .int .i64 0, .int .i32 0, .slice none 0 0, .slice none 0 0, .slice none 0 0] 28 (0, 0)) (by (with_reducible repeat (first | refine blk_drewN ?_ _ | refine blk_drew ?_ | refine blk_alloc ?_ _)); exact BK223.out) hb)
                       have n3_ := Aside0.mk (below_step (by repeat (first | (with_reducible first | exact HB.out | apply below_alloc | apply pw_below_drewN | apply below_drew1 | refine below_set ?_ GE223.out) | exact HB.out)) hb)
                       clear HO226
                       clear BK223
                       clear HB
                       have HO226 := n0_
                       have HO229 := n1_
                       have BK223 := n2_
                       have HB := n3_
                       clear n0_ n1_ n2_ n3_
                       (try clear hb)
                       (try clear hb2)
                       (try clear hk)
                       (try clear hi)
                       (try clear ho0)
                       refine hK.out _ _ ⟨(blk_cell BK223.out 0).trans rfl, (blk_cell BK223.out 1).trans rfl, (blk_cell BK223.out 2).trans rfl, (blk_cell BK223.out 3).trans rfl, (blk_cell BK223.out 4).trans rfl, (blk_cell BK223.out 5).trans rfl, (blk_cell BK223.out 6).trans rfl, (blk_cell BK223.out 7).trans rfl⟩ (fun hHeld => ?_)
                       clear hK K
                       refine norm_ (a' := ?_) ?_ ?_
                       rotate_left
                       ·show Act.put _ (some 11) _ = _
                        simp only [Act.put, List.setIfInBounds_toArray, List.set_cons_zero, List.set_cons_succ, i64_w, i32_w]
                        rfl
                       exact norm_ (by first | (simp only [putAll, Act.put, List.setIfInBounds_toArray, List.set_cons_zero, List.set_cons_succ]; done) | (simp only [putAll, Act.put, List.setIfInBounds_toArray, List.set_cons_zero, List.set_cons_succ]; rfl)) (hJ1_2 (_, _) _ ⟨hHeld, (by (with_reducible repeat (first | apply Kd.R_alloc | apply Kd.R_drewN | apply Kd.R_drew)); exact Kd.R_mono HO226.out (fun _ hk => hk.2)), (by (with_reducible repeat (first | apply Kd.R_alloc | apply Kd.R_drewN | apply Kd.R_drew)); exact Kd.R_mono HO229.out (fun _ hk => hk.2)), (by (with_reducible repeat (first | refine blk_drewN ?_ _ | refine blk_drew ?_ | refine blk_alloc ?_ _)); exact BK223.out), (by repeat (first | (with_reducible first | exact HB.out | apply below_alloc | apply pw_below_drewN | apply below_drew1 | refine below_set ?_ GE223.out) | exact HB.out))⟩)
                      ·skip
                       refine box_step ?hg (N := 3) ?hd (cs := #[.int .i64 0, .int .i64 0]) (t := 33) ?hr ?_; (case hd => rfl); (case hg => rfl); (case hr => first | (go_simp; done) | (go_simp; rfl))
                       intro gb238 hg w28 hbox hb
                       have n0_ := Aside0.mk (Kd.R_below (by (with_reducible repeat (first | apply Kd.R_alloc | apply Kd.R_drewN | apply Kd.R_drew)); exact HO226.out) hb)
                       have n1_ := Aside0.mk (blk_below (g := gb223) (o := .cells #[.int .i64 3, .int .i64 1, .int .i64 1, .int .i64 0, .int .i32 0, .slice none 0 0, .slice none 0 0, .slice none 0 0] 28 (0, 0)) (by (with_reducible repeat (first | refine blk_drewN ?_ _ | refine blk_drew ?_ | refine blk_alloc ?_ _)); exact BK223.out) hb)
                       have n2_ := Aside0.mk (below_step (by repeat (first | (with_reducible first | exact HB.out | apply below_alloc | apply pw_below_drewN | apply below_drew1 | refine below_set ?_ GE223.out) | exact HB.out)) hb)
                       have n3_ := Aside0.mk (hbox)
                       have n4_ := Aside0.mk ((by rw [hg]; exact (below_size (by repeat (first | (with_reducible first | exact HB.out | apply below_alloc | apply pw_below_drewN | apply below_drew1 | refine below_set ?_ GE223.out) | exact HB.out))) : w.heap.size ≤ gb238))
                       have n5_ := Aside0.mk ((by rw [hg]; exact (below_size (by repeat (first | (with_reducible first | exact HB.out | apply below_alloc | apply pw_below_drewN | apply below_drew1 | refine below_set ?_ GE223.out) | exact HB.out))) : w.heap.size ≤ gb238))
                       have n6_ := Aside0.mk ((by rw [hg]; exact Nat.ne_of_lt (blk_lt (g := gb223) (o := .cells #[.int .i64 3, .int .i64 1, .int .i64 1, .int .i64 0, .int .i32 0, .slice none 0 0, .slice none 0 0, .slice none 0 0] 28 (0, 0)) (by (with_reducible repeat (first | refine blk_drewN ?_ _ | refine blk_drew ?_ | refine blk_alloc ?_ _)); exact BK223.out)) : gb223 ≠ gb238))
                       have n7_ := Aside0.mk ((by rw [hg]; exact Nat.ne_of_gt (blk_lt (g := gb223) (o := .cells #[.int .i64 3, .int .i64 1, .int .i64 1, .int .i64 0, .int .i32 0, .slice none 0 0, .slice none 0 0, .slice none 0 0] 28 (0, 0)) (by (with_reducible repeat (first | refine blk_drewN ?_ _ | refine blk_drew ?_ | refine blk_alloc ?_ _)); exact BK223.out)) : gb238 ≠ gb223))
                       clear HO226
                       clear BK223
                       clear HB
                       have HO226 := n0_
                       have BK223 := n1_
                       have HB := n2_
                       have BK238 := n3_
                       have GW238 := n4_
                       have GE238 := n5_
                       have NB223_238 := n6_
                       have NB238_223 := n7_
                       clear n0_ n1_ n2_ n3_ n4_ n5_ n6_ n7_
                       clear hb hbox hg
                       refine hK.out _ _ ⟨(blk_cell BK223.out 0).trans rfl, (blk_cell BK223.out 1).trans rfl, (blk_cell BK223.out 2).trans rfl, (blk_cell BK223.out 3).trans rfl, (blk_cell BK223.out 4).trans rfl, (blk_cell BK223.out 5).trans rfl, (blk_cell BK223.out 6).trans rfl, (blk_cell BK223.out 7).trans rfl⟩ (fun hHeld => ?_)
                       clear hK K
                       refine norm_ (a' := ?_) ?_ ?_
                       rotate_left
                       ·show Act.put _ (some 3) _ = _
                        simp only [Act.put, List.setIfInBounds_toArray, List.set_cons_zero, List.set_cons_succ, i64_w, i32_w]
                        rfl
                       exact norm_ (by first | (simp only [putAll, Act.put, List.setIfInBounds_toArray, List.set_cons_zero, List.set_cons_succ]; done) | (simp only [putAll, Act.put, List.setIfInBounds_toArray, List.set_cons_zero, List.set_cons_succ]; rfl)) (hJ1_8 (_, gb238) _ ⟨hHeld, (by (with_reducible repeat (first | apply Kd.R_alloc | apply Kd.R_drewN | apply Kd.R_drew)); exact HO226.out), (by (with_reducible repeat (first | refine blk_drewN ?_ _ | refine blk_drew ?_ | refine blk_alloc ?_ _)); exact BK223.out), (by (with_reducible repeat (first | refine blk_drewN ?_ _ | refine blk_drew ?_ | refine blk_alloc ?_ _)); exact BK238.out), GW238.out, GE238.out, NB223_238.out, NB238_223.out, (by repeat (first | (with_reducible first | exact HB.out | apply below_alloc | apply pw_below_drewN | apply below_drew1 | refine below_set ?_ GE223.out | refine below_set ?_ GE238.out) | exact HB.out))⟩)
                    ·skip
                     rintro ⟨v225, gb238⟩ w28 ⟨hS_, h0_, h1_, h2_, h3_, h4_, h5_, h6_, h7_⟩
                     have n0_ : Aside0 (Kd.R k47 47 w28 w.heap.size (fun _ => True) v225 t224) := ⟨h0_⟩
                     have n1_ : Aside0 (w28.heap[gb223]? = some (.cells #[.int .i64 3, .int .i64 1, .int .i64 1, .int .i64 0, .int .i32 0, .slice none 0 0, .slice none 0 0, .slice none 0 0] 28 (0, 0))) := ⟨h1_⟩
                     have n2_ : Aside0 (w28.heap[gb238]? = some (.cells #[.int .i64 0, .int .i64 0] 33 (0, 0))) := ⟨h2_⟩
                     have n3_ : Aside0 (w.heap.size ≤ gb238) := ⟨h3_⟩
                     have n4_ : Aside0 (w.heap.size ≤ gb238) := ⟨h4_⟩
                     have n5_ : Aside0 (gb223 ≠ gb238) := ⟨h5_⟩
                     have n6_ : Aside0 (gb238 ≠ gb223) := ⟨h6_⟩
                     have n7_ : Aside0 (Below w.heap.size w w28) := ⟨h7_⟩
                     clear BK223
                     clear HB
                     clear h0_ h1_ h2_ h3_ h4_ h5_ h6_ h7_
                     have HO226 := n0_
                     have BK223 := n1_
                     have BK238 := n2_
                     have GW238 := n3_
                     have GE238 := n4_
                     have NB223_238 := n5_
                     have NB238_223 := n6_
                     have HB := n7_
                     clear n0_ n1_ n2_ n3_ n4_ n5_ n6_ n7_
                     have hHeld : w28.cell? ⟨gb223, 0, none⟩ = some (.int .i64 3) ∧ w28.cell? ⟨gb223, 1, none⟩ = some (.int .i64 1) ∧ w28.cell? ⟨gb223, 2, none⟩ = some (.int .i64 1) ∧ w28.cell? ⟨gb223, 3, none⟩ = some (.int .i64 0) ∧ w28.cell? ⟨gb223, 4, none⟩ = some (.int .i32 0) ∧ w28.cell? ⟨gb223, 5, none⟩ = some (.slice none 0 0) ∧ w28.cell? ⟨gb223, 6, none⟩ = some (.slice none 0 0) ∧ w28.cell? ⟨gb223, 7, none⟩ = some (.slice none 0 0) := hS_
                     refine norm_ (a' := ?_) ?_ ?_
                     rotate_left
                     ·simp only [putAll, Act.put, List.setIfInBounds_toArray, List.set_cons_zero, List.set_cons_succ]
                      rfl
                     refine one_ (i := 2) (N := some 11) #[true, true, true, false, false, false, false, false, true, false, false] rfl rfl (one_of HT_.out (by kernel_rfl)) (by decide) (fun K hK => ?_)
                     refine goes_ Try.func20 (by kernel_rfl) rfl #[.int .i64 6] (by rfl) rfl rfl (by (try simp only [List.map_toArray, List.map_cons, List.map_nil]); first | done | rfl | (simp only [List.length_drop, List.length_take]; rfl) | (simp only [*]; first | done | rfl)) ?_
                     with_reducible refine (variorumlaw09_one.calls 6 t227 _ A2.out).mono ?_
                     rintro e w29 ⟨v228, rfl, ho0, hb⟩
                     refine ⟨_, rfl, ?_⟩
                     have n0_ := Aside0.mk (Kd.R_elder' (by (with_reducible repeat (first | apply Kd.R_alloc | apply Kd.R_drewN | apply Kd.R_drew)); exact HO226.out) (Kd.R_base ho0) hb)
                     have n1_ := Aside0.mk (Kd.R_lower (Kd.R_new' ho0 (Kd.R_lt (by (with_reducible repeat (first | apply Kd.R_alloc | apply Kd.R_drewN | apply Kd.R_drew)); exact HO226.out))) (below_size (by repeat (first | (with_reducible first | exact HB.out | apply below_alloc | apply pw_below_drewN | apply below_drew1 | refine below_set ?_ GE223.out | refine below_set ?_ GE238.out) | exact HB.out))))
                     have n2_ := Aside0.mk (blk_below (g := gb223) (o := .cells #[.int .i64 3, .int .i64 1, .int .i64 1, .int .i64 0, .int .i32 0, .slice none 0 0, .slice none 0 0, .slice none 0 0] 28 (0, 0)) (by (with_reducible repeat (first | refine blk_drewN ?_ _ | refine blk_drew ?_ | refine blk_alloc ?_ _)); exact BK223.out) hb)
                     have n3_ := Aside0.mk (blk_below (g := gb238) (o := .cells #[.int .i64 0, .int .i64 0] 33 (0, 0)) (by (with_reducible repeat (first | refine blk_drewN ?_ _ | refine blk_drew ?_ | refine blk_alloc ?_ _)); exact BK238.out) hb)
                     have n4_ := Aside0.mk (below_step (by repeat (first | (with_reducible first | exact HB.out | apply below_alloc | apply pw_below_drewN | apply below_drew1 | refine below_set ?_ GE223.out | refine below_set ?_ GE238.out) | exact HB.out)) hb)
                     clear HO226
                     clear BK223
                     clear BK238
                     clear HB
                     have HO226 := n0_
                     have HO229 := n1_
                     have BK223 := n2_
                     have BK238 := n3_
                     have HB := n4_
                     clear n0_ n1_ n2_ n3_ n4_
                     (try clear hb)
                     (try clear hb2)
                     (try clear hk)
                     (try clear hi)
                     (try clear ho0)
                     refine hK.out _ _ ⟨(blk_cell BK223.out 0).trans rfl, (blk_cell BK223.out 1).trans rfl, (blk_cell BK223.out 2).trans rfl, (blk_cell BK223.out 3).trans rfl, (blk_cell BK223.out 4).trans rfl, (blk_cell BK223.out 5).trans rfl, (blk_cell BK223.out 6).trans rfl, (blk_cell BK223.out 7).trans rfl⟩ (fun hHeld => ?_)
                     clear hK K
                     refine norm_ (a' := ?_) ?_ ?_
                     rotate_left
                     ·show Act.put _ (some 11) _ = _
                      simp only [Act.put, List.setIfInBounds_toArray, List.set_cons_zero, List.set_cons_succ, i64_w, i32_w]
                      rfl
                     exact norm_ (by first | (simp only [putAll, Act.put, List.setIfInBounds_toArray, List.set_cons_zero, List.set_cons_succ]; done) | (simp only [putAll, Act.put, List.setIfInBounds_toArray, List.set_cons_zero, List.set_cons_succ]; rfl)) (hJ1_2_8 (_, _, gb238) _ ⟨hHeld, (by (with_reducible repeat (first | apply Kd.R_alloc | apply Kd.R_drewN | apply Kd.R_drew)); exact Kd.R_mono HO226.out (fun _ hk => hk.2)), (by (with_reducible repeat (first | apply Kd.R_alloc | apply Kd.R_drewN | apply Kd.R_drew)); exact Kd.R_mono HO229.out (fun _ hk => hk.2)), (by (with_reducible repeat (first | refine blk_drewN ?_ _ | refine blk_drew ?_ | refine blk_alloc ?_ _)); exact BK223.out), (by (with_reducible repeat (first | refine blk_drewN ?_ _ | refine blk_drew ?_ | refine blk_alloc ?_ _)); exact BK238.out), GW238.out, GE238.out, NB223_238.out, NB238_223.out, (by repeat (first | (with_reducible first | exact HB.out | apply below_alloc | apply pw_below_drewN | apply below_drew1 | refine below_set ?_ GE223.out | refine below_set ?_ GE238.out) | exact HB.out))⟩)
                   ·skip
                    rintro ⟨v225, v228⟩ w28 ⟨hS_, h0_, h1_, h2_, h3_⟩
                    have n0_ : Aside0 (Kd.R k47 47 w28 w.heap.size (fun k_ => some k_ ≠ (v228 : Value).ownBlock) v225 t224) := ⟨h0_⟩
                    have n1_ : Aside0 (Kd.R k47 47 w28 w.heap.size (fun k_ => some k_ ≠ (v225 : Value).ownBlock) v228 t227) := ⟨h1_⟩
                    have n2_ : Aside0 (w28.heap[gb223]? = some (.cells #[.int .i64 3, .int .i64 1, .int .i64 1, .int .i64 0, .int .i32 0, .slice none 0 0, .slice none 0 0, .slice none 0 0] 28 (0, 0))) := ⟨h2_⟩
                    have n3_ : Aside0 (Below w.heap.size w w28) := ⟨h3_⟩
                    clear BK223
                    clear HB
                    clear h0_ h1_ h2_ h3_
                    have HO226 := n0_
                    have HO229 := n1_
                    have BK223 := n2_
                    have HB := n3_
                    clear n0_ n1_ n2_ n3_
                    have hHeld : w28.cell? ⟨gb223, 0, none⟩ = some (.int .i64 3) ∧ w28.cell? ⟨gb223, 1, none⟩ = some (.int .i64 1) ∧ w28.cell? ⟨gb223, 2, none⟩ = some (.int .i64 1) ∧ w28.cell? ⟨gb223, 3, none⟩ = some (.int .i64 0) ∧ w28.cell? ⟨gb223, 4, none⟩ = some (.int .i32 0) ∧ w28.cell? ⟨gb223, 5, none⟩ = some (.slice none 0 0) ∧ w28.cell? ⟨gb223, 6, none⟩ = some (.slice none 0 0) ∧ w28.cell? ⟨gb223, 7, none⟩ = some (.slice none 0 0) := hS_
                    obtain ⟨Ao29, co29, eo29⟩ := Kd.R_slice HO226.out
                    (first | subst eo29 | (injection eo29 with f1_ f2_ f3_; have f4_ := f1_.symm; have f5_ := f3_.symm; clear f1_ f2_ f3_; subst f4_; subst f5_))
                    obtain ⟨Ao30, co30, eo30⟩ := Kd.R_slice HO229.out
                    (first | subst eo30 | (injection eo30 with f1_ f2_ f3_; have f4_ := f1_.symm; have f5_ := f3_.symm; clear f1_ f2_ f3_; subst f4_; subst f5_))
                    refine norm_ (a' := ?_) ?_ ?_
                    rotate_left
                    ·simp only [putAll, Act.put, List.setIfInBounds_toArray, List.set_cons_zero, List.set_cons_succ]
                     rfl
                    refine two_ (i := 3) (j := 8) (Ni := some 12) (Nj := some 3) #[true, true, true, true, false, false, false, false, false, false, false] #[true, true, true, false, false, false, false, false, true, false, false] rfl rfl rfl rfl (two_of HT_.out (by kernel_rfl)) (by decide) (by decide) (fun K hK => ?_) (fun K hK => ?_)
                    ·skip
                     refine Kd.N_lit_step (Kd.slice 47 k47) _ 43 ?hg (N' := 12) ?hd (xs := ([t224, t227] : List (List (S47)))) (inner := [.slice Ao29 t224.length co29, .slice Ao30 t227.length co30]) (ok := (fun k_ => k_ ≠ gb223)) (okp := (fun k_ => k_ ≠ gb223)) ?hr ?hp (fun _ hk => hk) ((show ∀ k_, w28.heap.size ≤ k_ → (fun k_ => k_ ≠ gb223) k_ from fun k_ hk => Kd.freshB (g := gb223) (o := .cells #[.int .i64 3, .int .i64 1, .int .i64 1, .int .i64 0, .int .i32 0, .slice none 0 0, .slice none 0 0, .slice none 0 0] 28 (0, 0)) (by (with_reducible repeat (first | refine blk_drewN ?_ _ | refine blk_drew ?_ | refine blk_alloc ?_ _)); exact BK223.out) k_ hk) _ (Nat.le_refl _)) (Below.refl _ _) (Nat.le_refl _) (by simp) ?_; (case hd => rfl); (case hg => rfl); (case hr => first | (go_simp; done) | (go_simp; rfl)); (case hp => exact (Reps.one (show Kd.FK (Kd.slice 47 k47) _ _ t224 [.slice Ao29 t224.length co29] from (Kd.FK_slice_mk (Kd.R_reads' (Kd.R_mono (ok' := (fun k_ => k_ ≠ gb223)) (Kd.R_types (HO226.out) BK223.out (by decide)) (fun k_ hk => hk.2))).2.1 (Kd.R_F (Kd.R_mono (ok' := (fun k_ => k_ ≠ gb223)) (Kd.R_types (HO226.out) BK223.out (by decide)) (fun k_ hk => hk.2))))) (Reps.one (show Kd.FK (Kd.slice 47 k47) _ _ t227 [.slice Ao30 t227.length co30] from (Kd.FK_slice_mk (Kd.R_reads' (Kd.R_mono (ok' := (fun k_ => k_ ≠ gb223)) (Kd.R_types (HO229.out) BK223.out (by decide)) (fun k_ hk => hk.2))).2.1 (Kd.R_F (Kd.R_mono (ok' := (fun k_ => k_ ≠ gb223)) (Kd.R_types (HO229.out) BK223.out (by decide)) (fun k_ hk => hk.2))))) (Reps.none _ _))))
                     intro v231 w31 ho32 hb hg_ hnew_
                     clear hg_ hnew_
                     (first | rw [← Ny230.out] at ho32 | (simp only [Int.reduceToNat] at ho32; rw [← Ny230.out] at ho32))
                     have n0_ := Aside0.mk (Kd.N_lower ho32 (below_size (by repeat (first | (with_reducible first | exact HB.out | apply below_alloc | apply pw_below_drewN | apply below_drew1 | refine below_set ?_ GE223.out) | exact HB.out))))
                     have n1_ := Aside0.mk (blk_below (g := gb223) (o := .cells #[.int .i64 3, .int .i64 1, .int .i64 1, .int .i64 0, .int .i32 0, .slice none 0 0, .slice none 0 0, .slice none 0 0] 28 (0, 0)) (by (with_reducible repeat (first | refine blk_drewN ?_ _ | refine blk_drew ?_ | refine blk_alloc ?_ _)); exact BK223.out) hb)
                     have n2_ := Aside0.mk (below_step (by repeat (first | (with_reducible first | exact HB.out | apply below_alloc | apply pw_below_drewN | apply below_drew1 | refine below_set ?_ GE223.out) | exact HB.out)) hb)
                     clear BK223
                     clear HB
                     clear HO226
                     clear HO229
                     have HO232 := n0_
                     have BK223 := n1_
                     have HB := n2_
                     clear n0_ n1_ n2_
                     clear hb ho32
                     refine hK.out _ _ ⟨(blk_cell BK223.out 0).trans rfl, (blk_cell BK223.out 1).trans rfl, (blk_cell BK223.out 2).trans rfl, (blk_cell BK223.out 3).trans rfl, (blk_cell BK223.out 4).trans rfl, (blk_cell BK223.out 5).trans rfl, (blk_cell BK223.out 6).trans rfl, (blk_cell BK223.out 7).trans rfl⟩ (fun hHeld => ?_)
                     clear hK K
                     refine norm_ (a' := ?_) ?_ ?_
                     rotate_left
                     ·show Act.put _ (some 12) _ = _
                      simp only [Act.put, List.setIfInBounds_toArray, List.set_cons_zero, List.set_cons_succ, i64_w, i32_w]
                      rfl
                     exact norm_ (by first | (simp only [putAll, Act.put, List.setIfInBounds_toArray, List.set_cons_zero, List.set_cons_succ]; done) | (simp only [putAll, Act.put, List.setIfInBounds_toArray, List.set_cons_zero, List.set_cons_succ]; rfl)) (hJ1_2_3 (.slice Ao29 t224.length co29, .slice Ao30 t227.length co30, _) _ ⟨hHeld, (by (with_reducible repeat (first | apply Kd.N_alloc | apply Kd.N_drewN | apply Kd.N_drew)); exact HO232.out), (by (with_reducible repeat (first | refine blk_drewN ?_ _ | refine blk_drew ?_ | refine blk_alloc ?_ _)); exact BK223.out), (by repeat (first | (with_reducible first | exact HB.out | apply below_alloc | apply pw_below_drewN | apply below_drew1 | refine below_set ?_ GE223.out) | exact HB.out))⟩)
                    ·skip
                     refine box_step ?hg (N := 3) ?hd (cs := #[.int .i64 0, .int .i64 0]) (t := 33) ?hr ?_; (case hd => rfl); (case hg => rfl); (case hr => first | (go_simp; done) | (go_simp; rfl))
                     intro gb238 hg w29 hbox hb
                     have n0_ := Aside0.mk (Kd.R_below (by (with_reducible repeat (first | apply Kd.R_alloc | apply Kd.R_drewN | apply Kd.R_drew)); exact HO226.out) hb)
                     have n1_ := Aside0.mk (Kd.R_below (by (with_reducible repeat (first | apply Kd.R_alloc | apply Kd.R_drewN | apply Kd.R_drew)); exact HO229.out) hb)
                     have n2_ := Aside0.mk (blk_below (g := gb223) (o := .cells #[.int .i64 3, .int .i64 1, .int .i64 1, .int .i64 0, .int .i32 0, .slice none 0 0, .slice none 0 0, .slice none 0 0] 28 (0, 0)) (by (with_reducible repeat (first | refine blk_drewN ?_ _ | refine blk_drew ?_ | refine blk_alloc ?_ _)); exact BK223.out) hb)
                     have n3_ := Aside0.mk (below_step (by repeat (first | (with_reducible first | exact HB.out | apply below_alloc | apply pw_below_drewN | apply below_drew1 | refine below_set ?_ GE223.out) | exact HB.out)) hb)
                     have n4_ := Aside0.mk (hbox)
                     have n5_ := Aside0.mk ((by rw [hg]; exact (below_size (by repeat (first | (with_reducible first | exact HB.out | apply below_alloc | apply pw_below_drewN | apply below_drew1 | refine below_set ?_ GE223.out) | exact HB.out))) : w.heap.size ≤ gb238))
                     have n6_ := Aside0.mk ((by rw [hg]; exact (below_size (by repeat (first | (with_reducible first | exact HB.out | apply below_alloc | apply pw_below_drewN | apply below_drew1 | refine below_set ?_ GE223.out) | exact HB.out))) : w.heap.size ≤ gb238))
                     have n7_ := Aside0.mk ((by rw [hg]; exact Nat.ne_of_lt (blk_lt (g := gb223) (o := .cells #[.int .i64 3, .int .i64 1, .int .i64 1, .int .i64 0, .int .i32 0, .slice none 0 0, .slice none 0 0, .slice none 0 0] 28 (0, 0)) (by (with_reducible repeat (first | refine blk_drewN ?_ _ | refine blk_drew ?_ | refine blk_alloc ?_ _)); exact BK223.out)) : gb223 ≠ gb238))
                     have n8_ := Aside0.mk ((by rw [hg]; exact Nat.ne_of_gt (blk_lt (g := gb223) (o := .cells #[.int .i64 3, .int .i64 1, .int .i64 1, .int .i64 0, .int .i32 0, .slice none 0 0, .slice none 0 0, .slice none 0 0] 28 (0, 0)) (by (with_reducible repeat (first | refine blk_drewN ?_ _ | refine blk_drew ?_ | refine blk_alloc ?_ _)); exact BK223.out)) : gb238 ≠ gb223))
                     clear HO226
                     clear HO229
                     clear BK223
                     clear HB
                     have HO226 := n0_
                     have HO229 := n1_
                     have BK223 := n2_
                     have HB := n3_
                     have BK238 := n4_
                     have GW238 := n5_
                     have GE238 := n6_
                     have NB223_238 := n7_
                     have NB238_223 := n8_
                     clear n0_ n1_ n2_ n3_ n4_ n5_ n6_ n7_ n8_
                     clear hb hbox hg
                     refine hK.out _ _ ⟨(blk_cell BK223.out 0).trans rfl, (blk_cell BK223.out 1).trans rfl, (blk_cell BK223.out 2).trans rfl, (blk_cell BK223.out 3).trans rfl, (blk_cell BK223.out 4).trans rfl, (blk_cell BK223.out 5).trans rfl, (blk_cell BK223.out 6).trans rfl, (blk_cell BK223.out 7).trans rfl⟩ (fun hHeld => ?_)
                     clear hK K
                     refine norm_ (a' := ?_) ?_ ?_
                     rotate_left
                     ·show Act.put _ (some 3) _ = _
                      simp only [Act.put, List.setIfInBounds_toArray, List.set_cons_zero, List.set_cons_succ, i64_w, i32_w]
                      rfl
                     exact norm_ (by first | (simp only [putAll, Act.put, List.setIfInBounds_toArray, List.set_cons_zero, List.set_cons_succ]; done) | (simp only [putAll, Act.put, List.setIfInBounds_toArray, List.set_cons_zero, List.set_cons_succ]; rfl)) (hJ1_2_8 (_, _, gb238) _ ⟨hHeld, (by (with_reducible repeat (first | apply Kd.R_alloc | apply Kd.R_drewN | apply Kd.R_drew)); exact HO226.out), (by (with_reducible repeat (first | apply Kd.R_alloc | apply Kd.R_drewN | apply Kd.R_drew)); exact HO229.out), (by (with_reducible repeat (first | refine blk_drewN ?_ _ | refine blk_drew ?_ | refine blk_alloc ?_ _)); exact BK223.out), (by (with_reducible repeat (first | refine blk_drewN ?_ _ | refine blk_drew ?_ | refine blk_alloc ?_ _)); exact BK238.out), GW238.out, GE238.out, NB223_238.out, NB238_223.out, (by repeat (first | (with_reducible first | exact HB.out | apply below_alloc | apply pw_below_drewN | apply below_drew1 | refine below_set ?_ GE223.out | refine below_set ?_ GE238.out) | exact HB.out))⟩)
                  ·skip
                   rintro ⟨v225, v228, gb238⟩ w29 ⟨hS_, h0_, h1_, h2_, h3_, h4_, h5_, h6_, h7_, h8_⟩
                   have n0_ : Aside0 (Kd.R k47 47 w29 w.heap.size (fun k_ => some k_ ≠ (v228 : Value).ownBlock) v225 t224) := ⟨h0_⟩
                   have n1_ : Aside0 (Kd.R k47 47 w29 w.heap.size (fun k_ => some k_ ≠ (v225 : Value).ownBlock) v228 t227) := ⟨h1_⟩
                   have n2_ : Aside0 (w29.heap[gb223]? = some (.cells #[.int .i64 3, .int .i64 1, .int .i64 1, .int .i64 0, .int .i32 0, .slice none 0 0, .slice none 0 0, .slice none 0 0] 28 (0, 0))) := ⟨h2_⟩
                   have n3_ : Aside0 (w29.heap[gb238]? = some (.cells #[.int .i64 0, .int .i64 0] 33 (0, 0))) := ⟨h3_⟩
                   have n4_ : Aside0 (w.heap.size ≤ gb238) := ⟨h4_⟩
                   have n5_ : Aside0 (w.heap.size ≤ gb238) := ⟨h5_⟩
                   have n6_ : Aside0 (gb223 ≠ gb238) := ⟨h6_⟩
                   have n7_ : Aside0 (gb238 ≠ gb223) := ⟨h7_⟩
                   have n8_ : Aside0 (Below w.heap.size w w29) := ⟨h8_⟩
                   clear BK223
                   clear HB
                   clear h0_ h1_ h2_ h3_ h4_ h5_ h6_ h7_ h8_
                   have HO226 := n0_
                   have HO229 := n1_
                   have BK223 := n2_
                   have BK238 := n3_
                   have GW238 := n4_
                   have GE238 := n5_
                   have NB223_238 := n6_
                   have NB238_223 := n7_
                   have HB := n8_
                   clear n0_ n1_ n2_ n3_ n4_ n5_ n6_ n7_ n8_
                   have hHeld : w29.cell? ⟨gb223, 0, none⟩ = some (.int .i64 3) ∧ w29.cell? ⟨gb223, 1, none⟩ = some (.int .i64 1) ∧ w29.cell? ⟨gb223, 2, none⟩ = some (.int .i64 1) ∧ w29.cell? ⟨gb223, 3, none⟩ = some (.int .i64 0) ∧ w29.cell? ⟨gb223, 4, none⟩ = some (.int .i32 0) ∧ w29.cell? ⟨gb223, 5, none⟩ = some (.slice none 0 0) ∧ w29.cell? ⟨gb223, 6, none⟩ = some (.slice none 0 0) ∧ w29.cell? ⟨gb223, 7, none⟩ = some (.slice none 0 0) := hS_
                   obtain ⟨Ao30, co30, eo30⟩ := Kd.R_slice HO226.out
                   (first | subst eo30 | (injection eo30 with f1_ f2_ f3_; have f4_ := f1_.symm; have f5_ := f3_.symm; clear f1_ f2_ f3_; subst f4_; subst f5_))
                   obtain ⟨Ao31, co31, eo31⟩ := Kd.R_slice HO229.out
                   (first | subst eo31 | (injection eo31 with f1_ f2_ f3_; have f4_ := f1_.symm; have f5_ := f3_.symm; clear f1_ f2_ f3_; subst f4_; subst f5_))
                   refine norm_ (a' := ?_) ?_ ?_
                   rotate_left
                   ·simp only [putAll, Act.put, List.setIfInBounds_toArray, List.set_cons_zero, List.set_cons_succ]
                    rfl
                   refine one_ (i := 3) (N := some 12) #[true, true, true, true, false, false, false, false, true, false, false] rfl rfl (one_of HT_.out (by kernel_rfl)) (by decide) (fun K hK => ?_)
                   refine Kd.N_lit_step (Kd.slice 47 k47) _ 43 ?hg (N' := 12) ?hd (xs := ([t224, t227] : List (List (S47)))) (inner := [.slice Ao30 t224.length co30, .slice Ao31 t227.length co31]) (ok := (fun k_ => k_ ≠ gb223 ∧ k_ ≠ gb238)) (okp := (fun k_ => k_ ≠ gb223 ∧ k_ ≠ gb238)) ?hr ?hp (fun _ hk => hk) ((show ∀ k_, w29.heap.size ≤ k_ → (fun k_ => k_ ≠ gb223 ∧ k_ ≠ gb238) k_ from fun k_ hk => ⟨Kd.freshB (g := gb223) (o := .cells #[.int .i64 3, .int .i64 1, .int .i64 1, .int .i64 0, .int .i32 0, .slice none 0 0, .slice none 0 0, .slice none 0 0] 28 (0, 0)) (by (with_reducible repeat (first | refine blk_drewN ?_ _ | refine blk_drew ?_ | refine blk_alloc ?_ _)); exact BK223.out) k_ hk, Kd.freshB (g := gb238) (o := .cells #[.int .i64 0, .int .i64 0] 33 (0, 0)) (by (with_reducible repeat (first | refine blk_drewN ?_ _ | refine blk_drew ?_ | refine blk_alloc ?_ _)); exact BK238.out) k_ hk⟩) _ (Nat.le_refl _)) (Below.refl _ _) (Nat.le_refl _) (by simp) ?_; (case hd => rfl); (case hg => rfl); (case hr => first | (go_simp; done) | (go_simp; rfl)); (case hp => exact (Reps.one (show Kd.FK (Kd.slice 47 k47) _ _ t224 [.slice Ao30 t224.length co30] from (Kd.FK_slice_mk (Kd.R_reads' (Kd.R_mono (ok' := (fun k_ => k_ ≠ gb223 ∧ k_ ≠ gb238)) (Kd.R_types (Kd.R_types (HO226.out) BK223.out (by decide)) BK238.out (by decide)) (fun k_ hk => ⟨hk.1.2, hk.2⟩))).2.1 (Kd.R_F (Kd.R_mono (ok' := (fun k_ => k_ ≠ gb223 ∧ k_ ≠ gb238)) (Kd.R_types (Kd.R_types (HO226.out) BK223.out (by decide)) BK238.out (by decide)) (fun k_ hk => ⟨hk.1.2, hk.2⟩))))) (Reps.one (show Kd.FK (Kd.slice 47 k47) _ _ t227 [.slice Ao31 t227.length co31] from (Kd.FK_slice_mk (Kd.R_reads' (Kd.R_mono (ok' := (fun k_ => k_ ≠ gb223 ∧ k_ ≠ gb238)) (Kd.R_types (Kd.R_types (HO229.out) BK223.out (by decide)) BK238.out (by decide)) (fun k_ hk => ⟨hk.1.2, hk.2⟩))).2.1 (Kd.R_F (Kd.R_mono (ok' := (fun k_ => k_ ≠ gb223 ∧ k_ ≠ gb238)) (Kd.R_types (Kd.R_types (HO229.out) BK223.out (by decide)) BK238.out (by decide)) (fun k_ hk => ⟨hk.1.2, hk.2⟩))))) (Reps.none _ _))))
                   intro v231 w32 ho33 hb hg_ hnew_
                   clear hg_ hnew_
                   (first | rw [← Ny230.out] at ho33 | (simp only [Int.reduceToNat] at ho33; rw [← Ny230.out] at ho33))
                   have n0_ := Aside0.mk (Kd.N_lower ho33 (below_size (by repeat (first | (with_reducible first | exact HB.out | apply below_alloc | apply pw_below_drewN | apply below_drew1 | refine below_set ?_ GE223.out | refine below_set ?_ GE238.out) | exact HB.out))))
                   have n1_ := Aside0.mk (blk_below (g := gb223) (o := .cells #[.int .i64 3, .int .i64 1, .int .i64 1, .int .i64 0, .int .i32 0, .slice none 0 0, .slice none 0 0, .slice none 0 0] 28 (0, 0)) (by (with_reducible repeat (first | refine blk_drewN ?_ _ | refine blk_drew ?_ | refine blk_alloc ?_ _)); exact BK223.out) hb)
                   have n2_ := Aside0.mk (blk_below (g := gb238) (o := .cells #[.int .i64 0, .int .i64 0] 33 (0, 0)) (by (with_reducible repeat (first | refine blk_drewN ?_ _ | refine blk_drew ?_ | refine blk_alloc ?_ _)); exact BK238.out) hb)
                   have n3_ := Aside0.mk (below_step (by repeat (first | (with_reducible first | exact HB.out | apply below_alloc | apply pw_below_drewN | apply below_drew1 | refine below_set ?_ GE223.out | refine below_set ?_ GE238.out) | exact HB.out)) hb)
                   clear BK223
                   clear BK238
                   clear HB
                   clear HO226
                   clear HO229
                   have HO232 := n0_
                   have BK223 := n1_
                   have BK238 := n2_
                   have HB := n3_
                   clear n0_ n1_ n2_ n3_
                   clear hb ho33
                   refine hK.out _ _ ⟨(blk_cell BK223.out 0).trans rfl, (blk_cell BK223.out 1).trans rfl, (blk_cell BK223.out 2).trans rfl, (blk_cell BK223.out 3).trans rfl, (blk_cell BK223.out 4).trans rfl, (blk_cell BK223.out 5).trans rfl, (blk_cell BK223.out 6).trans rfl, (blk_cell BK223.out 7).trans rfl⟩ (fun hHeld => ?_)
                   clear hK K
                   refine norm_ (a' := ?_) ?_ ?_
                   rotate_left
                   ·show Act.put _ (some 12) _ = _
                    simp only [Act.put, List.setIfInBounds_toArray, List.set_cons_zero, List.set_cons_succ, i64_w, i32_w]
                    rfl
                   exact norm_ (by first | (simp only [putAll, Act.put, List.setIfInBounds_toArray, List.set_cons_zero, List.set_cons_succ]; done) | (simp only [putAll, Act.put, List.setIfInBounds_toArray, List.set_cons_zero, List.set_cons_succ]; rfl)) (hJ1_2_3_8 (.slice Ao30 t224.length co30, .slice Ao31 t227.length co31, _, gb238) _ ⟨hHeld, (by (with_reducible repeat (first | apply Kd.N_alloc | apply Kd.N_drewN | apply Kd.N_drew)); exact HO232.out), (by (with_reducible repeat (first | refine blk_drewN ?_ _ | refine blk_drew ?_ | refine blk_alloc ?_ _)); exact BK223.out), (by (with_reducible repeat (first | refine blk_drewN ?_ _ | refine blk_drew ?_ | refine blk_alloc ?_ _)); exact BK238.out), GW238.out, GE238.out, NB223_238.out, NB238_223.out, (by repeat (first | (with_reducible first | exact HB.out | apply below_alloc | apply pw_below_drewN | apply below_drew1 | refine below_set ?_ GE223.out | refine below_set ?_ GE238.out) | exact HB.out))⟩)
                 ·skip
                  rintro ⟨v225, v228, v231⟩ w32 ⟨hS_, h0_, h1_, h2_⟩
                  have n0_ : Aside0 (Kd.N (Kd.slice 47 k47) 43 w32 w.heap.size (fun k_ => k_ ≠ gb223) v231 y230) := ⟨h0_⟩
                  have n1_ : Aside0 (w32.heap[gb223]? = some (.cells #[.int .i64 3, .int .i64 1, .int .i64 1, .int .i64 0, .int .i32 0, .slice none 0 0, .slice none 0 0, .slice none 0 0] 28 (0, 0))) := ⟨h1_⟩
                  have n2_ : Aside0 (Below w.heap.size w w32) := ⟨h2_⟩
                  clear BK223
                  clear HB
                  clear h0_ h1_ h2_
                  have HO232 := n0_
                  have BK223 := n1_
                  have HB := n2_
                  clear n0_ n1_ n2_
                  have hHeld : w32.cell? ⟨gb223, 0, none⟩ = some (.int .i64 3) ∧ w32.cell? ⟨gb223, 1, none⟩ = some (.int .i64 1) ∧ w32.cell? ⟨gb223, 2, none⟩ = some (.int .i64 1) ∧ w32.cell? ⟨gb223, 3, none⟩ = some (.int .i64 0) ∧ w32.cell? ⟨gb223, 4, none⟩ = some (.int .i32 0) ∧ w32.cell? ⟨gb223, 5, none⟩ = some (.slice none 0 0) ∧ w32.cell? ⟨gb223, 6, none⟩ = some (.slice none 0 0) ∧ w32.cell? ⟨gb223, 7, none⟩ = some (.slice none 0 0) := hS_
                  obtain ⟨Ao33, co33, eo33⟩ := Kd.N_slice HO232.out
                  (first | subst eo33 | (injection eo33 with f1_ f2_ f3_; have f4_ := f1_.symm; have f5_ := f3_.symm; clear f1_ f2_ f3_; subst f4_; subst f5_))
                  refine norm_ (a' := ?_) ?_ ?_
                  rotate_left
                  ·simp only [putAll, Act.put, List.setIfInBounds_toArray, List.set_cons_zero, List.set_cons_succ]
                   rfl
                  refine two_ (i := 4) (j := 8) (Ni := some 13) (Nj := some 3) #[true, true, true, true, true, false, false, false, false, false, false] #[true, true, true, true, false, false, false, false, true, false, false] rfl rfl rfl rfl (two_of HT_.out (by kernel_rfl)) (by decide) (by decide) (fun K hK => ?_) (fun K hK => ?_)
                  ·skip
                   refine goes_ Try.func9 (by kernel_rfl) rfl #[.agg #[.int .i64 3, .int .i64 1, .int .i64 1, .int .i64 0, .int .i32 0, .slice none 0 0, .slice none 0 0, .slice none 0 0], .int .i64 2, .slice Ao33 y230.length co33] (by rfl) rfl rfl (by (try simp only [List.map_toArray, List.map_cons, List.map_nil]); first | done | rfl | (simp only [List.length_drop, List.length_take]; rfl) | (simp only [*]; first | done | rfl)) ?_
                   refine (item_Prose.calls k 3 1 1 0 0 _ _ ([] : List (S85)) _ _ ([] : List (S87)) _ _ ([] : List (S89)) 2 (fun k_ => k_ ≠ gb223) _ _ y230 t233 t236 t237 _ ?side1 ?side2 ?side3 ?side4 ?side5 ?side6 ?side7 A3.out).mono ?_
                   (case side1 => exact Kd.C_nil _ _)
                   (case side2 => exact Nat.le_refl _)
                   (case side3 => exact Kd.C_nil _ _)
                   (case side4 => exact Nat.le_refl _)
                   (case side5 => exact Kd.C_nil _ _)
                   (case side6 => exact Nat.le_refl _)
                   (case side7 => exact Kd.N_V (HO232.out))
                   rintro e w34 ⟨v234, rfl, ho0, hb⟩
                   refine ⟨_, rfl, ?_⟩
                   have n0_ := Aside0.mk (Kd.N_elder' (by (with_reducible repeat (first | apply Kd.N_alloc | apply Kd.N_drewN | apply Kd.N_drew)); exact HO232.out) (Kd.R_base ho0) hb)
                   have n1_ := Aside0.mk (Kd.R_lower (Kd.R_mono (ok' := fun k_ => True) ho0 (fun _ hk_ => trivial)) (below_size (by repeat (first | (with_reducible first | exact HB.out | apply below_alloc | apply pw_below_drewN | apply below_drew1 | refine below_set ?_ GE223.out) | exact HB.out))))
                   have n2_ := Aside0.mk (blk_below (g := gb223) (o := .cells #[.int .i64 3, .int .i64 1, .int .i64 1, .int .i64 0, .int .i32 0, .slice none 0 0, .slice none 0 0, .slice none 0 0] 28 (0, 0)) (by (with_reducible repeat (first | refine blk_drewN ?_ _ | refine blk_drew ?_ | refine blk_alloc ?_ _)); exact BK223.out) hb)
                   have n3_ := Aside0.mk (below_step (by repeat (first | (with_reducible first | exact HB.out | apply below_alloc | apply pw_below_drewN | apply below_drew1 | refine below_set ?_ GE223.out) | exact HB.out)) hb)
                   clear HO232
                   clear BK223
                   clear HB
                   have HO232 := n0_
                   have HO235 := n1_
                   have BK223 := n2_
                   have HB := n3_
                   clear n0_ n1_ n2_ n3_
                   (try clear hb)
                   (try clear hb2)
                   (try clear hk)
                   (try clear hi)
                   (try clear ho0)
                   refine hK.out _ _ ⟨(blk_cell BK223.out 0).trans rfl, (blk_cell BK223.out 1).trans rfl, (blk_cell BK223.out 2).trans rfl, (blk_cell BK223.out 3).trans rfl, (blk_cell BK223.out 4).trans rfl, (blk_cell BK223.out 5).trans rfl, (blk_cell BK223.out 6).trans rfl, (blk_cell BK223.out 7).trans rfl⟩ (fun hHeld => ?_)
                   clear hK K
                   refine norm_ (a' := ?_) ?_ ?_
                   rotate_left
                   ·show Act.put _ (some 13) _ = _
                    simp only [Act.put, List.setIfInBounds_toArray, List.set_cons_zero, List.set_cons_succ, i64_w, i32_w]
                    rfl
                   refine pure_ (i := 5) (N := some 8) (v := ?_) (a' := ?_) #[true, true, true, true, true, true, false, false, false, false, false] rfl rfl (any_of HT_.out (by kernel_rfl)) (fun _ _ _ h => h) (Or.inl ⟨by rfl, ?_⟩) ?_ ?_
                   rotate_left
                   ·intro w'
                    go_simp
                    with_reducible rfl
                   rotate_left
                   ·simp only [Act.put, List.setIfInBounds_toArray, List.set_cons_zero, List.set_cons_succ, i64_w, i32_w]
                    rfl
                   refine pure_ (i := 6) (N := some 14) (v := ?_) (a' := ?_) #[true, true, true, true, true, true, true, false, false, false, false] rfl rfl (any_of HT_.out (by kernel_rfl)) (fun _ _ _ h => h) (Or.inl ⟨by rfl, ?_⟩) ?_ ?_
                   rotate_left
                   ·intro w'
                    go_simp
                    with_reducible rfl
                   rotate_left
                   ·simp only [Act.put, List.setIfInBounds_toArray, List.set_cons_zero, List.set_cons_succ, i64_w, i32_w]
                    rfl
                   refine pure_ (i := 7) (N := some 15) (v := ?_) (a' := ?_) #[true, true, true, true, true, true, true, true, false, false, false] rfl rfl (any_of HT_.out (by kernel_rfl)) (fun _ _ _ h => h) (Or.inl ⟨by rfl, ?_⟩) ?_ ?_
                   rotate_left
                   ·intro w'
                    go_simp
                    with_reducible rfl
                   rotate_left
                   ·simp only [Act.put, List.setIfInBounds_toArray, List.set_cons_zero, List.set_cons_succ, i64_w, i32_w]
                    rfl
                   exact norm_ (by first | (simp only [putAll, Act.put, List.setIfInBounds_toArray, List.set_cons_zero, List.set_cons_succ]; done) | (simp only [putAll, Act.put, List.setIfInBounds_toArray, List.set_cons_zero, List.set_cons_succ]; rfl)) (hJ1_2_3_4 (_, _, .slice Ao33 y230.length co33, _) _ ⟨hHeld, (by (with_reducible repeat (first | apply Kd.N_alloc | apply Kd.N_drewN | apply Kd.N_drew)); exact Kd.N_mono HO232.out (fun _ hk => ⟨hk.2, hk.1⟩)), (by (with_reducible repeat (first | apply Kd.R_alloc | apply Kd.R_drewN | apply Kd.R_drew)); exact HO235.out), (by (with_reducible repeat (first | refine blk_drewN ?_ _ | refine blk_drew ?_ | refine blk_alloc ?_ _)); exact BK223.out), (by repeat (first | (with_reducible first | exact HB.out | apply below_alloc | apply pw_below_drewN | apply below_drew1 | refine below_set ?_ GE223.out) | exact HB.out))⟩)
                  ·skip
                   refine box_step ?hg (N := 3) ?hd (cs := #[.int .i64 0, .int .i64 0]) (t := 33) ?hr ?_; (case hd => rfl); (case hg => rfl); (case hr => first | (go_simp; done) | (go_simp; rfl))
                   intro gb238 hg w33 hbox hb
                   have n0_ := Aside0.mk (Kd.N_below (Kd.N_elderB (by (with_reducible repeat (first | apply Kd.N_alloc | apply Kd.N_drewN | apply Kd.N_drew)); exact HO232.out) gb238 (Nat.le_of_eq hg.symm)) hb)
                   have n1_ := Aside0.mk (blk_below (g := gb223) (o := .cells #[.int .i64 3, .int .i64 1, .int .i64 1, .int .i64 0, .int .i32 0, .slice none 0 0, .slice none 0 0, .slice none 0 0] 28 (0, 0)) (by (with_reducible repeat (first | refine blk_drewN ?_ _ | refine blk_drew ?_ | refine blk_alloc ?_ _)); exact BK223.out) hb)
                   have n2_ := Aside0.mk (below_step (by repeat (first | (with_reducible first | exact HB.out | apply below_alloc | apply pw_below_drewN | apply below_drew1 | refine below_set ?_ GE223.out) | exact HB.out)) hb)
                   have n3_ := Aside0.mk (hbox)
                   have n4_ := Aside0.mk ((by rw [hg]; exact (below_size (by repeat (first | (with_reducible first | exact HB.out | apply below_alloc | apply pw_below_drewN | apply below_drew1 | refine below_set ?_ GE223.out) | exact HB.out))) : w.heap.size ≤ gb238))
                   have n5_ := Aside0.mk ((by rw [hg]; exact (below_size (by repeat (first | (with_reducible first | exact HB.out | apply below_alloc | apply pw_below_drewN | apply below_drew1 | refine below_set ?_ GE223.out) | exact HB.out))) : w.heap.size ≤ gb238))
                   have n6_ := Aside0.mk ((by rw [hg]; exact Nat.ne_of_lt (blk_lt (g := gb223) (o := .cells #[.int .i64 3, .int .i64 1, .int .i64 1, .int .i64 0, .int .i32 0, .slice none 0 0, .slice none 0 0, .slice none 0 0] 28 (0, 0)) (by (with_reducible repeat (first | refine blk_drewN ?_ _ | refine blk_drew ?_ | refine blk_alloc ?_ _)); exact BK223.out)) : gb223 ≠ gb238))
                   have n7_ := Aside0.mk ((by rw [hg]; exact Nat.ne_of_gt (blk_lt (g := gb223) (o := .cells #[.int .i64 3, .int .i64 1, .int .i64 1, .int .i64 0, .int .i32 0, .slice none 0 0, .slice none 0 0, .slice none 0 0] 28 (0, 0)) (by (with_reducible repeat (first | refine blk_drewN ?_ _ | refine blk_drew ?_ | refine blk_alloc ?_ _)); exact BK223.out)) : gb238 ≠ gb223))
                   clear HO232
                   clear BK223
                   clear HB
                   have HO232 := n0_
                   have BK223 := n1_
                   have HB := n2_
                   have BK238 := n3_
                   have GW238 := n4_
                   have GE238 := n5_
                   have NB223_238 := n6_
                   have NB238_223 := n7_
                   clear n0_ n1_ n2_ n3_ n4_ n5_ n6_ n7_
                   clear hb hbox hg
                   refine hK.out _ _ ⟨(blk_cell BK223.out 0).trans rfl, (blk_cell BK223.out 1).trans rfl, (blk_cell BK223.out 2).trans rfl, (blk_cell BK223.out 3).trans rfl, (blk_cell BK223.out 4).trans rfl, (blk_cell BK223.out 5).trans rfl, (blk_cell BK223.out 6).trans rfl, (blk_cell BK223.out 7).trans rfl⟩ (fun hHeld => ?_)
                   clear hK K
                   refine norm_ (a' := ?_) ?_ ?_
                   rotate_left
                   ·show Act.put _ (some 3) _ = _
                    simp only [Act.put, List.setIfInBounds_toArray, List.set_cons_zero, List.set_cons_succ, i64_w, i32_w]
                    rfl
                   exact norm_ (by first | (simp only [putAll, Act.put, List.setIfInBounds_toArray, List.set_cons_zero, List.set_cons_succ]; done) | (simp only [putAll, Act.put, List.setIfInBounds_toArray, List.set_cons_zero, List.set_cons_succ]; rfl)) (hJ1_2_3_8 (_, _, _, gb238) _ ⟨hHeld, (by (with_reducible repeat (first | apply Kd.N_alloc | apply Kd.N_drewN | apply Kd.N_drew)); exact HO232.out), (by (with_reducible repeat (first | refine blk_drewN ?_ _ | refine blk_drew ?_ | refine blk_alloc ?_ _)); exact BK223.out), (by (with_reducible repeat (first | refine blk_drewN ?_ _ | refine blk_drew ?_ | refine blk_alloc ?_ _)); exact BK238.out), GW238.out, GE238.out, NB223_238.out, NB238_223.out, (by repeat (first | (with_reducible first | exact HB.out | apply below_alloc | apply pw_below_drewN | apply below_drew1 | refine below_set ?_ GE223.out | refine below_set ?_ GE238.out) | exact HB.out))⟩)
                ·skip
                 rintro ⟨v225, v228, v231, gb238⟩ w33 ⟨hS_, h0_, h1_, h2_, h3_, h4_, h5_, h6_, h7_⟩
                 have n0_ : Aside0 (Kd.N (Kd.slice 47 k47) 43 w33 w.heap.size (fun k_ => k_ ≠ gb223 ∧ k_ ≠ gb238) v231 y230) := ⟨h0_⟩
                 have n1_ : Aside0 (w33.heap[gb223]? = some (.cells #[.int .i64 3, .int .i64 1, .int .i64 1, .int .i64 0, .int .i32 0, .slice none 0 0, .slice none 0 0, .slice none 0 0] 28 (0, 0))) := ⟨h1_⟩
                 have n2_ : Aside0 (w33.heap[gb238]? = some (.cells #[.int .i64 0, .int .i64 0] 33 (0, 0))) := ⟨h2_⟩
                 have n3_ : Aside0 (w.heap.size ≤ gb238) := ⟨h3_⟩
                 have n4_ : Aside0 (w.heap.size ≤ gb238) := ⟨h4_⟩
                 have n5_ : Aside0 (gb223 ≠ gb238) := ⟨h5_⟩
                 have n6_ : Aside0 (gb238 ≠ gb223) := ⟨h6_⟩
                 have n7_ : Aside0 (Below w.heap.size w w33) := ⟨h7_⟩
                 clear BK223
                 clear HB
                 clear h0_ h1_ h2_ h3_ h4_ h5_ h6_ h7_
                 have HO232 := n0_
                 have BK223 := n1_
                 have BK238 := n2_
                 have GW238 := n3_
                 have GE238 := n4_
                 have NB223_238 := n5_
                 have NB238_223 := n6_
                 have HB := n7_
                 clear n0_ n1_ n2_ n3_ n4_ n5_ n6_ n7_
                 have hHeld : w33.cell? ⟨gb223, 0, none⟩ = some (.int .i64 3) ∧ w33.cell? ⟨gb223, 1, none⟩ = some (.int .i64 1) ∧ w33.cell? ⟨gb223, 2, none⟩ = some (.int .i64 1) ∧ w33.cell? ⟨gb223, 3, none⟩ = some (.int .i64 0) ∧ w33.cell? ⟨gb223, 4, none⟩ = some (.int .i32 0) ∧ w33.cell? ⟨gb223, 5, none⟩ = some (.slice none 0 0) ∧ w33.cell? ⟨gb223, 6, none⟩ = some (.slice none 0 0) ∧ w33.cell? ⟨gb223, 7, none⟩ = some (.slice none 0 0) := hS_
                 obtain ⟨Ao34, co34, eo34⟩ := Kd.N_slice HO232.out
                 (first | subst eo34 | (injection eo34 with f1_ f2_ f3_; have f4_ := f1_.symm; have f5_ := f3_.symm; clear f1_ f2_ f3_; subst f4_; subst f5_))
                 refine norm_ (a' := ?_) ?_ ?_
                 rotate_left
                 ·simp only [putAll, Act.put, List.setIfInBounds_toArray, List.set_cons_zero, List.set_cons_succ]
                  rfl
                 refine one_ (i := 4) (N := some 13) #[true, true, true, true, true, false, false, false, true, false, false] rfl rfl (one_of HT_.out (by kernel_rfl)) (by decide) (fun K hK => ?_)
                 refine goes_ Try.func9 (by kernel_rfl) rfl #[.agg #[.int .i64 3, .int .i64 1, .int .i64 1, .int .i64 0, .int .i32 0, .slice none 0 0, .slice none 0 0, .slice none 0 0], .int .i64 2, .slice Ao34 y230.length co34] (by rfl) rfl rfl (by (try simp only [List.map_toArray, List.map_cons, List.map_nil]); first | done | rfl | (simp only [List.length_drop, List.length_take]; rfl) | (simp only [*]; first | done | rfl)) ?_
                 refine (item_Prose.calls k 3 1 1 0 0 _ _ ([] : List (S85)) _ _ ([] : List (S87)) _ _ ([] : List (S89)) 2 (fun k_ => (k_ ≠ gb223 ∧ k_ ≠ gb238)) _ _ y230 t233 t236 t237 _ ?side1 ?side2 ?side3 ?side4 ?side5 ?side6 ?side7 A3.out).mono ?_
                 (case side1 => exact Kd.C_nil _ _)
                 (case side2 => exact Nat.le_refl _)
                 (case side3 => exact Kd.C_nil _ _)
                 (case side4 => exact Nat.le_refl _)
                 (case side5 => exact Kd.C_nil _ _)
                 (case side6 => exact Nat.le_refl _)
                 (case side7 => exact Kd.N_V (HO232.out))
                 rintro e w35 ⟨v234, rfl, ho0, hb⟩
                 refine ⟨_, rfl, ?_⟩
                 have n0_ := Aside0.mk (Kd.N_elder' (by (with_reducible repeat (first | apply Kd.N_alloc | apply Kd.N_drewN | apply Kd.N_drew)); exact HO232.out) (Kd.R_base ho0) hb)
                 have n1_ := Aside0.mk (Kd.R_lower (Kd.R_mono (ok' := fun k_ => True) ho0 (fun _ hk_ => trivial)) (below_size (by repeat (first | (with_reducible first | exact HB.out | apply below_alloc | apply pw_below_drewN | apply below_drew1 | refine below_set ?_ GE223.out | refine below_set ?_ GE238.out) | exact HB.out))))
                 have n2_ := Aside0.mk (blk_below (g := gb223) (o := .cells #[.int .i64 3, .int .i64 1, .int .i64 1, .int .i64 0, .int .i32 0, .slice none 0 0, .slice none 0 0, .slice none 0 0] 28 (0, 0)) (by (with_reducible repeat (first | refine blk_drewN ?_ _ | refine blk_drew ?_ | refine blk_alloc ?_ _)); exact BK223.out) hb)
                 have n3_ := Aside0.mk (blk_below (g := gb238) (o := .cells #[.int .i64 0, .int .i64 0] 33 (0, 0)) (by (with_reducible repeat (first | refine blk_drewN ?_ _ | refine blk_drew ?_ | refine blk_alloc ?_ _)); exact BK238.out) hb)
                 have n4_ := Aside0.mk (below_step (by repeat (first | (with_reducible first | exact HB.out | apply below_alloc | apply pw_below_drewN | apply below_drew1 | refine below_set ?_ GE223.out | refine below_set ?_ GE238.out) | exact HB.out)) hb)
                 clear HO232
                 clear BK223
                 clear BK238
                 clear HB
                 have HO232 := n0_
                 have HO235 := n1_
                 have BK223 := n2_
                 have BK238 := n3_
                 have HB := n4_
                 clear n0_ n1_ n2_ n3_ n4_
                 (try clear hb)
                 (try clear hb2)
                 (try clear hk)
                 (try clear hi)
                 (try clear ho0)
                 refine hK.out _ _ ⟨(blk_cell BK223.out 0).trans rfl, (blk_cell BK223.out 1).trans rfl, (blk_cell BK223.out 2).trans rfl, (blk_cell BK223.out 3).trans rfl, (blk_cell BK223.out 4).trans rfl, (blk_cell BK223.out 5).trans rfl, (blk_cell BK223.out 6).trans rfl, (blk_cell BK223.out 7).trans rfl⟩ (fun hHeld => ?_)
                 clear hK K
                 refine norm_ (a' := ?_) ?_ ?_
                 rotate_left
                 ·show Act.put _ (some 13) _ = _
                  simp only [Act.put, List.setIfInBounds_toArray, List.set_cons_zero, List.set_cons_succ, i64_w, i32_w]
                  rfl
                 refine pure_ (i := 5) (N := some 8) (v := ?_) (a' := ?_) #[true, true, true, true, true, true, false, false, true, false, false] rfl rfl (any_of HT_.out (by kernel_rfl)) (fun _ _ _ h => h) (Or.inl ⟨by rfl, ?_⟩) ?_ ?_
                 rotate_left
                 ·intro w'
                  go_simp
                  with_reducible rfl
                 rotate_left
                 ·simp only [Act.put, List.setIfInBounds_toArray, List.set_cons_zero, List.set_cons_succ, i64_w, i32_w]
                  rfl
                 refine pure_ (i := 6) (N := some 14) (v := ?_) (a' := ?_) #[true, true, true, true, true, true, true, false, true, false, false] rfl rfl (any_of HT_.out (by kernel_rfl)) (fun _ _ _ h => h) (Or.inl ⟨by rfl, ?_⟩) ?_ ?_
                 rotate_left
                 ·intro w'
                  go_simp
                  with_reducible rfl
                 rotate_left
                 ·simp only [Act.put, List.setIfInBounds_toArray, List.set_cons_zero, List.set_cons_succ, i64_w, i32_w]
                  rfl
                 refine pure_ (i := 7) (N := some 15) (v := ?_) (a' := ?_) #[true, true, true, true, true, true, true, true, true, false, false] rfl rfl (any_of HT_.out (by kernel_rfl)) (fun _ _ _ h => h) (Or.inl ⟨by rfl, ?_⟩) ?_ ?_
                 rotate_left
                 ·intro w'
                  go_simp
                  with_reducible rfl
                 rotate_left
                 ·simp only [Act.put, List.setIfInBounds_toArray, List.set_cons_zero, List.set_cons_succ, i64_w, i32_w]
                  rfl
                 exact norm_ (by first | (simp only [putAll, Act.put, List.setIfInBounds_toArray, List.set_cons_zero, List.set_cons_succ]; done) | (simp only [putAll, Act.put, List.setIfInBounds_toArray, List.set_cons_zero, List.set_cons_succ]; rfl)) (hJ1_2_3_4_8 (_, _, .slice Ao34 y230.length co34, _, gb238) _ ⟨hHeld, (by (with_reducible repeat (first | apply Kd.N_alloc | apply Kd.N_drewN | apply Kd.N_drew)); exact Kd.N_mono HO232.out (fun _ hk => ⟨hk.2, ⟨hk.1.1, hk.1.2⟩⟩)), (by (with_reducible repeat (first | apply Kd.R_alloc | apply Kd.R_drewN | apply Kd.R_drew)); exact HO235.out), (by (with_reducible repeat (first | refine blk_drewN ?_ _ | refine blk_drew ?_ | refine blk_alloc ?_ _)); exact BK223.out), (by (with_reducible repeat (first | refine blk_drewN ?_ _ | refine blk_drew ?_ | refine blk_alloc ?_ _)); exact BK238.out), GW238.out, GE238.out, NB223_238.out, NB238_223.out, (by repeat (first | (with_reducible first | exact HB.out | apply below_alloc | apply pw_below_drewN | apply below_drew1 | refine below_set ?_ GE223.out | refine below_set ?_ GE238.out) | exact HB.out))⟩)
               ·skip
                rintro ⟨v225, v228, v231, v234⟩ w34 ⟨hS_, h0_, h1_, h2_, h3_⟩
                have n0_ : Aside0 (Kd.N (Kd.slice 47 k47) 43 w34 w.heap.size (fun k_ => some k_ ≠ (v234 : Value).ownBlock ∧ k_ ≠ gb223) v231 y230) := ⟨h0_⟩
                have n1_ : Aside0 (Kd.R k45 45 w34 w.heap.size (fun _ => True) v234 t233) := ⟨h1_⟩
                have n2_ : Aside0 (w34.heap[gb223]? = some (.cells #[.int .i64 3, .int .i64 1, .int .i64 1, .int .i64 0, .int .i32 0, .slice none 0 0, .slice none 0 0, .slice none 0 0] 28 (0, 0))) := ⟨h2_⟩
                have n3_ : Aside0 (Below w.heap.size w w34) := ⟨h3_⟩
                clear BK223
                clear HB
                clear h0_ h1_ h2_ h3_
                have HO232 := n0_
                have HO235 := n1_
                have BK223 := n2_
                have HB := n3_
                clear n0_ n1_ n2_ n3_
                have hHeld : w34.cell? ⟨gb223, 0, none⟩ = some (.int .i64 3) ∧ w34.cell? ⟨gb223, 1, none⟩ = some (.int .i64 1) ∧ w34.cell? ⟨gb223, 2, none⟩ = some (.int .i64 1) ∧ w34.cell? ⟨gb223, 3, none⟩ = some (.int .i64 0) ∧ w34.cell? ⟨gb223, 4, none⟩ = some (.int .i32 0) ∧ w34.cell? ⟨gb223, 5, none⟩ = some (.slice none 0 0) ∧ w34.cell? ⟨gb223, 6, none⟩ = some (.slice none 0 0) ∧ w34.cell? ⟨gb223, 7, none⟩ = some (.slice none 0 0) := hS_
                refine norm_ (a' := ?_) ?_ ?_
                rotate_left
                ·simp only [putAll, Act.put, List.setIfInBounds_toArray, List.set_cons_zero, List.set_cons_succ]
                 rfl
                refine one_ (i := 8) (N := some 3) #[true, true, true, true, true, true, true, true, true, false, false] rfl rfl (one_of HT_.out (by kernel_rfl)) (by decide) (fun K hK => ?_)
                refine box_step ?hg (N := 3) ?hd (cs := #[.int .i64 0, .int .i64 0]) (t := 33) ?hr ?_; (case hd => rfl); (case hg => rfl); (case hr => first | (go_simp; done) | (go_simp; rfl))
                intro gb238 hg w35 hbox hb
                have n0_ := Aside0.mk (Kd.N_below (Kd.N_elderB (by (with_reducible repeat (first | apply Kd.N_alloc | apply Kd.N_drewN | apply Kd.N_drew)); exact HO232.out) gb238 (Nat.le_of_eq hg.symm)) hb)
                have n1_ := Aside0.mk (Kd.R_below (by (with_reducible repeat (first | apply Kd.R_alloc | apply Kd.R_drewN | apply Kd.R_drew)); exact HO235.out) hb)
                have n2_ := Aside0.mk (blk_below (g := gb223) (o := .cells #[.int .i64 3, .int .i64 1, .int .i64 1, .int .i64 0, .int .i32 0, .slice none 0 0, .slice none 0 0, .slice none 0 0] 28 (0, 0)) (by (with_reducible repeat (first | refine blk_drewN ?_ _ | refine blk_drew ?_ | refine blk_alloc ?_ _)); exact BK223.out) hb)
                have n3_ := Aside0.mk (below_step (by repeat (first | (with_reducible first | exact HB.out | apply below_alloc | apply pw_below_drewN | apply below_drew1 | refine below_set ?_ GE223.out) | exact HB.out)) hb)
                have n4_ := Aside0.mk (hbox)
                have n5_ := Aside0.mk ((by rw [hg]; exact (below_size (by repeat (first | (with_reducible first | exact HB.out | apply below_alloc | apply pw_below_drewN | apply below_drew1 | refine below_set ?_ GE223.out) | exact HB.out))) : w.heap.size ≤ gb238))
                have n6_ := Aside0.mk ((by rw [hg]; exact (below_size (by repeat (first | (with_reducible first | exact HB.out | apply below_alloc | apply pw_below_drewN | apply below_drew1 | refine below_set ?_ GE223.out) | exact HB.out))) : w.heap.size ≤ gb238))
                have n7_ := Aside0.mk ((by rw [hg]; exact Nat.ne_of_lt (blk_lt (g := gb223) (o := .cells #[.int .i64 3, .int .i64 1, .int .i64 1, .int .i64 0, .int .i32 0, .slice none 0 0, .slice none 0 0, .slice none 0 0] 28 (0, 0)) (by (with_reducible repeat (first | refine blk_drewN ?_ _ | refine blk_drew ?_ | refine blk_alloc ?_ _)); exact BK223.out)) : gb223 ≠ gb238))
                have n8_ := Aside0.mk ((by rw [hg]; exact Nat.ne_of_gt (blk_lt (g := gb223) (o := .cells #[.int .i64 3, .int .i64 1, .int .i64 1, .int .i64 0, .int .i32 0, .slice none 0 0, .slice none 0 0, .slice none 0 0] 28 (0, 0)) (by (with_reducible repeat (first | refine blk_drewN ?_ _ | refine blk_drew ?_ | refine blk_alloc ?_ _)); exact BK223.out)) : gb238 ≠ gb223))
                clear HO232
                clear HO235
                clear BK223
                clear HB
                have HO232 := n0_
                have HO235 := n1_
                have BK223 := n2_
                have HB := n3_
                have BK238 := n4_
                have GW238 := n5_
                have GE238 := n6_
                have NB223_238 := n7_
                have NB238_223 := n8_
                clear n0_ n1_ n2_ n3_ n4_ n5_ n6_ n7_ n8_
                clear hb hbox hg
                refine hK.out _ _ ⟨(blk_cell BK223.out 0).trans rfl, (blk_cell BK223.out 1).trans rfl, (blk_cell BK223.out 2).trans rfl, (blk_cell BK223.out 3).trans rfl, (blk_cell BK223.out 4).trans rfl, (blk_cell BK223.out 5).trans rfl, (blk_cell BK223.out 6).trans rfl, (blk_cell BK223.out 7).trans rfl⟩ (fun hHeld => ?_)
                clear hK K
                refine norm_ (a' := ?_) ?_ ?_
                rotate_left
                ·show Act.put _ (some 3) _ = _
                 simp only [Act.put, List.setIfInBounds_toArray, List.set_cons_zero, List.set_cons_succ, i64_w, i32_w]
                 rfl
                exact norm_ (by first | (simp only [putAll, Act.put, List.setIfInBounds_toArray, List.set_cons_zero, List.set_cons_succ]; done) | (simp only [putAll, Act.put, List.setIfInBounds_toArray, List.set_cons_zero, List.set_cons_succ]; rfl)) (hJ1_2_3_4_8 (_, _, _, _, gb238) _ ⟨hHeld, (by (with_reducible repeat (first | apply Kd.N_alloc | apply Kd.N_drewN | apply Kd.N_drew)); exact Kd.N_mono HO232.out (fun _ hk => ⟨hk.1.1, ⟨hk.1.2, hk.2⟩⟩)), (by (with_reducible repeat (first | apply Kd.R_alloc | apply Kd.R_drewN | apply Kd.R_drew)); exact HO235.out), (by (with_reducible repeat (first | refine blk_drewN ?_ _ | refine blk_drew ?_ | refine blk_alloc ?_ _)); exact BK223.out), (by (with_reducible repeat (first | refine blk_drewN ?_ _ | refine blk_drew ?_ | refine blk_alloc ?_ _)); exact BK238.out), GW238.out, GE238.out, NB223_238.out, NB238_223.out, (by repeat (first | (with_reducible first | exact HB.out | apply below_alloc | apply pw_below_drewN | apply below_drew1 | refine below_set ?_ GE223.out | refine below_set ?_ GE238.out) | exact HB.out))⟩)
              rintro ⟨v225, v228, v231, v234, gb238⟩ w35 ⟨hS_, h0_, h1_, h2_, h3_, h4_, h5_, h6_, h7_, h8_⟩
              have n0_ : Aside0 (Kd.N (Kd.slice 47 k47) 43 w35 w.heap.size (fun k_ => some k_ ≠ (v234 : Value).ownBlock ∧ k_ ≠ gb223 ∧ k_ ≠ gb238) v231 y230) := ⟨h0_⟩
              have n1_ : Aside0 (Kd.R k45 45 w35 w.heap.size (fun _ => True) v234 t233) := ⟨h1_⟩
              have n2_ : Aside0 (w35.heap[gb223]? = some (.cells #[.int .i64 3, .int .i64 1, .int .i64 1, .int .i64 0, .int .i32 0, .slice none 0 0, .slice none 0 0, .slice none 0 0] 28 (0, 0))) := ⟨h2_⟩
              have n3_ : Aside0 (w35.heap[gb238]? = some (.cells #[.int .i64 0, .int .i64 0] 33 (0, 0))) := ⟨h3_⟩
              have n4_ : Aside0 (w.heap.size ≤ gb238) := ⟨h4_⟩
              have n5_ : Aside0 (w.heap.size ≤ gb238) := ⟨h5_⟩
              have n6_ : Aside0 (gb223 ≠ gb238) := ⟨h6_⟩
              have n7_ : Aside0 (gb238 ≠ gb223) := ⟨h7_⟩
              have n8_ : Aside0 (Below w.heap.size w w35) := ⟨h8_⟩
              clear BK223
              clear HB
              clear h0_ h1_ h2_ h3_ h4_ h5_ h6_ h7_ h8_
              have HO232 := n0_
              have HO235 := n1_
              have BK223 := n2_
              have BK238 := n3_
              have GW238 := n4_
              have GE238 := n5_
              have NB223_238 := n6_
              have NB238_223 := n7_
              have HB := n8_
              clear n0_ n1_ n2_ n3_ n4_ n5_ n6_ n7_ n8_
              have hHeld : w35.cell? ⟨gb223, 0, none⟩ = some (.int .i64 3) ∧ w35.cell? ⟨gb223, 1, none⟩ = some (.int .i64 1) ∧ w35.cell? ⟨gb223, 2, none⟩ = some (.int .i64 1) ∧ w35.cell? ⟨gb223, 3, none⟩ = some (.int .i64 0) ∧ w35.cell? ⟨gb223, 4, none⟩ = some (.int .i32 0) ∧ w35.cell? ⟨gb223, 5, none⟩ = some (.slice none 0 0) ∧ w35.cell? ⟨gb223, 6, none⟩ = some (.slice none 0 0) ∧ w35.cell? ⟨gb223, 7, none⟩ = some (.slice none 0 0) := hS_
              refine norm_ (a' := ?_) ?_ ?_
              rotate_left
              ·simp only [putAll, Act.put, List.setIfInBounds_toArray, List.set_cons_zero, List.set_cons_succ]
               rfl
              refine pure_ (i := 9) (N := some 2) (v := ?_) (a' := ?_) #[true, true, true, true, true, true, true, true, true, true, false] rfl rfl (any_of HT_.out (by kernel_rfl)) (fun _ _ _ h => h) (Or.inl ⟨by rfl, ?_⟩) ?_ ?_
              rotate_left
              ·intro w'
               go_simp
               with_reducible rfl
              rotate_left
              ·simp only [Act.put, List.setIfInBounds_toArray, List.set_cons_zero, List.set_cons_succ, i64_w, i32_w]
               rfl
              refine one_ (i := 10) (N := none) #[true, true, true, true, true, true, true, true, true, true, true] rfl rfl (one_of HT_.out (by kernel_rfl)) (by decide) (fun K hK => ?_)
              have hs36 : w35.cell? ⟨gb238, 0, none⟩ = some (.int .i64 0) := (blk_cell BK238.out 0).trans rfl
              have hfs36 := blk_frozen BK238.out 0
              have hns36_0 := NB223_238.out
              have hms36_0 := NB238_223.out
              have hs37 : w35.cell? ⟨gb238, 1, none⟩ = some (.int .i64 0) := (blk_cell BK238.out 1).trans rfl
              have hfs37 := blk_frozen BK238.out 1
              have hns37_0 := NB223_238.out
              have hms37_0 := NB238_223.out
              refine skip_ (w1 := ?_) (by rfl) rfl ?_ ?_
              rotate_left
              ·go_simp
               rfl
              refine hK.out _ _ ⟨((cell_far (p := ⟨gb238, _, none⟩) NB223_238.out _).trans (((cell_far (p := ⟨gb238, _, none⟩) NB223_238.out _).trans (hHeld.1)))), ((cell_far (p := ⟨gb238, _, none⟩) NB223_238.out _).trans (((cell_far (p := ⟨gb238, _, none⟩) NB223_238.out _).trans (hHeld.2.1)))), ((cell_far (p := ⟨gb238, _, none⟩) NB223_238.out _).trans (((cell_far (p := ⟨gb238, _, none⟩) NB223_238.out _).trans (hHeld.2.2.1)))), ((cell_far (p := ⟨gb238, _, none⟩) NB223_238.out _).trans (((cell_far (p := ⟨gb238, _, none⟩) NB223_238.out _).trans (hHeld.2.2.2.1)))), ((cell_far (p := ⟨gb238, _, none⟩) NB223_238.out _).trans (((cell_far (p := ⟨gb238, _, none⟩) NB223_238.out _).trans (hHeld.2.2.2.2.1)))), ((cell_far (p := ⟨gb238, _, none⟩) NB223_238.out _).trans (((cell_far (p := ⟨gb238, _, none⟩) NB223_238.out _).trans (hHeld.2.2.2.2.2.1)))), ((cell_far (p := ⟨gb238, _, none⟩) NB223_238.out _).trans (((cell_far (p := ⟨gb238, _, none⟩) NB223_238.out _).trans (hHeld.2.2.2.2.2.2.1)))), ((cell_far (p := ⟨gb238, _, none⟩) NB223_238.out _).trans (((cell_far (p := ⟨gb238, _, none⟩) NB223_238.out _).trans (hHeld.2.2.2.2.2.2.2))))⟩ (fun hHeld => ?_)
              clear hK K
              refine done_ (done_of HT_.out (by kernel_rfl)) ?_
              have n0_ : Aside0 (Kd.N (Kd.slice 47 k47) 43 ((w35.setCell ⟨gb238, 0, none⟩ (.int .i64 t236)).setCell ⟨gb238, 1, none⟩ (.int .i64 t237)) w.heap.size (fun k_ => some k_ ≠ (v234 : Value).ownBlock ∧ k_ ≠ gb223 ∧ k_ ≠ gb238) v231 y230) := ⟨by (with_reducible repeat (first | apply Kd.N_alloc | apply Kd.N_drewN | apply Kd.N_drew)); exact Kd.N_mono (Kd.N_far (p := ⟨gb238, 1, none⟩) (Kd.N_far (p := ⟨gb238, 0, none⟩) (Kd.N_mono HO232.out (fun k_ hk => (⟨hk, hk.2.2⟩ : _ ∧ k_ ≠ gb238))) (fun _ hk => hk.2) (.int .i64 t236)) (fun _ hk => hk.2) (.int .i64 t237)) (fun _ hk => ⟨hk.1.1, ⟨hk.1.2.1, hk.1.2.2⟩⟩)⟩
              have n1_ : Aside0 (Kd.R k45 45 ((w35.setCell ⟨gb238, 0, none⟩ (.int .i64 t236)).setCell ⟨gb238, 1, none⟩ (.int .i64 t237)) w.heap.size (fun _ => True) v234 t233) := ⟨by (with_reducible repeat (first | apply Kd.R_alloc | apply Kd.R_drewN | apply Kd.R_drew)); exact Kd.R_mono (Kd.R_far (p := ⟨gb238, 1, none⟩) (Kd.R_far (p := ⟨gb238, 0, none⟩) (Kd.R_types HO235.out BK238.out (by decide)) (fun _ hk => hk.2) (.int .i64 t236)) (fun _ hk => hk.2) (.int .i64 t237)) (fun _ hk => trivial)⟩
              have n2_ : Aside0 (((w35.setCell ⟨gb238, 0, none⟩ (.int .i64 t236)).setCell ⟨gb238, 1, none⟩ (.int .i64 t237)).heap[gb223]? = some (.cells #[.int .i64 3, .int .i64 1, .int .i64 1, .int .i64 0, .int .i32 0, .slice none 0 0, .slice none 0 0, .slice none 0 0] 28 (0, 0))) := ⟨by (with_reducible repeat (first | refine blk_drewN ?_ _ | refine blk_drew ?_ | refine blk_alloc ?_ _)); refine blk_far ?_ NB223_238.out _; (with_reducible repeat (first | refine blk_drewN ?_ _ | refine blk_drew ?_ | refine blk_alloc ?_ _)); refine blk_far ?_ NB223_238.out _; (with_reducible repeat (first | refine blk_drewN ?_ _ | refine blk_drew ?_ | refine blk_alloc ?_ _)); exact BK223.out⟩
              have n3_ : Aside0 (((w35.setCell ⟨gb238, 0, none⟩ (.int .i64 t236)).setCell ⟨gb238, 1, none⟩ (.int .i64 t237)).heap[gb238]? = some (.cells #[.int .i64 t236, .int .i64 t237] 33 (0, 0))) := ⟨by (with_reducible repeat (first | refine blk_drewN ?_ _ | refine blk_drew ?_ | refine blk_alloc ?_ _)); refine blk_put (cs := #[.int .i64 t236, .int .i64 0]) ?_ 1 _ rfl; (with_reducible repeat (first | refine blk_drewN ?_ _ | refine blk_drew ?_ | refine blk_alloc ?_ _)); refine blk_put (cs := #[.int .i64 0, .int .i64 0]) ?_ 0 _ rfl; (with_reducible repeat (first | refine blk_drewN ?_ _ | refine blk_drew ?_ | refine blk_alloc ?_ _)); exact BK238.out⟩
              have n4_ : Aside0 (Below w.heap.size w ((w35.setCell ⟨gb238, 0, none⟩ (.int .i64 t236)).setCell ⟨gb238, 1, none⟩ (.int .i64 t237))) := ⟨by repeat (first | (with_reducible first | exact HB.out | apply below_alloc | apply pw_below_drewN | apply below_drew1 | refine below_set ?_ GE223.out | refine below_set ?_ GE238.out) | exact HB.out)⟩
              (try clear HO232)
              (try clear HO235)
              (try clear BK223)
              (try clear BK238)
              (try clear HB)
              generalize ((w35.setCell ⟨gb238, 0, none⟩ (.int .i64 t236)).setCell ⟨gb238, 1, none⟩ (.int .i64 t237)) = w38 at n0_ n1_ n2_ n3_ n4_ ⊢
              have HO232 := n0_
              have HO235 := n1_
              have BK223 := n2_
              have BK238 := n3_
              have HB := n4_
              clear n0_ n1_ n2_ n3_ n4_
              have hnb39 := NB223_238.out
              have hnc39 := NB238_223.out
              have hcz40_0 : w38.cell? ⟨gb223, 0, none⟩ = some (.int .i64 3) := (blk_cell BK223.out 0).trans rfl
              have hcz40_1 : w38.cell? ⟨gb223, 1, none⟩ = some (.int .i64 1) := (blk_cell BK223.out 1).trans rfl
              have hcz40_2 : w38.cell? ⟨gb223, 2, none⟩ = some (.int .i64 1) := (blk_cell BK223.out 2).trans rfl
              have hcz40_3 : w38.cell? ⟨gb223, 3, none⟩ = some (.int .i64 0) := (blk_cell BK223.out 3).trans rfl
              have hcz40_4 : w38.cell? ⟨gb223, 4, none⟩ = some (.int .i32 0) := (blk_cell BK223.out 4).trans rfl
              have hcz40_5 : w38.cell? ⟨gb223, 5, none⟩ = some (.slice none 0 0) := (blk_cell BK223.out 5).trans rfl
              have hcz40_6 : w38.cell? ⟨gb223, 6, none⟩ = some (.slice none 0 0) := (blk_cell BK223.out 6).trans rfl
              have hcz40_7 : w38.cell? ⟨gb223, 7, none⟩ = some (.slice none 0 0) := (blk_cell BK223.out 7).trans rfl
              have hfz40_0 := blk_frozen BK223.out 0
              have hfz40_1 := blk_frozen BK223.out 1
              have hfz40_2 := blk_frozen BK223.out 2
              have hfz40_3 := blk_frozen BK223.out 3
              have hfz40_4 := blk_frozen BK223.out 4
              have hfz40_5 := blk_frozen BK223.out 5
              have hfz40_6 := blk_frozen BK223.out 6
              have hfz40_7 := blk_frozen BK223.out 7
              try go_wp2_with (first | ((with_reducible refine gate_callee (f := 9) rfl ?_); refine goesL_ (some 18) rfl rfl Try.func9 (by kernel_rfl) rfl #[.agg #[.int .i64 3, .int .i64 1, .int .i64 1, .int .i64 0, .int .i32 0, .slice none 0 0, .slice none 0 0, .slice none 0 0], .int .i64 2, .slice none 0 0] rfl (by (try simp only [List.map_toArray, List.map_cons, List.map_nil]); first | done | rfl | (simp only [List.length_drop, List.length_take]; rfl) | (simp only [*]; first | done | rfl)) ?_; (refine (item_Prose.calls k 3 1 1 0 0 _ _ ([] : List (S85)) _ _ ([] : List (S87)) _ _ ([] : List (S89)) 2 (fun k_ => False) _ _ ([] : List (List (S47))) t239 t242 t243 _ ?side1 ?side2 ?side3 ?side4 ?side5 ?side6 ?side7 A4.out).mono ?_); (case side1 => exact Kd.C_nil _ _); (case side2 => exact Nat.le_refl _); (case side3 => exact Kd.C_nil _ _); (case side4 => exact Nat.le_refl _); (case side5 => exact Kd.C_nil _ _); (case side6 => exact Nat.le_refl _); (case side7 => exact Kd.V_nil _ _ _ _ _); rintro e w41 ⟨v240, rfl, ho0, hb⟩; refine ⟨_, rfl, ?_⟩; have n0_ := Aside0.mk (Kd.N_elder' (by (with_reducible repeat (first | apply Kd.N_alloc | apply Kd.N_drewN | apply Kd.N_drew)); exact HO232.out) (Kd.R_base ho0) hb); have n1_ := Aside0.mk (Kd.R_elder' (by (with_reducible repeat (first | apply Kd.R_alloc | apply Kd.R_drewN | apply Kd.R_drew)); exact HO235.out) (Kd.R_base ho0) hb); have n2_ := Aside0.mk (Kd.R_lower (Kd.R_new' (Kd.R_mono (ok' := fun k_ => True) ho0 (fun _ hk_ => trivial)) (Kd.R_lt (by (with_reducible repeat (first | apply Kd.R_alloc | apply Kd.R_drewN | apply Kd.R_drew)); exact HO235.out))) (below_size (by repeat (first | (with_reducible first | exact HB.out | apply below_alloc | apply pw_below_drewN | apply below_drew1 | refine below_set ?_ GE223.out | refine below_set ?_ GE238.out) | exact HB.out)))); have n3_ := Aside0.mk (blk_below (g := gb223) (o := .cells #[.int .i64 3, .int .i64 1, .int .i64 1, .int .i64 0, .int .i32 0, .slice none 0 0, .slice none 0 0, .slice none 0 0] 28 (0, 0)) (by (with_reducible repeat (first | refine blk_drewN ?_ _ | refine blk_drew ?_ | refine blk_alloc ?_ _)); exact BK223.out) hb); have n4_ := Aside0.mk (blk_below (g := gb238) (o := .cells #[.int .i64 t236, .int .i64 t237] 33 (0, 0)) (by (with_reducible repeat (first | refine blk_drewN ?_ _ | refine blk_drew ?_ | refine blk_alloc ?_ _)); exact BK238.out) hb); have n5_ := Aside0.mk (below_step (by repeat (first | (with_reducible first | exact HB.out | apply below_alloc | apply pw_below_drewN | apply below_drew1 | refine below_set ?_ GE223.out | refine below_set ?_ GE238.out) | exact HB.out)) hb); clear HO232; clear HO235; clear BK223; clear BK238; clear HB; have HO232 := n0_; have HO235 := n1_; have HO241 := n2_; have BK223 := n3_; have BK238 := n4_; have HB := n5_; clear n0_ n1_ n2_ n3_ n4_ n5_; (try clear hb); (try clear hb2); (try clear hk); (try clear hi); (try clear ho0)) | ((with_reducible refine gate_dst (N := 5) rfl ?_); (try (refine gate_guard (by rfl) ?_; dsimp only)); refine box_event ?hg (N := 5) ?hd (cs := #[.int .i64 0, .int .i64 0]) (t := 33) ?hr ?_; (case hd => rfl); (case hg => rfl); (case hr => first | (go_simp; done) | (go_simp; rfl)); intro gb244 hg w42 hbox hb; have n0_ := Aside0.mk (Kd.N_below (Kd.N_elderB (by (with_reducible repeat (first | apply Kd.N_alloc | apply Kd.N_drewN | apply Kd.N_drew)); exact HO232.out) gb244 (Nat.le_of_eq hg.symm)) hb); have n1_ := Aside0.mk (Kd.R_below (by (with_reducible repeat (first | apply Kd.R_alloc | apply Kd.R_drewN | apply Kd.R_drew)); exact HO235.out) hb); have n2_ := Aside0.mk (Kd.R_below (by (with_reducible repeat (first | apply Kd.R_alloc | apply Kd.R_drewN | apply Kd.R_drew)); exact HO241.out) hb); have n3_ := Aside0.mk (blk_below (g := gb223) (o := .cells #[.int .i64 3, .int .i64 1, .int .i64 1, .int .i64 0, .int .i32 0, .slice none 0 0, .slice none 0 0, .slice none 0 0] 28 (0, 0)) (by (with_reducible repeat (first | refine blk_drewN ?_ _ | refine blk_drew ?_ | refine blk_alloc ?_ _)); exact BK223.out) hb); have n4_ := Aside0.mk (blk_below (g := gb238) (o := .cells #[.int .i64 t236, .int .i64 t237] 33 (0, 0)) (by (with_reducible repeat (first | refine blk_drewN ?_ _ | refine blk_drew ?_ | refine blk_alloc ?_ _)); exact BK238.out) hb); have n5_ := Aside0.mk (below_step (by repeat (first | (with_reducible first | exact HB.out | apply below_alloc | apply pw_below_drewN | apply below_drew1 | refine below_set ?_ GE223.out | refine below_set ?_ GE238.out) | exact HB.out)) hb); have n6_ := Aside0.mk (hbox); have n7_ := Aside0.mk ((by rw [hg]; exact (below_size (by repeat (first | (with_reducible first | exact HB.out | apply below_alloc | apply pw_below_drewN | apply below_drew1 | refine below_set ?_ GE223.out | refine below_set ?_ GE238.out) | exact HB.out))) : w.heap.size ≤ gb244)); have n8_ := Aside0.mk ((by rw [hg]; exact (below_size (by repeat (first | (with_reducible first | exact HB.out | apply below_alloc | apply pw_below_drewN | apply below_drew1 | refine below_set ?_ GE223.out | refine below_set ?_ GE238.out) | exact HB.out))) : w.heap.size ≤ gb244)); have n9_ := Aside0.mk ((by rw [hg]; exact Nat.ne_of_lt (blk_lt (g := gb223) (o := .cells #[.int .i64 3, .int .i64 1, .int .i64 1, .int .i64 0, .int .i32 0, .slice none 0 0, .slice none 0 0, .slice none 0 0] 28 (0, 0)) (by (with_reducible repeat (first | refine blk_drewN ?_ _ | refine blk_drew ?_ | refine blk_alloc ?_ _)); exact BK223.out)) : gb223 ≠ gb244)); have n10_ := Aside0.mk ((by rw [hg]; exact Nat.ne_of_gt (blk_lt (g := gb223) (o := .cells #[.int .i64 3, .int .i64 1, .int .i64 1, .int .i64 0, .int .i32 0, .slice none 0 0, .slice none 0 0, .slice none 0 0] 28 (0, 0)) (by (with_reducible repeat (first | refine blk_drewN ?_ _ | refine blk_drew ?_ | refine blk_alloc ?_ _)); exact BK223.out)) : gb244 ≠ gb223)); have n11_ := Aside0.mk ((by rw [hg]; exact Nat.ne_of_lt (blk_lt (g := gb238) (o := .cells #[.int .i64 t236, .int .i64 t237] 33 (0, 0)) (by (with_reducible repeat (first | refine blk_drewN ?_ _ | refine blk_drew ?_ | refine blk_alloc ?_ _)); exact BK238.out)) : gb238 ≠ gb244)); have n12_ := Aside0.mk ((by rw [hg]; exact Nat.ne_of_gt (blk_lt (g := gb238) (o := .cells #[.int .i64 t236, .int .i64 t237] 33 (0, 0)) (by (with_reducible repeat (first | refine blk_drewN ?_ _ | refine blk_drew ?_ | refine blk_alloc ?_ _)); exact BK238.out)) : gb244 ≠ gb238)); clear HO232; clear HO235; clear HO241; clear BK223; clear BK238; clear HB; have HO232 := n0_; have HO235 := n1_; have HO241 := n2_; have BK223 := n3_; have BK238 := n4_; have HB := n5_; have BK244 := n6_; have GW244 := n7_; have GE244 := n8_; have NB223_244 := n9_; have NB244_223 := n10_; have NB238_244 := n11_; have NB244_238 := n12_; clear n0_ n1_ n2_ n3_ n4_ n5_ n6_ n7_ n8_ n9_ n10_ n11_ n12_; clear hb hbox hg; have hnb43 := NB244_223.out; have hnc43 := NB223_244.out; have hnb44 := NB244_238.out; have hnc44 := NB238_244.out; have hcz45_0 : w42.cell? ⟨gb244, 0, none⟩ = some (.int .i64 0) := (blk_cell BK244.out 0).trans rfl; have hcz45_1 : w42.cell? ⟨gb244, 1, none⟩ = some (.int .i64 0) := (blk_cell BK244.out 1).trans rfl; have hfz45_0 := blk_frozen BK244.out 0; have hfz45_1 := blk_frozen BK244.out 1; have hcz46_0 : w42.cell? ⟨gb238, 0, none⟩ = some (.int .i64 t236) := (blk_cell BK238.out 0).trans rfl; have hcz46_1 : w42.cell? ⟨gb238, 1, none⟩ = some (.int .i64 t237) := (blk_cell BK238.out 1).trans rfl; have hfz46_0 := blk_frozen BK238.out 0; have hfz46_1 := blk_frozen BK238.out 1; obtain ⟨Ao47, co47, eo47⟩ := Kd.R_slice HO235.out; subst eo47; have p245 : 0 ≤ (0 : Int) := (by omega); have q245 : 0 < (t233.length : Int) := of_decide_eq_true (by first | (with_reducible assumption) | assumption); obtain ⟨ad245, e245, hx245_0, hx245_1, hx245_2, hx245_3, hx245_4, hx245_5, hx245_6, hx245_7, hx245_8⟩ := at_T45 (Kd.R_reads' HO235.out).2.2 0 p245 q245; cases e245; have qi245 : (0 < t233.length) = True := eq_true (by omega); (try rw [show ((0 : Int)).toNat = 0 from rfl] at hx245_0); (try rw [show 0 * 9 = 0 from rfl] at hx245_0); (try rw [Addr.add_zero'] at hx245_0); (try rw [show ((0 : Int)).toNat = 0 from rfl] at hx245_1); (try rw [show 0 * 9 = 0 from rfl] at hx245_1); (try rw [Addr.add_zero'] at hx245_1); (try rw [show ((0 : Int)).toNat = 0 from rfl] at hx245_2); (try rw [show 0 * 9 = 0 from rfl] at hx245_2); (try rw [Addr.add_zero'] at hx245_2); (try rw [show ((0 : Int)).toNat = 0 from rfl] at hx245_3); (try rw [show 0 * 9 = 0 from rfl] at hx245_3); (try rw [Addr.add_zero'] at hx245_3); (try rw [show ((0 : Int)).toNat = 0 from rfl] at hx245_4); (try rw [show 0 * 9 = 0 from rfl] at hx245_4); (try rw [Addr.add_zero'] at hx245_4); (try rw [show ((0 : Int)).toNat = 0 from rfl] at hx245_5); (try rw [show 0 * 9 = 0 from rfl] at hx245_5); (try rw [Addr.add_zero'] at hx245_5); (try rw [show ((0 : Int)).toNat = 0 from rfl] at hx245_6); (try rw [show 0 * 9 = 0 from rfl] at hx245_6); (try rw [Addr.add_zero'] at hx245_6); (try rw [show ((0 : Int)).toNat = 0 from rfl] at hx245_7); (try rw [show 0 * 9 = 0 from rfl] at hx245_7); (try rw [Addr.add_zero'] at hx245_7); (try rw [show ((0 : Int)).toNat = 0 from rfl] at hx245_8); (try rw [show 0 * 9 = 0 from rfl] at hx245_8); (try rw [Addr.add_zero'] at hx245_8); have hn245_0 : ad245.block ≠ gb244 := Kd.own_blk (Kd.R_ne HO235.out BK244.out (by decide)); have hn245_1 : ad245.block ≠ gb244 := Kd.own_blk (Kd.R_ne HO235.out BK244.out (by decide)); replace hx245_0 := (cell_far (p := ⟨gb244, 0, none⟩) (by first | (rw [add_block]; exact hn245_0) | (show (Addr.add _ _).block ≠ _; rw [add_block]; exact hn245_0) | exact hn245_0) (.int .i64 t242)).trans hx245_0; replace hx245_1 := (cell_far (p := ⟨gb244, 0, none⟩) (by first | (rw [add_block]; exact hn245_0) | (show (Addr.add _ _).block ≠ _; rw [add_block]; exact hn245_0) | exact hn245_0) (.int .i64 t242)).trans hx245_1; replace hx245_2 := (cell_far (p := ⟨gb244, 0, none⟩) (by first | (rw [add_block]; exact hn245_0) | (show (Addr.add _ _).block ≠ _; rw [add_block]; exact hn245_0) | exact hn245_0) (.int .i64 t242)).trans hx245_2; replace hx245_3 := (cell_far (p := ⟨gb244, 0, none⟩) (by first | (rw [add_block]; exact hn245_0) | (show (Addr.add _ _).block ≠ _; rw [add_block]; exact hn245_0) | exact hn245_0) (.int .i64 t242)).trans hx245_3; replace hx245_4 := (cell_far (p := ⟨gb244, 0, none⟩) (by first | (rw [add_block]; exact hn245_0) | (show (Addr.add _ _).block ≠ _; rw [add_block]; exact hn245_0) | exact hn245_0) (.int .i64 t242)).trans hx245_4; replace hx245_5 := (cell_far (p := ⟨gb244, 0, none⟩) (by first | (rw [add_block]; exact hn245_0) | (show (Addr.add _ _).block ≠ _; rw [add_block]; exact hn245_0) | exact hn245_0) (.int .i64 t242)).trans hx245_5; replace hx245_6 := (cell_far (p := ⟨gb244, 0, none⟩) (by first | (rw [add_block]; exact hn245_0) | (show (Addr.add _ _).block ≠ _; rw [add_block]; exact hn245_0) | exact hn245_0) (.int .i64 t242)).trans hx245_6; replace hx245_7 := (cell_far (p := ⟨gb244, 0, none⟩) (by first | (rw [add_block]; exact hn245_0) | (show (Addr.add _ _).block ≠ _; rw [add_block]; exact hn245_0) | exact hn245_0) (.int .i64 t242)).trans hx245_7; replace hx245_8 := (cell_far (p := ⟨gb244, 0, none⟩) (by first | (rw [add_block]; exact hn245_0) | (show (Addr.add _ _).block ≠ _; rw [add_block]; exact hn245_0) | exact hn245_0) (.int .i64 t242)).trans hx245_8; replace hx245_0 := (cell_far (p := ⟨gb244, 1, none⟩) (by first | (rw [add_block]; exact hn245_1) | (show (Addr.add _ _).block ≠ _; rw [add_block]; exact hn245_1) | exact hn245_1) (.int .i64 t243)).trans hx245_0; replace hx245_1 := (cell_far (p := ⟨gb244, 1, none⟩) (by first | (rw [add_block]; exact hn245_1) | (show (Addr.add _ _).block ≠ _; rw [add_block]; exact hn245_1) | exact hn245_1) (.int .i64 t243)).trans hx245_1; replace hx245_2 := (cell_far (p := ⟨gb244, 1, none⟩) (by first | (rw [add_block]; exact hn245_1) | (show (Addr.add _ _).block ≠ _; rw [add_block]; exact hn245_1) | exact hn245_1) (.int .i64 t243)).trans hx245_2; replace hx245_3 := (cell_far (p := ⟨gb244, 1, none⟩) (by first | (rw [add_block]; exact hn245_1) | (show (Addr.add _ _).block ≠ _; rw [add_block]; exact hn245_1) | exact hn245_1) (.int .i64 t243)).trans hx245_3; replace hx245_4 := (cell_far (p := ⟨gb244, 1, none⟩) (by first | (rw [add_block]; exact hn245_1) | (show (Addr.add _ _).block ≠ _; rw [add_block]; exact hn245_1) | exact hn245_1) (.int .i64 t243)).trans hx245_4; replace hx245_5 := (cell_far (p := ⟨gb244, 1, none⟩) (by first | (rw [add_block]; exact hn245_1) | (show (Addr.add _ _).block ≠ _; rw [add_block]; exact hn245_1) | exact hn245_1) (.int .i64 t243)).trans hx245_5; replace hx245_6 := (cell_far (p := ⟨gb244, 1, none⟩) (by first | (rw [add_block]; exact hn245_1) | (show (Addr.add _ _).block ≠ _; rw [add_block]; exact hn245_1) | exact hn245_1) (.int .i64 t243)).trans hx245_6; replace hx245_7 := (cell_far (p := ⟨gb244, 1, none⟩) (by first | (rw [add_block]; exact hn245_1) | (show (Addr.add _ _).block ≠ _; rw [add_block]; exact hn245_1) | exact hn245_1) (.int .i64 t243)).trans hx245_7; replace hx245_8 := (cell_far (p := ⟨gb244, 1, none⟩) (by first | (rw [add_block]; exact hn245_1) | (show (Addr.add _ _).block ≠ _; rw [add_block]; exact hn245_1) | exact hn245_1) (.int .i64 t243)).trans hx245_8; clear hn245_0; clear hn245_1; replace p245 := eq_true p245; replace q245 := eq_true q245; have p246 : 0 ≤ (1 : Int) := (by omega); have q246 : 1 < (t233.length : Int) := of_decide_eq_true (by first | (with_reducible assumption) | assumption); obtain ⟨ad246, e246, hx246_0, hx246_1, hx246_2, hx246_3, hx246_4, hx246_5, hx246_6, hx246_7, hx246_8⟩ := at_T45 (Kd.R_reads' HO235.out).2.2 1 p246 q246; obtain rfl : ad245 = ad246 := (by injection e246); (try simp only [show (1 : Int).toNat = 1 from rfl, Nat.reduceMul, Nat.reduceEqDiff, Go.Addr.add, ↓reduceIte] at hx246_0); (try simp only [show (1 : Int).toNat = 1 from rfl, Nat.reduceMul, Nat.reduceEqDiff, Go.Addr.add, ↓reduceIte] at hx246_1); (try simp only [show (1 : Int).toNat = 1 from rfl, Nat.reduceMul, Nat.reduceEqDiff, Go.Addr.add, ↓reduceIte] at hx246_2); (try simp only [show (1 : Int).toNat = 1 from rfl, Nat.reduceMul, Nat.reduceEqDiff, Go.Addr.add, ↓reduceIte] at hx246_3); (try simp only [show (1 : Int).toNat = 1 from rfl, Nat.reduceMul, Nat.reduceEqDiff, Go.Addr.add, ↓reduceIte] at hx246_4); (try simp only [show (1 : Int).toNat = 1 from rfl, Nat.reduceMul, Nat.reduceEqDiff, Go.Addr.add, ↓reduceIte] at hx246_5); (try simp only [show (1 : Int).toNat = 1 from rfl, Nat.reduceMul, Nat.reduceEqDiff, Go.Addr.add, ↓reduceIte] at hx246_6); (try simp only [show (1 : Int).toNat = 1 from rfl, Nat.reduceMul, Nat.reduceEqDiff, Go.Addr.add, ↓reduceIte] at hx246_7); (try simp only [show (1 : Int).toNat = 1 from rfl, Nat.reduceMul, Nat.reduceEqDiff, Go.Addr.add, ↓reduceIte] at hx246_8); have qi246 : (1 < t233.length) = True := eq_true (by omega); (try rw [show ((1 : Int)).toNat = 1 from rfl] at hx246_0); (try rw [show 1 * 9 = 9 from rfl] at hx246_0); (try rw [show ((1 : Int)).toNat = 1 from rfl] at hx246_1); (try rw [show 1 * 9 = 9 from rfl] at hx246_1); (try rw [show ((1 : Int)).toNat = 1 from rfl] at hx246_2); (try rw [show 1 * 9 = 9 from rfl] at hx246_2); (try rw [show ((1 : Int)).toNat = 1 from rfl] at hx246_3); (try rw [show 1 * 9 = 9 from rfl] at hx246_3); (try rw [show ((1 : Int)).toNat = 1 from rfl] at hx246_4); (try rw [show 1 * 9 = 9 from rfl] at hx246_4); (try rw [show ((1 : Int)).toNat = 1 from rfl] at hx246_5); (try rw [show 1 * 9 = 9 from rfl] at hx246_5); (try rw [show ((1 : Int)).toNat = 1 from rfl] at hx246_6); (try rw [show 1 * 9 = 9 from rfl] at hx246_6); (try rw [show ((1 : Int)).toNat = 1 from rfl] at hx246_7); (try rw [show 1 * 9 = 9 from rfl] at hx246_7); (try rw [show ((1 : Int)).toNat = 1 from rfl] at hx246_8); (try rw [show 1 * 9 = 9 from rfl] at hx246_8); have hn246_0 : ad245.block ≠ gb244 := Kd.own_blk (Kd.R_ne HO235.out BK244.out (by decide)); have hn246_1 : ad245.block ≠ gb244 := Kd.own_blk (Kd.R_ne HO235.out BK244.out (by decide)); replace hx246_0 := (cell_far (p := ⟨gb244, 0, none⟩) (by first | (rw [add_block]; exact hn246_0) | (show (Addr.add _ _).block ≠ _; rw [add_block]; exact hn246_0) | exact hn246_0) (.int .i64 t242)).trans hx246_0; replace hx246_1 := (cell_far (p := ⟨gb244, 0, none⟩) (by first | (rw [add_block]; exact hn246_0) | (show (Addr.add _ _).block ≠ _; rw [add_block]; exact hn246_0) | exact hn246_0) (.int .i64 t242)).trans hx246_1; replace hx246_2 := (cell_far (p := ⟨gb244, 0, none⟩) (by first | (rw [add_block]; exact hn246_0) | (show (Addr.add _ _).block ≠ _; rw [add_block]; exact hn246_0) | exact hn246_0) (.int .i64 t242)).trans hx246_2; replace hx246_3 := (cell_far (p := ⟨gb244, 0, none⟩) (by first | (rw [add_block]; exact hn246_0) | (show (Addr.add _ _).block ≠ _; rw [add_block]; exact hn246_0) | exact hn246_0) (.int .i64 t242)).trans hx246_3; replace hx246_4 := (cell_far (p := ⟨gb244, 0, none⟩) (by first | (rw [add_block]; exact hn246_0) | (show (Addr.add _ _).block ≠ _; rw [add_block]; exact hn246_0) | exact hn246_0) (.int .i64 t242)).trans hx246_4; replace hx246_5 := (cell_far (p := ⟨gb244, 0, none⟩) (by first | (rw [add_block]; exact hn246_0) | (show (Addr.add _ _).block ≠ _; rw [add_block]; exact hn246_0) | exact hn246_0) (.int .i64 t242)).trans hx246_5; replace hx246_6 := (cell_far (p := ⟨gb244, 0, none⟩) (by first | (rw [add_block]; exact hn246_0) | (show (Addr.add _ _).block ≠ _; rw [add_block]; exact hn246_0) | exact hn246_0) (.int .i64 t242)).trans hx246_6; replace hx246_7 := (cell_far (p := ⟨gb244, 0, none⟩) (by first | (rw [add_block]; exact hn246_0) | (show (Addr.add _ _).block ≠ _; rw [add_block]; exact hn246_0) | exact hn246_0) (.int .i64 t242)).trans hx246_7; replace hx246_8 := (cell_far (p := ⟨gb244, 0, none⟩) (by first | (rw [add_block]; exact hn246_0) | (show (Addr.add _ _).block ≠ _; rw [add_block]; exact hn246_0) | exact hn246_0) (.int .i64 t242)).trans hx246_8; replace hx246_0 := (cell_far (p := ⟨gb244, 1, none⟩) (by first | (rw [add_block]; exact hn246_1) | (show (Addr.add _ _).block ≠ _; rw [add_block]; exact hn246_1) | exact hn246_1) (.int .i64 t243)).trans hx246_0; replace hx246_1 := (cell_far (p := ⟨gb244, 1, none⟩) (by first | (rw [add_block]; exact hn246_1) | (show (Addr.add _ _).block ≠ _; rw [add_block]; exact hn246_1) | exact hn246_1) (.int .i64 t243)).trans hx246_1; replace hx246_2 := (cell_far (p := ⟨gb244, 1, none⟩) (by first | (rw [add_block]; exact hn246_1) | (show (Addr.add _ _).block ≠ _; rw [add_block]; exact hn246_1) | exact hn246_1) (.int .i64 t243)).trans hx246_2; replace hx246_3 := (cell_far (p := ⟨gb244, 1, none⟩) (by first | (rw [add_block]; exact hn246_1) | (show (Addr.add _ _).block ≠ _; rw [add_block]; exact hn246_1) | exact hn246_1) (.int .i64 t243)).trans hx246_3; replace hx246_4 := (cell_far (p := ⟨gb244, 1, none⟩) (by first | (rw [add_block]; exact hn246_1) | (show (Addr.add _ _).block ≠ _; rw [add_block]; exact hn246_1) | exact hn246_1) (.int .i64 t243)).trans hx246_4; replace hx246_5 := (cell_far (p := ⟨gb244, 1, none⟩) (by first | (rw [add_block]; exact hn246_1) | (show (Addr.add _ _).block ≠ _; rw [add_block]; exact hn246_1) | exact hn246_1) (.int .i64 t243)).trans hx246_5; replace hx246_6 := (cell_far (p := ⟨gb244, 1, none⟩) (by first | (rw [add_block]; exact hn246_1) | (show (Addr.add _ _).block ≠ _; rw [add_block]; exact hn246_1) | exact hn246_1) (.int .i64 t243)).trans hx246_6; replace hx246_7 := (cell_far (p := ⟨gb244, 1, none⟩) (by first | (rw [add_block]; exact hn246_1) | (show (Addr.add _ _).block ≠ _; rw [add_block]; exact hn246_1) | exact hn246_1) (.int .i64 t243)).trans hx246_7; replace hx246_8 := (cell_far (p := ⟨gb244, 1, none⟩) (by first | (rw [add_block]; exact hn246_1) | (show (Addr.add _ _).block ≠ _; rw [add_block]; exact hn246_1) | exact hn246_1) (.int .i64 t243)).trans hx246_8; clear hn246_0; clear hn246_1; replace p246 := eq_true p246; replace q246 := eq_true q246; have p247 : 0 ≤ (2 : Int) := (by omega); have q247 : 2 < (t233.length : Int) := of_decide_eq_true (by first | (with_reducible assumption) | assumption); obtain ⟨ad247, e247, hx247_0, hx247_1, hx247_2, hx247_3, hx247_4, hx247_5, hx247_6, hx247_7, hx247_8⟩ := at_T45 (Kd.R_reads' HO235.out).2.2 2 p247 q247; obtain rfl : ad245 = ad247 := (by injection e247); (try simp only [show (2 : Int).toNat = 2 from rfl, Nat.reduceMul, Nat.reduceEqDiff, Go.Addr.add, ↓reduceIte] at hx247_0); (try simp only [show (2 : Int).toNat = 2 from rfl, Nat.reduceMul, Nat.reduceEqDiff, Go.Addr.add, ↓reduceIte] at hx247_1); (try simp only [show (2 : Int).toNat = 2 from rfl, Nat.reduceMul, Nat.reduceEqDiff, Go.Addr.add, ↓reduceIte] at hx247_2); (try simp only [show (2 : Int).toNat = 2 from rfl, Nat.reduceMul, Nat.reduceEqDiff, Go.Addr.add, ↓reduceIte] at hx247_3); (try simp only [show (2 : Int).toNat = 2 from rfl, Nat.reduceMul, Nat.reduceEqDiff, Go.Addr.add, ↓reduceIte] at hx247_4); (try simp only [show (2 : Int).toNat = 2 from rfl, Nat.reduceMul, Nat.reduceEqDiff, Go.Addr.add, ↓reduceIte] at hx247_5); (try simp only [show (2 : Int).toNat = 2 from rfl, Nat.reduceMul, Nat.reduceEqDiff, Go.Addr.add, ↓reduceIte] at hx247_6); (try simp only [show (2 : Int).toNat = 2 from rfl, Nat.reduceMul, Nat.reduceEqDiff, Go.Addr.add, ↓reduceIte] at hx247_7); (try simp only [show (2 : Int).toNat = 2 from rfl, Nat.reduceMul, Nat.reduceEqDiff, Go.Addr.add, ↓reduceIte] at hx247_8); have qi247 : (2 < t233.length) = True := eq_true (by omega); (try rw [show ((2 : Int)).toNat = 2 from rfl] at hx247_0); (try rw [show 2 * 9 = 18 from rfl] at hx247_0); (try rw [show ((2 : Int)).toNat = 2 from rfl] at hx247_1); (try rw [show 2 * 9 = 18 from rfl] at hx247_1); (try rw [show ((2 : Int)).toNat = 2 from rfl] at hx247_2); (try rw [show 2 * 9 = 18 from rfl] at hx247_2); (try rw [show ((2 : Int)).toNat = 2 from rfl] at hx247_3); (try rw [show 2 * 9 = 18 from rfl] at hx247_3); (try rw [show ((2 : Int)).toNat = 2 from rfl] at hx247_4); (try rw [show 2 * 9 = 18 from rfl] at hx247_4); (try rw [show ((2 : Int)).toNat = 2 from rfl] at hx247_5); (try rw [show 2 * 9 = 18 from rfl] at hx247_5); (try rw [show ((2 : Int)).toNat = 2 from rfl] at hx247_6); (try rw [show 2 * 9 = 18 from rfl] at hx247_6); (try rw [show ((2 : Int)).toNat = 2 from rfl] at hx247_7); (try rw [show 2 * 9 = 18 from rfl] at hx247_7); (try rw [show ((2 : Int)).toNat = 2 from rfl] at hx247_8); (try rw [show 2 * 9 = 18 from rfl] at hx247_8); have hn247_0 : ad245.block ≠ gb244 := Kd.own_blk (Kd.R_ne HO235.out BK244.out (by decide)); have hn247_1 : ad245.block ≠ gb244 := Kd.own_blk (Kd.R_ne HO235.out BK244.out (by decide)); replace hx247_0 := (cell_far (p := ⟨gb244, 0, none⟩) (by first | (rw [add_block]; exact hn247_0) | (show (Addr.add _ _).block ≠ _; rw [add_block]; exact hn247_0) | exact hn247_0) (.int .i64 t242)).trans hx247_0; replace hx247_1 := (cell_far (p := ⟨gb244, 0, none⟩) (by first | (rw [add_block]; exact hn247_0) | (show (Addr.add _ _).block ≠ _; rw [add_block]; exact hn247_0) | exact hn247_0) (.int .i64 t242)).trans hx247_1; replace hx247_2 := (cell_far (p := ⟨gb244, 0, none⟩) (by first | (rw [add_block]; exact hn247_0) | (show (Addr.add _ _).block ≠ _; rw [add_block]; exact hn247_0) | exact hn247_0) (.int .i64 t242)).trans hx247_2; replace hx247_3 := (cell_far (p := ⟨gb244, 0, none⟩) (by first | (rw [add_block]; exact hn247_0) | (show (Addr.add _ _).block ≠ _; rw [add_block]; exact hn247_0) | exact hn247_0) (.int .i64 t242)).trans hx247_3; replace hx247_4 := (cell_far (p := ⟨gb244, 0, none⟩) (by first | (rw [add_block]; exact hn247_0) | (show (Addr.add _ _).block ≠ _; rw [add_block]; exact hn247_0) | exact hn247_0) (.int .i64 t242)).trans hx247_4; replace hx247_5 := (cell_far (p := ⟨gb244, 0, none⟩) (by first | (rw [add_block]; exact hn247_0) | (show (Addr.add _ _).block ≠ _; rw [add_block]; exact hn247_0) | exact hn247_0) (.int .i64 t242)).trans hx247_5; replace hx247_6 := (cell_far (p := ⟨gb244, 0, none⟩) (by first | (rw [add_block]; exact hn247_0) | (show (Addr.add _ _).block ≠ _; rw [add_block]; exact hn247_0) | exact hn247_0) (.int .i64 t242)).trans hx247_6; replace hx247_7 := (cell_far (p := ⟨gb244, 0, none⟩) (by first | (rw [add_block]; exact hn247_0) | (show (Addr.add _ _).block ≠ _; rw [add_block]; exact hn247_0) | exact hn247_0) (.int .i64 t242)).trans hx247_7; replace hx247_8 := (cell_far (p := ⟨gb244, 0, none⟩) (by first | (rw [add_block]; exact hn247_0) | (show (Addr.add _ _).block ≠ _; rw [add_block]; exact hn247_0) | exact hn247_0) (.int .i64 t242)).trans hx247_8; replace hx247_0 := (cell_far (p := ⟨gb244, 1, none⟩) (by first | (rw [add_block]; exact hn247_1) | (show (Addr.add _ _).block ≠ _; rw [add_block]; exact hn247_1) | exact hn247_1) (.int .i64 t243)).trans hx247_0; replace hx247_1 := (cell_far (p := ⟨gb244, 1, none⟩) (by first | (rw [add_block]; exact hn247_1) | (show (Addr.add _ _).block ≠ _; rw [add_block]; exact hn247_1) | exact hn247_1) (.int .i64 t243)).trans hx247_1; replace hx247_2 := (cell_far (p := ⟨gb244, 1, none⟩) (by first | (rw [add_block]; exact hn247_1) | (show (Addr.add _ _).block ≠ _; rw [add_block]; exact hn247_1) | exact hn247_1) (.int .i64 t243)).trans hx247_2; replace hx247_3 := (cell_far (p := ⟨gb244, 1, none⟩) (by first | (rw [add_block]; exact hn247_1) | (show (Addr.add _ _).block ≠ _; rw [add_block]; exact hn247_1) | exact hn247_1) (.int .i64 t243)).trans hx247_3; replace hx247_4 := (cell_far (p := ⟨gb244, 1, none⟩) (by first | (rw [add_block]; exact hn247_1) | (show (Addr.add _ _).block ≠ _; rw [add_block]; exact hn247_1) | exact hn247_1) (.int .i64 t243)).trans hx247_4; replace hx247_5 := (cell_far (p := ⟨gb244, 1, none⟩) (by first | (rw [add_block]; exact hn247_1) | (show (Addr.add _ _).block ≠ _; rw [add_block]; exact hn247_1) | exact hn247_1) (.int .i64 t243)).trans hx247_5; replace hx247_6 := (cell_far (p := ⟨gb244, 1, none⟩) (by first | (rw [add_block]; exact hn247_1) | (show (Addr.add _ _).block ≠ _; rw [add_block]; exact hn247_1) | exact hn247_1) (.int .i64 t243)).trans hx247_6; replace hx247_7 := (cell_far (p := ⟨gb244, 1, none⟩) (by first | (rw [add_block]; exact hn247_1) | (show (Addr.add _ _).block ≠ _; rw [add_block]; exact hn247_1) | exact hn247_1) (.int .i64 t243)).trans hx247_7; replace hx247_8 := (cell_far (p := ⟨gb244, 1, none⟩) (by first | (rw [add_block]; exact hn247_1) | (show (Addr.add _ _).block ≠ _; rw [add_block]; exact hn247_1) | exact hn247_1) (.int .i64 t243)).trans hx247_8; clear hn247_0; clear hn247_1; replace p247 := eq_true p247; replace q247 := eq_true q247; have p248 : 0 ≤ (5 : Int) := (by omega); have q248 : 5 < (t233.length : Int) := of_decide_eq_true (by first | (with_reducible assumption) | assumption); obtain ⟨ad248, e248, hx248_0, hx248_1, hx248_2, hx248_3, hx248_4, hx248_5, hx248_6, hx248_7, hx248_8⟩ := at_T45 (Kd.R_reads' HO235.out).2.2 5 p248 q248; obtain rfl : ad245 = ad248 := (by injection e248); (try simp only [show (5 : Int).toNat = 5 from rfl, Nat.reduceMul, Nat.reduceEqDiff, Go.Addr.add, ↓reduceIte] at hx248_0); (try simp only [show (5 : Int).toNat = 5 from rfl, Nat.reduceMul, Nat.reduceEqDiff, Go.Addr.add, ↓reduceIte] at hx248_1); (try simp only [show (5 : Int).toNat = 5 from rfl, Nat.reduceMul, Nat.reduceEqDiff, Go.Addr.add, ↓reduceIte] at hx248_2); (try simp only [show (5 : Int).toNat = 5 from rfl, Nat.reduceMul, Nat.reduceEqDiff, Go.Addr.add, ↓reduceIte] at hx248_3); (try simp only [show (5 : Int).toNat = 5 from rfl, Nat.reduceMul, Nat.reduceEqDiff, Go.Addr.add, ↓reduceIte] at hx248_4); (try simp only [show (5 : Int).toNat = 5 from rfl, Nat.reduceMul, Nat.reduceEqDiff, Go.Addr.add, ↓reduceIte] at hx248_5); (try simp only [show (5 : Int).toNat = 5 from rfl, Nat.reduceMul, Nat.reduceEqDiff, Go.Addr.add, ↓reduceIte] at hx248_6); (try simp only [show (5 : Int).toNat = 5 from rfl, Nat.reduceMul, Nat.reduceEqDiff, Go.Addr.add, ↓reduceIte] at hx248_7); (try simp only [show (5 : Int).toNat = 5 from rfl, Nat.reduceMul, Nat.reduceEqDiff, Go.Addr.add, ↓reduceIte] at hx248_8); have qi248 : (5 < t233.length) = True := eq_true (by omega); (try rw [show ((5 : Int)).toNat = 5 from rfl] at hx248_0); (try rw [show 5 * 9 = 45 from rfl] at hx248_0); (try rw [show ((5 : Int)).toNat = 5 from rfl] at hx248_1); (try rw [show 5 * 9 = 45 from rfl] at hx248_1); (try rw [show ((5 : Int)).toNat = 5 from rfl] at hx248_2); (try rw [show 5 * 9 = 45 from rfl] at hx248_2); (try rw [show ((5 : Int)).toNat = 5 from rfl] at hx248_3); (try rw [show 5 * 9 = 45 from rfl] at hx248_3); (try rw [show ((5 : Int)).toNat = 5 from rfl] at hx248_4); (try rw [show 5 * 9 = 45 from rfl] at hx248_4); (try rw [show ((5 : Int)).toNat = 5 from rfl] at hx248_5); (try rw [show 5 * 9 = 45 from rfl] at hx248_5); (try rw [show ((5 : Int)).toNat = 5 from rfl] at hx248_6); (try rw [show 5 * 9 = 45 from rfl] at hx248_6); (try rw [show ((5 : Int)).toNat = 5 from rfl] at hx248_7); (try rw [show 5 * 9 = 45 from rfl] at hx248_7); (try rw [show ((5 : Int)).toNat = 5 from rfl] at hx248_8); (try rw [show 5 * 9 = 45 from rfl] at hx248_8); have hn248_0 : ad245.block ≠ gb244 := Kd.own_blk (Kd.R_ne HO235.out BK244.out (by decide)); have hn248_1 : ad245.block ≠ gb244 := Kd.own_blk (Kd.R_ne HO235.out BK244.out (by decide)); replace hx248_0 := (cell_far (p := ⟨gb244, 0, none⟩) (by first | (rw [add_block]; exact hn248_0) | (show (Addr.add _ _).block ≠ _; rw [add_block]; exact hn248_0) | exact hn248_0) (.int .i64 t242)).trans hx248_0; replace hx248_1 := (cell_far (p := ⟨gb244, 0, none⟩) (by first | (rw [add_block]; exact hn248_0) | (show (Addr.add _ _).block ≠ _; rw [add_block]; exact hn248_0) | exact hn248_0) (.int .i64 t242)).trans hx248_1; replace hx248_2 := (cell_far (p := ⟨gb244, 0, none⟩) (by first | (rw [add_block]; exact hn248_0) | (show (Addr.add _ _).block ≠ _; rw [add_block]; exact hn248_0) | exact hn248_0) (.int .i64 t242)).trans hx248_2; replace hx248_3 := (cell_far (p := ⟨gb244, 0, none⟩) (by first | (rw [add_block]; exact hn248_0) | (show (Addr.add _ _).block ≠ _; rw [add_block]; exact hn248_0) | exact hn248_0) (.int .i64 t242)).trans hx248_3; replace hx248_4 := (cell_far (p := ⟨gb244, 0, none⟩) (by first | (rw [add_block]; exact hn248_0) | (show (Addr.add _ _).block ≠ _; rw [add_block]; exact hn248_0) | exact hn248_0) (.int .i64 t242)).trans hx248_4; replace hx248_5 := (cell_far (p := ⟨gb244, 0, none⟩) (by first | (rw [add_block]; exact hn248_0) | (show (Addr.add _ _).block ≠ _; rw [add_block]; exact hn248_0) | exact hn248_0) (.int .i64 t242)).trans hx248_5; replace hx248_6 := (cell_far (p := ⟨gb244, 0, none⟩) (by first | (rw [add_block]; exact hn248_0) | (show (Addr.add _ _).block ≠ _; rw [add_block]; exact hn248_0) | exact hn248_0) (.int .i64 t242)).trans hx248_6; replace hx248_7 := (cell_far (p := ⟨gb244, 0, none⟩) (by first | (rw [add_block]; exact hn248_0) | (show (Addr.add _ _).block ≠ _; rw [add_block]; exact hn248_0) | exact hn248_0) (.int .i64 t242)).trans hx248_7; replace hx248_8 := (cell_far (p := ⟨gb244, 0, none⟩) (by first | (rw [add_block]; exact hn248_0) | (show (Addr.add _ _).block ≠ _; rw [add_block]; exact hn248_0) | exact hn248_0) (.int .i64 t242)).trans hx248_8; replace hx248_0 := (cell_far (p := ⟨gb244, 1, none⟩) (by first | (rw [add_block]; exact hn248_1) | (show (Addr.add _ _).block ≠ _; rw [add_block]; exact hn248_1) | exact hn248_1) (.int .i64 t243)).trans hx248_0; replace hx248_1 := (cell_far (p := ⟨gb244, 1, none⟩) (by first | (rw [add_block]; exact hn248_1) | (show (Addr.add _ _).block ≠ _; rw [add_block]; exact hn248_1) | exact hn248_1) (.int .i64 t243)).trans hx248_1; replace hx248_2 := (cell_far (p := ⟨gb244, 1, none⟩) (by first | (rw [add_block]; exact hn248_1) | (show (Addr.add _ _).block ≠ _; rw [add_block]; exact hn248_1) | exact hn248_1) (.int .i64 t243)).trans hx248_2; replace hx248_3 := (cell_far (p := ⟨gb244, 1, none⟩) (by first | (rw [add_block]; exact hn248_1) | (show (Addr.add _ _).block ≠ _; rw [add_block]; exact hn248_1) | exact hn248_1) (.int .i64 t243)).trans hx248_3; replace hx248_4 := (cell_far (p := ⟨gb244, 1, none⟩) (by first | (rw [add_block]; exact hn248_1) | (show (Addr.add _ _).block ≠ _; rw [add_block]; exact hn248_1) | exact hn248_1) (.int .i64 t243)).trans hx248_4; replace hx248_5 := (cell_far (p := ⟨gb244, 1, none⟩) (by first | (rw [add_block]; exact hn248_1) | (show (Addr.add _ _).block ≠ _; rw [add_block]; exact hn248_1) | exact hn248_1) (.int .i64 t243)).trans hx248_5; replace hx248_6 := (cell_far (p := ⟨gb244, 1, none⟩) (by first | (rw [add_block]; exact hn248_1) | (show (Addr.add _ _).block ≠ _; rw [add_block]; exact hn248_1) | exact hn248_1) (.int .i64 t243)).trans hx248_6; replace hx248_7 := (cell_far (p := ⟨gb244, 1, none⟩) (by first | (rw [add_block]; exact hn248_1) | (show (Addr.add _ _).block ≠ _; rw [add_block]; exact hn248_1) | exact hn248_1) (.int .i64 t243)).trans hx248_7; replace hx248_8 := (cell_far (p := ⟨gb244, 1, none⟩) (by first | (rw [add_block]; exact hn248_1) | (show (Addr.add _ _).block ≠ _; rw [add_block]; exact hn248_1) | exact hn248_1) (.int .i64 t243)).trans hx248_8; clear hn248_0; clear hn248_1; replace p248 := eq_true p248; replace q248 := eq_true q248) | (go_at_call 19; (with_reducible refine (variorumref09_End.calls  t249 _ A16.out).mono ?_); rintro e w48 ⟨v250, rfl, ho0, hb⟩; have n0_ := Aside0.mk (Kd.N_elder' (by (with_reducible repeat (first | apply Kd.N_alloc | apply Kd.N_drewN | apply Kd.N_drew)); exact (Kd.N_mono (Kd.N_far (p := ⟨gb244, 1, none⟩) (Kd.N_far (p := ⟨gb244, 0, none⟩) (Kd.N_mono HO232.out (fun k_ hk => (⟨hk, hk.2⟩ : _ ∧ k_ ≠ gb244))) (fun _ hk => hk.2) (.int .i64 t242)) (fun _ hk => hk.2) (.int .i64 t243)) (fun _ h_ => h_.1))) (Kd.R_base ho0) hb); have n1_ := Aside0.mk (Kd.R_elder' (by (with_reducible repeat (first | apply Kd.R_alloc | apply Kd.R_drewN | apply Kd.R_drew)); exact (Kd.R_mono (Kd.R_far (p := ⟨gb244, 1, none⟩) (Kd.R_far (p := ⟨gb244, 0, none⟩) (Kd.R_types HO235.out BK244.out (by decide)) (fun _ hk => hk.2) (.int .i64 t242)) (fun _ hk => hk.2) (.int .i64 t243)) (fun _ h_ => h_.1))) (Kd.R_base ho0) hb); have n2_ := Aside0.mk (Kd.R_elder' (by (with_reducible repeat (first | apply Kd.R_alloc | apply Kd.R_drewN | apply Kd.R_drew)); exact (Kd.R_mono (Kd.R_far (p := ⟨gb244, 1, none⟩) (Kd.R_far (p := ⟨gb244, 0, none⟩) (Kd.R_types HO241.out BK244.out (by decide)) (fun _ hk => hk.2) (.int .i64 t242)) (fun _ hk => hk.2) (.int .i64 t243)) (fun _ h_ => h_.1))) (Kd.R_base ho0) hb); have n3_ := Aside0.mk (Kd.R_lower (Kd.R_new' (Kd.R_new' ho0 (Kd.R_lt (by (with_reducible repeat (first | apply Kd.R_alloc | apply Kd.R_drewN | apply Kd.R_drew)); exact (Kd.R_mono (Kd.R_far (p := ⟨gb244, 1, none⟩) (Kd.R_far (p := ⟨gb244, 0, none⟩) (Kd.R_types HO235.out BK244.out (by decide)) (fun _ hk => hk.2) (.int .i64 t242)) (fun _ hk => hk.2) (.int .i64 t243)) (fun _ h_ => h_.1))))) (Kd.R_lt (by (with_reducible repeat (first | apply Kd.R_alloc | apply Kd.R_drewN | apply Kd.R_drew)); exact (Kd.R_mono (Kd.R_far (p := ⟨gb244, 1, none⟩) (Kd.R_far (p := ⟨gb244, 0, none⟩) (Kd.R_types HO241.out BK244.out (by decide)) (fun _ hk => hk.2) (.int .i64 t242)) (fun _ hk => hk.2) (.int .i64 t243)) (fun _ h_ => h_.1))))) (below_size (by repeat (first | (with_reducible first | exact HB.out | apply below_alloc | apply pw_below_drewN | apply below_drew1 | refine below_set ?_ GE223.out | refine below_set ?_ GE238.out | refine below_set ?_ GE244.out) | exact HB.out)))); have n4_ := Aside0.mk (blk_below (g := gb223) (o := .cells #[.int .i64 3, .int .i64 1, .int .i64 1, .int .i64 0, .int .i32 0, .slice none 0 0, .slice none 0 0, .slice none 0 0] 28 (0, 0)) (by (with_reducible repeat (first | refine blk_drewN ?_ _ | refine blk_drew ?_ | refine blk_alloc ?_ _)); refine blk_far ?_ NB223_244.out _; (with_reducible repeat (first | refine blk_drewN ?_ _ | refine blk_drew ?_ | refine blk_alloc ?_ _)); refine blk_far ?_ NB223_244.out _; (with_reducible repeat (first | refine blk_drewN ?_ _ | refine blk_drew ?_ | refine blk_alloc ?_ _)); exact BK223.out) hb); have n5_ := Aside0.mk (blk_below (g := gb238) (o := .cells #[.int .i64 t236, .int .i64 t237] 33 (0, 0)) (by (with_reducible repeat (first | refine blk_drewN ?_ _ | refine blk_drew ?_ | refine blk_alloc ?_ _)); refine blk_far ?_ NB238_244.out _; (with_reducible repeat (first | refine blk_drewN ?_ _ | refine blk_drew ?_ | refine blk_alloc ?_ _)); refine blk_far ?_ NB238_244.out _; (with_reducible repeat (first | refine blk_drewN ?_ _ | refine blk_drew ?_ | refine blk_alloc ?_ _)); exact BK238.out) hb); have n6_ := Aside0.mk (blk_below (g := gb244) (o := .cells #[.int .i64 t242, .int .i64 t243] 33 (0, 0)) (by (with_reducible repeat (first | refine blk_drewN ?_ _ | refine blk_drew ?_ | refine blk_alloc ?_ _)); refine blk_put (cs := #[.int .i64 t242, .int .i64 0]) ?_ 1 _ rfl; (with_reducible repeat (first | refine blk_drewN ?_ _ | refine blk_drew ?_ | refine blk_alloc ?_ _)); refine blk_put (cs := #[.int .i64 0, .int .i64 0]) ?_ 0 _ rfl; (with_reducible repeat (first | refine blk_drewN ?_ _ | refine blk_drew ?_ | refine blk_alloc ?_ _)); exact BK244.out) hb); have n7_ := Aside0.mk (below_step (by repeat (first | (with_reducible first | exact HB.out | apply below_alloc | apply pw_below_drewN | apply below_drew1 | refine below_set ?_ GE223.out | refine below_set ?_ GE238.out | refine below_set ?_ GE244.out) | exact HB.out)) hb); clear HO232; clear HO235; clear HO241; clear BK223; clear BK238; clear BK244; clear HB; have HO232 := n0_; have HO235 := n1_; have HO241 := n2_; have HO251 := n3_; have BK223 := n4_; have BK238 := n5_; have BK244 := n6_; have HB := n7_; clear n0_ n1_ n2_ n3_ n4_ n5_ n6_ n7_; (try clear hb); (try clear hb2); (try clear hk); (try clear hi); (try clear ho0); obtain ⟨Ao49, co49, eo49⟩ := Kd.R_slice HO241.out; subst eo49; obtain ⟨Ao50, co50, eo50⟩ := Kd.R_slice HO251.out; subst eo50) | (go_at_call 11; (with_reducible refine (variorumref09_Same.calls k _ _ t239 _ _ t249 true _ ?side1 ?side2 ?side3 ?side4 A17.out).mono ?_); (case side1 => repeat (first | exact (Kd.R_reads' HO241.out).2.2 | (with_reducible refine Kd.C_alloc ?_ _) | (with_reducible refine Kd.C_drewN ?_ _) | (with_reducible refine Kd.C_drew ?_))); (case side2 => exact (Kd.R_reads' HO241.out).2.1); (case side3 => repeat (first | exact (Kd.R_reads' HO251.out).2.2 | (with_reducible refine Kd.C_alloc ?_ _) | (with_reducible refine Kd.C_drewN ?_ _) | (with_reducible refine Kd.C_drew ?_))); (case side4 => exact (Kd.R_reads' HO251.out).2.1); rintro e w' ⟨rfl, ⟨nd, rfl⟩⟩) | (go_at_call 12; (with_reducible refine (item_May.calls k _ _ t233 true _ ?side1 ?side2 A19.out).mono ?_); (case side1 => repeat (first | exact (Kd.R_reads' HO235.out).2.2 | (with_reducible refine Kd.C_alloc ?_ _) | (with_reducible refine Kd.C_drewN ?_ _) | (with_reducible refine Kd.C_drew ?_))); (case side2 => exact (Kd.R_reads' HO235.out).2.1); rintro e w51 ⟨rfl, hb⟩; have n0_ := Aside0.mk (Kd.N_below (by (with_reducible repeat (first | apply Kd.N_alloc | apply Kd.N_drewN | apply Kd.N_drew)); exact HO232.out) hb); have n1_ := Aside0.mk (Kd.R_below (by (with_reducible repeat (first | apply Kd.R_alloc | apply Kd.R_drewN | apply Kd.R_drew)); exact HO235.out) hb); have n2_ := Aside0.mk (Kd.R_below (by (with_reducible repeat (first | apply Kd.R_alloc | apply Kd.R_drewN | apply Kd.R_drew)); exact HO241.out) hb); have n3_ := Aside0.mk (Kd.R_below (by (with_reducible repeat (first | apply Kd.R_alloc | apply Kd.R_drewN | apply Kd.R_drew)); exact HO251.out) hb); have n4_ := Aside0.mk (blk_below (g := gb223) (o := .cells #[.int .i64 3, .int .i64 1, .int .i64 1, .int .i64 0, .int .i32 0, .slice none 0 0, .slice none 0 0, .slice none 0 0] 28 (0, 0)) (by (with_reducible repeat (first | refine blk_drewN ?_ _ | refine blk_drew ?_ | refine blk_alloc ?_ _)); exact BK223.out) hb); have n5_ := Aside0.mk (blk_below (g := gb238) (o := .cells #[.int .i64 t236, .int .i64 t237] 33 (0, 0)) (by (with_reducible repeat (first | refine blk_drewN ?_ _ | refine blk_drew ?_ | refine blk_alloc ?_ _)); exact BK238.out) hb); have n6_ := Aside0.mk (blk_below (g := gb244) (o := .cells #[.int .i64 t242, .int .i64 t243] 33 (0, 0)) (by (with_reducible repeat (first | refine blk_drewN ?_ _ | refine blk_drew ?_ | refine blk_alloc ?_ _)); exact BK244.out) hb); have n7_ := Aside0.mk (below_step (by repeat (first | (with_reducible first | exact HB.out | apply below_alloc | apply pw_below_drewN | apply below_drew1 | refine below_set ?_ GE223.out | refine below_set ?_ GE238.out | refine below_set ?_ GE244.out) | exact HB.out)) hb); clear HO232; clear HO235; clear HO241; clear HO251; clear BK223; clear BK238; clear BK244; clear HB; have HO232 := n0_; have HO235 := n1_; have HO241 := n2_; have HO251 := n3_; have BK223 := n4_; have BK238 := n5_; have BK244 := n6_; have HB := n7_; clear n0_ n1_ n2_ n3_ n4_ n5_ n6_ n7_; (try clear hb); (try clear hb2); (try clear hk); (try clear hi)) | (go_at_call 14; (with_reducible refine (item_Boxes.calls k _ _ t233 t254 _ ?side1 ?side2 A21.out).mono ?_); (case side1 => repeat (first | exact (Kd.R_reads' HO235.out).2.2 | (with_reducible refine Kd.C_alloc ?_ _) | (with_reducible refine Kd.C_drewN ?_ _) | (with_reducible refine Kd.C_drew ?_))); (case side2 => exact (Kd.R_reads' HO235.out).2.1); rintro e w52 ⟨v255, rfl, ho0, hb⟩; have n0_ := Aside0.mk (Kd.N_elder' (by (with_reducible repeat (first | apply Kd.N_alloc | apply Kd.N_drewN | apply Kd.N_drew)); exact HO232.out) (Kd.R_base ho0) hb); have n1_ := Aside0.mk (Kd.R_elder' (by (with_reducible repeat (first | apply Kd.R_alloc | apply Kd.R_drewN | apply Kd.R_drew)); exact HO235.out) (Kd.R_base ho0) hb); have n2_ := Aside0.mk (Kd.R_elder' (by (with_reducible repeat (first | apply Kd.R_alloc | apply Kd.R_drewN | apply Kd.R_drew)); exact HO241.out) (Kd.R_base ho0) hb); have n3_ := Aside0.mk (Kd.R_elder' (by (with_reducible repeat (first | apply Kd.R_alloc | apply Kd.R_drewN | apply Kd.R_drew)); exact HO251.out) (Kd.R_base ho0) hb); have n4_ := Aside0.mk (Kd.R_lower (Kd.R_new' (Kd.R_new' (Kd.R_new' ho0 (Kd.R_lt (by (with_reducible repeat (first | apply Kd.R_alloc | apply Kd.R_drewN | apply Kd.R_drew)); exact HO235.out))) (Kd.R_lt (by (with_reducible repeat (first | apply Kd.R_alloc | apply Kd.R_drewN | apply Kd.R_drew)); exact HO241.out))) (Kd.R_lt (by (with_reducible repeat (first | apply Kd.R_alloc | apply Kd.R_drewN | apply Kd.R_drew)); exact HO251.out))) (below_size (by repeat (first | (with_reducible first | exact HB.out | apply below_alloc | apply pw_below_drewN | apply below_drew1 | refine below_set ?_ GE223.out | refine below_set ?_ GE238.out | refine below_set ?_ GE244.out) | exact HB.out)))); have n5_ := Aside0.mk (blk_below (g := gb223) (o := .cells #[.int .i64 3, .int .i64 1, .int .i64 1, .int .i64 0, .int .i32 0, .slice none 0 0, .slice none 0 0, .slice none 0 0] 28 (0, 0)) (by (with_reducible repeat (first | refine blk_drewN ?_ _ | refine blk_drew ?_ | refine blk_alloc ?_ _)); exact BK223.out) hb); have n6_ := Aside0.mk (blk_below (g := gb238) (o := .cells #[.int .i64 t236, .int .i64 t237] 33 (0, 0)) (by (with_reducible repeat (first | refine blk_drewN ?_ _ | refine blk_drew ?_ | refine blk_alloc ?_ _)); exact BK238.out) hb); have n7_ := Aside0.mk (blk_below (g := gb244) (o := .cells #[.int .i64 t242, .int .i64 t243] 33 (0, 0)) (by (with_reducible repeat (first | refine blk_drewN ?_ _ | refine blk_drew ?_ | refine blk_alloc ?_ _)); exact BK244.out) hb); have n8_ := Aside0.mk (below_step (by repeat (first | (with_reducible first | exact HB.out | apply below_alloc | apply pw_below_drewN | apply below_drew1 | refine below_set ?_ GE223.out | refine below_set ?_ GE238.out | refine below_set ?_ GE244.out) | exact HB.out)) hb); clear HO232; clear HO235; clear HO241; clear HO251; clear BK223; clear BK238; clear BK244; clear HB; have HO232 := n0_; have HO235 := n1_; have HO241 := n2_; have HO251 := n3_; have HO256 := n4_; have BK223 := n5_; have BK238 := n6_; have BK244 := n7_; have HB := n8_; clear n0_ n1_ n2_ n3_ n4_ n5_ n6_ n7_ n8_; (try clear hb); (try clear hb2); (try clear hk); (try clear hi); (try clear ho0); obtain ⟨Ao53, co53, eo53⟩ := Kd.R_slice HO256.out; subst eo53))
              go_ret
              exact ⟨by first | rfl | (simp [errW_none, errW_some] <;> rfl) | (simp [*, errW_none, errW_some] <;> rfl), by repeat (first | (with_reducible first | exact HB.out | apply below_alloc | apply pw_below_drewN | apply below_drew1 | refine below_set ?_ GE223.out | refine below_set ?_ GE238.out | refine below_set ?_ GE244.out) | exact HB.out)⟩
             ·replace c20 := Bool.eq_false_iff.mpr c20
              subst c20
              have H1 : (none) = some r := by rw [if_neg (show ¬ (false = true) by decide)] at H; exact H
              clear H
              have H := H1
              clear H1
              exact absurd H (by simp)
            ·replace c18 := Bool.eq_false_iff.mpr c18
             subst c18
             have H1 : (none) = some r := by rw [if_neg (show ¬ (false = true) by decide)] at H; exact H
             clear H
             have H := H1
             clear H1
             exact absurd H (by simp)
           ·rw [if_neg c15] at H
            exact absurd H (by simp)
          ·rw [if_neg c14] at H
           exact absurd H (by simp)
         ·rw [if_neg c13] at H
          exact absurd H (by simp)
        ·rw [if_neg c12] at H
         exact absurd H (by simp)
       ·rw [if_neg c11] at H
        exact absurd H (by simp)
      ·rw [if_neg c10] at H
       exact absurd H (by simp)
     ·rw [if_neg c9] at H
      exact absurd H (by simp)
    ·rw [if_neg c8] at H
     exact absurd H (by simp)
   ·rw [if_neg c7] at H
    exact absurd H (by simp)
  ·rw [if_neg c6] at H
   exact absurd H (by simp)
 ·rw [if_neg c5] at H
  exact absurd H (by simp)

end Go.Proofs.Ytbdaaiagpknaoaa.PUb

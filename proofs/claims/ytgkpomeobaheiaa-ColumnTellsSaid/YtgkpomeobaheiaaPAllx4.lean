/- Written by a program of this session: functions of the given program as plain Lean functions, the walks that show it, and the row of each law, for every input that its statement speaks of. -/
import Derived.Test.YtgkpomeobaheiaaPAllx0
import Derived.Test.YtgkpomeobaheiaaPAllx1
import Derived.Test.YtgkpomeobaheiaaPAllx2
import Derived.Test.YtgkpomeobaheiaaPAllx3
namespace Go.Proofs.Ytgkpomeobaheiaa.PAll
open Go.RowKit Go.Proofs.YtgkpomeobaheiaaW.PrintWords Go.Proofs.YtgkpomeobaheiaaW.PrintLast Go.Proofs.YtgkpomeobaheiaaW.PrintMore
attribute [local go_sem] max2_int min2_int max_two min_two max_three min_three max_four min_four   -- for this text's walks alone
set_option linter.unusedVariables false
set_option linter.unusedSimpArgs false

/-! ### variorumlaw19_ColumnTells: function 3 -/
def variorumlaw19_ColumnTells.f (k : Nat) (l0 : List Int) (a1 : Int) (a2 : Int) : Option (Bool) := if (l0.length : Int) > 60 then ((variorumlaw19_fixed.f k).bind fun t191 => (some t191)) else ((column_Least.f k l0 a1).bind fun bt192 => ((variorumref19_Least.f k l0 a1).bind fun bt194 => ((column_Fill.f k l0 a1 a2).bind fun bt196 => ((variorumref19_Fill.f k l0 a1 a2).bind fun bt200 => ((column_Balance.f k l0 a1).bind fun bt204 => ((variorumref19_Balance.f k l0 a1).bind fun bt209 => ((variorumlaw19_fixed.f k).bind fun t214 => (if t214 = true then (if bt192.1 = bt194.1 then (if (bt192.2 == bt194.2) = true then ((variorumref04_Ints.f k bt196.1 bt200.1).bind fun t215 => (if t215 = true then (if (bt196.2 == bt200.2) = true then ((variorumref04_Ints.f k bt204.1 bt209.1).bind fun t216 => (if t216 = true then (if bt204.2.1 = bt209.2.1 then (if (bt204.2.2 == bt209.2.2) = true then ((column_May.f k l0 a1).bind fun t217 => ((variorumref19_May.f k l0 a1).bind fun t218 => (some (t217 == t218)))) else (none)) else (none)) else (none))) else (none)) else (none))) else (none)) else (none)) else (none)))))))))
theorem variorumlaw19_ColumnTells.mono : ∀ a0 a1 a2 k, LeO (variorumlaw19_ColumnTells.f k a0 a1 a2) (variorumlaw19_ColumnTells.f (k + 1) a0 a1 a2) := by
  intro a0 a1 a2 k
  unfold variorumlaw19_ColumnTells.f
  repeat' first
      | (with_reducible exact column_Balance.mono _ _ _)
      | (with_reducible exact column_Fill.mono _ _ _ _)
      | (with_reducible exact column_Least.mono _ _ _)
      | (with_reducible exact column_May.mono _ _ _)
      | (with_reducible exact variorumlaw19_fixed.mono _)
      | (with_reducible exact variorumref04_Ints.mono _ _ _)
      | (with_reducible exact variorumref19_Balance.mono _ _ _)
      | (with_reducible exact variorumref19_Fill.mono _ _ _ _)
      | (with_reducible exact variorumref19_Least.mono _ _ _)
      | (with_reducible exact variorumref19_May.mono _ _ _)
      | (with_reducible exact LeO.refl _)
      | (with_reducible exact LeO.none _)
      | (with_reducible refine LeO.ite ?_ ?_)
      | (with_reducible refine LeO.bind ?_ (fun _ => ?_))
      | exact column_Balance.mono _ _ _
      | exact column_Fill.mono _ _ _ _
      | exact column_Least.mono _ _ _
      | exact column_May.mono _ _ _
      | exact variorumlaw19_fixed.mono _
      | exact variorumref04_Ints.mono _ _ _
      | exact variorumref19_Balance.mono _ _ _
      | exact variorumref19_Fill.mono _ _ _ _
      | exact variorumref19_Least.mono _ _ _
      | exact variorumref19_May.mono _ _ _
      | exact LeO.none _
      | refine LeO.ite ?_ ?_
      | refine LeO.bind ?_ (fun _ => ?_)
set_option maxHeartbeats 8000000 in
set_option maxRecDepth 100000 in
theorem variorumlaw19_ColumnTells.calls (k : Nat) (A0 : Option Addr) (c0 : Nat) (l0 : List Int) (a1 : Int) (a2 : Int) (r : Bool) (w : World) (hr0 : Kd.C (Kd.int .i64) w A0 l0.length l0) (hc0 : l0.length ≤ c0) (h : variorumlaw19_ColumnTells.f k l0 a1 a2 = some r) :
    Calls Try.prog 3 #[.slice A0 l0.length c0, .int .i64 a1, .int .i64 a2] w fun e w' => e = .returned (.bool r) ∧ Below w.heap.size w w' := by
  have HR0 := Aside0.mk hr0
  have HC0 := Aside0.mk hc0
  clear hr0 hc0
  have HB := Aside0.mk (Below.refl w.heap.size w)
  have H : (if (l0.length : Int) > 60 then ((variorumlaw19_fixed.f k).bind fun t191 => (some t191)) else ((column_Least.f k l0 a1).bind fun bt192 => ((variorumref19_Least.f k l0 a1).bind fun bt194 => ((column_Fill.f k l0 a1 a2).bind fun bt196 => ((variorumref19_Fill.f k l0 a1 a2).bind fun bt200 => ((column_Balance.f k l0 a1).bind fun bt204 => ((variorumref19_Balance.f k l0 a1).bind fun bt209 => ((variorumlaw19_fixed.f k).bind fun t214 => (if t214 = true then (if bt192.1 = bt194.1 then (if (bt192.2 == bt194.2) = true then ((variorumref04_Ints.f k bt196.1 bt200.1).bind fun t215 => (if t215 = true then (if (bt196.2 == bt200.2) = true then ((variorumref04_Ints.f k bt204.1 bt209.1).bind fun t216 => (if t216 = true then (if bt204.2.1 = bt209.2.1 then (if (bt204.2.2 == bt209.2.2) = true then ((column_May.f k l0 a1).bind fun t217 => ((variorumref19_May.f k l0 a1).bind fun t218 => (some (t217 == t218)))) else (none)) else (none)) else (none))) else (none)) else (none))) else (none)) else (none)) else (none)))))))))) = some r := h
  clear h
  by_cases c4 : (l0.length : Int) > 60
  · rw [if_pos c4] at H
    have c4b0 : decide (60 < (l0.length : Int)) = true := decide_eq_true c4
    have c4b1 : decide (60 < l0.length) = true := decide_eq_true (by omega)
    clear c4
    replace H := Option.bind_eq_some_iff.mp H
    obtain ⟨t191, A50, H⟩ := H
    replace H : (some t191) = some r := H
    have A5 := Aside0.mk A50
    clear A50
    obtain rfl := Option.some.inj H
    go_enter Try.func3, Try.ntmps3
    go_wp2_with (first | ((with_reducible refine gate_callee (f := 7) rfl ?_); refine goesL_ (some 24) rfl rfl Try.func7 (by kernel_rfl) rfl #[] rfl (by (try simp only [List.map_toArray, List.map_cons, List.map_nil]); first | done | rfl | (simp only [List.length_drop, List.length_take]; rfl) | (simp only [*]; first | done | rfl)) ?_; (with_reducible refine (variorumlaw19_fixed.calls k  t191 _ A5.out).mono ?_); rintro e w6 ⟨rfl, hb⟩; refine ⟨_, rfl, ?_⟩; have n0_ := Aside0.mk (below_step (by repeat (first | (with_reducible first | exact HB.out | apply below_alloc | apply pw_below_drewN | apply below_drew1) | exact HB.out)) hb); clear HB; have HB := n0_; clear n0_; (try clear hb); (try clear hb2); (try clear hk); (try clear hi)))
    go_ret
    exact ⟨by first | rfl | (simp [errW_none, errW_some] <;> rfl) | (simp [*, errW_none, errW_some] <;> rfl), by repeat (first | (with_reducible first | exact HB.out | apply below_alloc | apply pw_below_drewN | apply below_drew1) | exact HB.out)⟩
  · rw [if_neg c4] at H
    have c4b0 : decide (60 < (l0.length : Int)) = false := decide_eq_false c4
    have c4b1 : decide (60 < l0.length) = false := decide_eq_false (by omega)
    clear c4
    replace H := Option.bind_eq_some_iff.mp H
    obtain ⟨⟨t192, t193⟩, A70, H⟩ := H
    replace H : ((variorumref19_Least.f k l0 a1).bind fun bt194 => ((column_Fill.f k l0 a1 a2).bind fun bt196 => ((variorumref19_Fill.f k l0 a1 a2).bind fun bt200 => ((column_Balance.f k l0 a1).bind fun bt204 => ((variorumref19_Balance.f k l0 a1).bind fun bt209 => ((variorumlaw19_fixed.f k).bind fun t214 => (if t214 = true then (if t192 = bt194.1 then (if (t193 == bt194.2) = true then ((variorumref04_Ints.f k bt196.1 bt200.1).bind fun t215 => (if t215 = true then (if (bt196.2 == bt200.2) = true then ((variorumref04_Ints.f k bt204.1 bt209.1).bind fun t216 => (if t216 = true then (if bt204.2.1 = bt209.2.1 then (if (bt204.2.2 == bt209.2.2) = true then ((column_May.f k l0 a1).bind fun t217 => ((variorumref19_May.f k l0 a1).bind fun t218 => (some (t217 == t218)))) else (none)) else (none)) else (none))) else (none)) else (none))) else (none)) else (none)) else (none)))))))) = some r := H
    have A7 := Aside0.mk A70
    clear A70
    replace H := Option.bind_eq_some_iff.mp H
    obtain ⟨⟨t194, t195⟩, A80, H⟩ := H
    replace H : ((column_Fill.f k l0 a1 a2).bind fun bt196 => ((variorumref19_Fill.f k l0 a1 a2).bind fun bt200 => ((column_Balance.f k l0 a1).bind fun bt204 => ((variorumref19_Balance.f k l0 a1).bind fun bt209 => ((variorumlaw19_fixed.f k).bind fun t214 => (if t214 = true then (if t192 = t194 then (if (t193 == t195) = true then ((variorumref04_Ints.f k bt196.1 bt200.1).bind fun t215 => (if t215 = true then (if (bt196.2 == bt200.2) = true then ((variorumref04_Ints.f k bt204.1 bt209.1).bind fun t216 => (if t216 = true then (if bt204.2.1 = bt209.2.1 then (if (bt204.2.2 == bt209.2.2) = true then ((column_May.f k l0 a1).bind fun t217 => ((variorumref19_May.f k l0 a1).bind fun t218 => (some (t217 == t218)))) else (none)) else (none)) else (none))) else (none)) else (none))) else (none)) else (none)) else (none))))))) = some r := H
    have A8 := Aside0.mk A80
    clear A80
    replace H := Option.bind_eq_some_iff.mp H
    obtain ⟨⟨t196, t197⟩, A90, H⟩ := H
    replace H : ((variorumref19_Fill.f k l0 a1 a2).bind fun bt200 => ((column_Balance.f k l0 a1).bind fun bt204 => ((variorumref19_Balance.f k l0 a1).bind fun bt209 => ((variorumlaw19_fixed.f k).bind fun t214 => (if t214 = true then (if t192 = t194 then (if (t193 == t195) = true then ((variorumref04_Ints.f k t196 bt200.1).bind fun t215 => (if t215 = true then (if (t197 == bt200.2) = true then ((variorumref04_Ints.f k bt204.1 bt209.1).bind fun t216 => (if t216 = true then (if bt204.2.1 = bt209.2.1 then (if (bt204.2.2 == bt209.2.2) = true then ((column_May.f k l0 a1).bind fun t217 => ((variorumref19_May.f k l0 a1).bind fun t218 => (some (t217 == t218)))) else (none)) else (none)) else (none))) else (none)) else (none))) else (none)) else (none)) else (none)))))) = some r := H
    have A9 := Aside0.mk A90
    clear A90
    replace H := Option.bind_eq_some_iff.mp H
    obtain ⟨⟨t200, t201⟩, A100, H⟩ := H
    replace H : ((column_Balance.f k l0 a1).bind fun bt204 => ((variorumref19_Balance.f k l0 a1).bind fun bt209 => ((variorumlaw19_fixed.f k).bind fun t214 => (if t214 = true then (if t192 = t194 then (if (t193 == t195) = true then ((variorumref04_Ints.f k t196 t200).bind fun t215 => (if t215 = true then (if (t197 == t201) = true then ((variorumref04_Ints.f k bt204.1 bt209.1).bind fun t216 => (if t216 = true then (if bt204.2.1 = bt209.2.1 then (if (bt204.2.2 == bt209.2.2) = true then ((column_May.f k l0 a1).bind fun t217 => ((variorumref19_May.f k l0 a1).bind fun t218 => (some (t217 == t218)))) else (none)) else (none)) else (none))) else (none)) else (none))) else (none)) else (none)) else (none))))) = some r := H
    have A10 := Aside0.mk A100
    clear A100
    replace H := Option.bind_eq_some_iff.mp H
    obtain ⟨⟨t204, t205, t206⟩, A110, H⟩ := H
    replace H : ((variorumref19_Balance.f k l0 a1).bind fun bt209 => ((variorumlaw19_fixed.f k).bind fun t214 => (if t214 = true then (if t192 = t194 then (if (t193 == t195) = true then ((variorumref04_Ints.f k t196 t200).bind fun t215 => (if t215 = true then (if (t197 == t201) = true then ((variorumref04_Ints.f k t204 bt209.1).bind fun t216 => (if t216 = true then (if t205 = bt209.2.1 then (if (t206 == bt209.2.2) = true then ((column_May.f k l0 a1).bind fun t217 => ((variorumref19_May.f k l0 a1).bind fun t218 => (some (t217 == t218)))) else (none)) else (none)) else (none))) else (none)) else (none))) else (none)) else (none)) else (none)))) = some r := H
    have A11 := Aside0.mk A110
    clear A110
    replace H := Option.bind_eq_some_iff.mp H
    obtain ⟨⟨t209, t210, t211⟩, A120, H⟩ := H
    replace H : ((variorumlaw19_fixed.f k).bind fun t214 => (if t214 = true then (if t192 = t194 then (if (t193 == t195) = true then ((variorumref04_Ints.f k t196 t200).bind fun t215 => (if t215 = true then (if (t197 == t201) = true then ((variorumref04_Ints.f k t204 t209).bind fun t216 => (if t216 = true then (if t205 = t210 then (if (t206 == t211) = true then ((column_May.f k l0 a1).bind fun t217 => ((variorumref19_May.f k l0 a1).bind fun t218 => (some (t217 == t218)))) else (none)) else (none)) else (none))) else (none)) else (none))) else (none)) else (none)) else (none))) = some r := H
    have A12 := Aside0.mk A120
    clear A120
    replace H := Option.bind_eq_some_iff.mp H
    obtain ⟨t214, A130, H⟩ := H
    replace H : (if t214 = true then (if t192 = t194 then (if (t193 == t195) = true then ((variorumref04_Ints.f k t196 t200).bind fun t215 => (if t215 = true then (if (t197 == t201) = true then ((variorumref04_Ints.f k t204 t209).bind fun t216 => (if t216 = true then (if t205 = t210 then (if (t206 == t211) = true then ((column_May.f k l0 a1).bind fun t217 => ((variorumref19_May.f k l0 a1).bind fun t218 => (some (t217 == t218)))) else (none)) else (none)) else (none))) else (none)) else (none))) else (none)) else (none)) else (none)) = some r := H
    have A13 := Aside0.mk A130
    clear A130
    by_cases c14 : t214 = true
    · subst c14
      have H1 : (if t192 = t194 then (if (t193 == t195) = true then ((variorumref04_Ints.f k t196 t200).bind fun t215 => (if t215 = true then (if (t197 == t201) = true then ((variorumref04_Ints.f k t204 t209).bind fun t216 => (if t216 = true then (if t205 = t210 then (if (t206 == t211) = true then ((column_May.f k l0 a1).bind fun t217 => ((variorumref19_May.f k l0 a1).bind fun t218 => (some (t217 == t218)))) else (none)) else (none)) else (none))) else (none)) else (none))) else (none)) else (none)) = some r := by rw [if_pos rfl] at H; exact H
      clear H
      have H := H1
      clear H1
      by_cases c15 : t192 = t194
      · rw [if_pos c15] at H
        have c15b0 : (t192 == t194) = true := beq_iff_eq.mpr c15
        have c15b1 : (t192 != t194) = false := bne_eq_false_iff_eq.mpr c15
        clear c15
        by_cases c16 : (t193 == t195) = true
        · rw [if_pos c16] at H
          have c16b0 : (t193 == t195) = true := c16
          (try (have c16b1 : decide (t193 = t195) = true := by simpa using c16))
          (try (have c16b2 : (t193 == t195) = true := by simpa using c16))
          clear c16
          replace H := Option.bind_eq_some_iff.mp H
          obtain ⟨t215, A170, H⟩ := H
          replace H : (if t215 = true then (if (t197 == t201) = true then ((variorumref04_Ints.f k t204 t209).bind fun t216 => (if t216 = true then (if t205 = t210 then (if (t206 == t211) = true then ((column_May.f k l0 a1).bind fun t217 => ((variorumref19_May.f k l0 a1).bind fun t218 => (some (t217 == t218)))) else (none)) else (none)) else (none))) else (none)) else (none)) = some r := H
          have A17 := Aside0.mk A170
          clear A170
          by_cases c18 : t215 = true
          · subst c18
            have H1 : (if (t197 == t201) = true then ((variorumref04_Ints.f k t204 t209).bind fun t216 => (if t216 = true then (if t205 = t210 then (if (t206 == t211) = true then ((column_May.f k l0 a1).bind fun t217 => ((variorumref19_May.f k l0 a1).bind fun t218 => (some (t217 == t218)))) else (none)) else (none)) else (none))) else (none)) = some r := by rw [if_pos rfl] at H; exact H
            clear H
            have H := H1
            clear H1
            by_cases c19 : (t197 == t201) = true
            · rw [if_pos c19] at H
              have c19b0 : (t197 == t201) = true := c19
              (try (have c19b1 : decide (t197 = t201) = true := by simpa using c19))
              (try (have c19b2 : (t197 == t201) = true := by simpa using c19))
              clear c19
              replace H := Option.bind_eq_some_iff.mp H
              obtain ⟨t216, A200, H⟩ := H
              replace H : (if t216 = true then (if t205 = t210 then (if (t206 == t211) = true then ((column_May.f k l0 a1).bind fun t217 => ((variorumref19_May.f k l0 a1).bind fun t218 => (some (t217 == t218)))) else (none)) else (none)) else (none)) = some r := H
              have A20 := Aside0.mk A200
              clear A200
              by_cases c21 : t216 = true
              · subst c21
                have H1 : (if t205 = t210 then (if (t206 == t211) = true then ((column_May.f k l0 a1).bind fun t217 => ((variorumref19_May.f k l0 a1).bind fun t218 => (some (t217 == t218)))) else (none)) else (none)) = some r := by rw [if_pos rfl] at H; exact H
                clear H
                have H := H1
                clear H1
                by_cases c22 : t205 = t210
                · rw [if_pos c22] at H
                  have c22b0 : (t205 == t210) = true := beq_iff_eq.mpr c22
                  have c22b1 : (t205 != t210) = false := bne_eq_false_iff_eq.mpr c22
                  clear c22
                  by_cases c23 : (t206 == t211) = true
                  · rw [if_pos c23] at H
                    have c23b0 : (t206 == t211) = true := c23
                    (try (have c23b1 : decide (t206 = t211) = true := by simpa using c23))
                    (try (have c23b2 : (t206 == t211) = true := by simpa using c23))
                    clear c23
                    replace H := Option.bind_eq_some_iff.mp H
                    obtain ⟨t217, A240, H⟩ := H
                    replace H : ((variorumref19_May.f k l0 a1).bind fun t218 => (some (t217 == t218))) = some r := H
                    have A24 := Aside0.mk A240
                    clear A240
                    replace H := Option.bind_eq_some_iff.mp H
                    obtain ⟨t218, A250, H⟩ := H
                    replace H : (some (t217 == t218)) = some r := H
                    have A25 := Aside0.mk A250
                    clear A250
                    obtain rfl := Option.some.inj H
                    go_enter Try.func3, Try.ntmps3
                    go_wp2_with (first | ((with_reducible refine gate_callee (f := 8) rfl ?_); refine goesL_ (some 28) rfl rfl Try.func8 (by kernel_rfl) rfl #[.slice A0 l0.length c0, .int .i64 a1] rfl (by (try simp only [List.map_toArray, List.map_cons, List.map_nil]); first | done | rfl | (simp only [List.length_drop, List.length_take]; rfl) | (simp only [*]; first | done | rfl)) ?_; (with_reducible refine (column_Least.calls k _ _ l0 a1 t192 t193 _ ?side1 ?side2 A7.out).mono ?_); (case side1 => repeat (first | exact HR0.out | (with_reducible refine Kd.C_alloc ?_ _) | (with_reducible refine Kd.C_drewN ?_ _) | (with_reducible refine Kd.C_drew ?_))); (case side2 => exact HC0.out); rintro e w26 ⟨rfl, hb⟩; refine ⟨_, rfl, ?_⟩; have n0_ := Aside0.mk (below_step (by repeat (first | (with_reducible first | exact HB.out | apply below_alloc | apply pw_below_drewN | apply below_drew1) | exact HB.out)) hb); clear HB; have HB := n0_; clear n0_; (try clear hb); (try clear hb2); (try clear hk); (try clear hi)) | ((with_reducible refine gate_callee (f := 9) rfl ?_); refine goesL_ (some 34) rfl rfl Try.func9 (by kernel_rfl) rfl #[.slice A0 l0.length c0, .int .i64 a1] rfl (by (try simp only [List.map_toArray, List.map_cons, List.map_nil]); first | done | rfl | (simp only [List.length_drop, List.length_take]; rfl) | (simp only [*]; first | done | rfl)) ?_; (with_reducible refine (variorumref19_Least.calls k _ _ l0 a1 t194 t195 _ ?side1 ?side2 A8.out).mono ?_); (case side1 => repeat (first | exact (Kd.C_below HR0.out HB.out) | (with_reducible refine Kd.C_alloc ?_ _) | (with_reducible refine Kd.C_drewN ?_ _) | (with_reducible refine Kd.C_drew ?_))); (case side2 => exact HC0.out); rintro e w27 ⟨rfl, hb⟩; refine ⟨_, rfl, ?_⟩; have n0_ := Aside0.mk (below_step (by repeat (first | (with_reducible first | exact HB.out | apply below_alloc | apply pw_below_drewN | apply below_drew1) | exact HB.out)) hb); clear HB; have HB := n0_; clear n0_; (try clear hb); (try clear hb2); (try clear hk); (try clear hi)) | ((with_reducible refine gate_callee (f := 10) rfl ?_); refine goesL_ (some 41) rfl rfl Try.func10 (by kernel_rfl) rfl #[.slice A0 l0.length c0, .int .i64 a1, .int .i64 a2] rfl (by (try simp only [List.map_toArray, List.map_cons, List.map_nil]); first | done | rfl | (simp only [List.length_drop, List.length_take]; rfl) | (simp only [*]; first | done | rfl)) ?_; (with_reducible refine (column_Fill.calls k _ _ l0 a1 a2 t196 t197 _ ?side1 ?side2 A9.out).mono ?_); (case side1 => repeat (first | exact (Kd.C_below HR0.out HB.out) | (with_reducible refine Kd.C_alloc ?_ _) | (with_reducible refine Kd.C_drewN ?_ _) | (with_reducible refine Kd.C_drew ?_))); (case side2 => exact HC0.out); rintro e w28 ⟨v198, rfl, ho0, hb⟩; refine ⟨_, rfl, ?_⟩; have n0_ := Aside0.mk (Kd.R_lower ho0 (below_size (by repeat (first | (with_reducible first | exact HB.out | apply below_alloc | apply pw_below_drewN | apply below_drew1) | exact HB.out)))); have n1_ := Aside0.mk (below_step (by repeat (first | (with_reducible first | exact HB.out | apply below_alloc | apply pw_below_drewN | apply below_drew1) | exact HB.out)) hb); clear HB; have HO199 := n0_; have HB := n1_; clear n0_ n1_; (try clear hb); (try clear hb2); (try clear hk); (try clear hi); (try clear ho0)) | ((with_reducible refine gate_callee (f := 11) rfl ?_); refine goesL_ (some 48) rfl rfl Try.func11 (by kernel_rfl) rfl #[.slice A0 l0.length c0, .int .i64 a1, .int .i64 a2] rfl (by (try simp only [List.map_toArray, List.map_cons, List.map_nil]); first | done | rfl | (simp only [List.length_drop, List.length_take]; rfl) | (simp only [*]; first | done | rfl)) ?_; (with_reducible refine (variorumref19_Fill.calls k _ _ l0 a1 a2 t200 t201 _ ?side1 ?side2 A10.out).mono ?_); (case side1 => repeat (first | exact (Kd.C_below HR0.out HB.out) | (with_reducible refine Kd.C_alloc ?_ _) | (with_reducible refine Kd.C_drewN ?_ _) | (with_reducible refine Kd.C_drew ?_))); (case side2 => exact HC0.out); rintro e w29 ⟨v202, rfl, ho0, hb⟩; refine ⟨_, rfl, ?_⟩; have n0_ := Aside0.mk (Kd.R_elder' (by (with_reducible repeat (first | apply Kd.R_alloc | apply Kd.R_drewN | apply Kd.R_drew)); exact HO199.out) (Kd.R_base ho0) hb); have n1_ := Aside0.mk (Kd.R_lower (Kd.R_new' ho0 (Kd.R_lt (by (with_reducible repeat (first | apply Kd.R_alloc | apply Kd.R_drewN | apply Kd.R_drew)); exact HO199.out))) (below_size (by repeat (first | (with_reducible first | exact HB.out | apply below_alloc | apply pw_below_drewN | apply below_drew1) | exact HB.out)))); have n2_ := Aside0.mk (below_step (by repeat (first | (with_reducible first | exact HB.out | apply below_alloc | apply pw_below_drewN | apply below_drew1) | exact HB.out)) hb); clear HO199; clear HB; have HO199 := n0_; have HO203 := n1_; have HB := n2_; clear n0_ n1_ n2_; (try clear hb); (try clear hb2); (try clear hk); (try clear hi); (try clear ho0)) | ((with_reducible refine gate_callee (f := 12) rfl ?_); refine goesL_ (some 54) rfl rfl Try.func12 (by kernel_rfl) rfl #[.slice A0 l0.length c0, .int .i64 a1] rfl (by (try simp only [List.map_toArray, List.map_cons, List.map_nil]); first | done | rfl | (simp only [List.length_drop, List.length_take]; rfl) | (simp only [*]; first | done | rfl)) ?_; (with_reducible refine (column_Balance.calls k _ _ l0 a1 t204 t205 t206 _ ?side1 ?side2 A11.out).mono ?_); (case side1 => repeat (first | exact (Kd.C_below HR0.out HB.out) | (with_reducible refine Kd.C_alloc ?_ _) | (with_reducible refine Kd.C_drewN ?_ _) | (with_reducible refine Kd.C_drew ?_))); (case side2 => exact HC0.out); rintro e w30 ⟨v207, rfl, ho0, hb⟩; refine ⟨_, rfl, ?_⟩; have n0_ := Aside0.mk (Kd.R_elder' (by (with_reducible repeat (first | apply Kd.R_alloc | apply Kd.R_drewN | apply Kd.R_drew)); exact HO199.out) (Kd.R_base ho0) hb); have n1_ := Aside0.mk (Kd.R_elder' (by (with_reducible repeat (first | apply Kd.R_alloc | apply Kd.R_drewN | apply Kd.R_drew)); exact HO203.out) (Kd.R_base ho0) hb); have n2_ := Aside0.mk (Kd.R_lower (Kd.R_new' (Kd.R_new' ho0 (Kd.R_lt (by (with_reducible repeat (first | apply Kd.R_alloc | apply Kd.R_drewN | apply Kd.R_drew)); exact HO199.out))) (Kd.R_lt (by (with_reducible repeat (first | apply Kd.R_alloc | apply Kd.R_drewN | apply Kd.R_drew)); exact HO203.out))) (below_size (by repeat (first | (with_reducible first | exact HB.out | apply below_alloc | apply pw_below_drewN | apply below_drew1) | exact HB.out)))); have n3_ := Aside0.mk (below_step (by repeat (first | (with_reducible first | exact HB.out | apply below_alloc | apply pw_below_drewN | apply below_drew1) | exact HB.out)) hb); clear HO199; clear HO203; clear HB; have HO199 := n0_; have HO203 := n1_; have HO208 := n2_; have HB := n3_; clear n0_ n1_ n2_ n3_; (try clear hb); (try clear hb2); (try clear hk); (try clear hi); (try clear ho0)) | ((with_reducible refine gate_callee (f := 13) rfl ?_); refine goesL_ (some 61) rfl rfl Try.func13 (by kernel_rfl) rfl #[.slice A0 l0.length c0, .int .i64 a1] rfl (by (try simp only [List.map_toArray, List.map_cons, List.map_nil]); first | done | rfl | (simp only [List.length_drop, List.length_take]; rfl) | (simp only [*]; first | done | rfl)) ?_; (with_reducible refine (variorumref19_Balance.calls k _ _ l0 a1 t209 t210 t211 _ ?side1 ?side2 A12.out).mono ?_); (case side1 => repeat (first | exact (Kd.C_below HR0.out HB.out) | (with_reducible refine Kd.C_alloc ?_ _) | (with_reducible refine Kd.C_drewN ?_ _) | (with_reducible refine Kd.C_drew ?_))); (case side2 => exact HC0.out); rintro e w31 ⟨v212, rfl, ho0, hb⟩; refine ⟨_, rfl, ?_⟩; have n0_ := Aside0.mk (Kd.R_elder' (by (with_reducible repeat (first | apply Kd.R_alloc | apply Kd.R_drewN | apply Kd.R_drew)); exact HO199.out) (Kd.R_base ho0) hb); have n1_ := Aside0.mk (Kd.R_elder' (by (with_reducible repeat (first | apply Kd.R_alloc | apply Kd.R_drewN | apply Kd.R_drew)); exact HO203.out) (Kd.R_base ho0) hb); have n2_ := Aside0.mk (Kd.R_elder' (by (with_reducible repeat (first | apply Kd.R_alloc | apply Kd.R_drewN | apply Kd.R_drew)); exact HO208.out) (Kd.R_base ho0) hb); have n3_ := Aside0.mk (Kd.R_lower (Kd.R_new' (Kd.R_new' (Kd.R_new' ho0 (Kd.R_lt (by (with_reducible repeat (first | apply Kd.R_alloc | apply Kd.R_drewN | apply Kd.R_drew)); exact HO199.out))) (Kd.R_lt (by (with_reducible repeat (first | apply Kd.R_alloc | apply Kd.R_drewN | apply Kd.R_drew)); exact HO203.out))) (Kd.R_lt (by (with_reducible repeat (first | apply Kd.R_alloc | apply Kd.R_drewN | apply Kd.R_drew)); exact HO208.out))) (below_size (by repeat (first | (with_reducible first | exact HB.out | apply below_alloc | apply pw_below_drewN | apply below_drew1) | exact HB.out)))); have n4_ := Aside0.mk (below_step (by repeat (first | (with_reducible first | exact HB.out | apply below_alloc | apply pw_below_drewN | apply below_drew1) | exact HB.out)) hb); clear HO199; clear HO203; clear HO208; clear HB; have HO199 := n0_; have HO203 := n1_; have HO208 := n2_; have HO213 := n3_; have HB := n4_; clear n0_ n1_ n2_ n3_ n4_; (try clear hb); (try clear hb2); (try clear hk); (try clear hi); (try clear ho0)) | ((with_reducible refine gate_callee (f := 7) rfl ?_); refine goesL_ (some 65) rfl rfl Try.func7 (by kernel_rfl) rfl #[] rfl (by (try simp only [List.map_toArray, List.map_cons, List.map_nil]); first | done | rfl | (simp only [List.length_drop, List.length_take]; rfl) | (simp only [*]; first | done | rfl)) ?_; (with_reducible refine (variorumlaw19_fixed.calls k  true _ A13.out).mono ?_); rintro e w32 ⟨rfl, hb⟩; refine ⟨_, rfl, ?_⟩; have n0_ := Aside0.mk (Kd.R_below (by (with_reducible repeat (first | apply Kd.R_alloc | apply Kd.R_drewN | apply Kd.R_drew)); exact HO199.out) hb); have n1_ := Aside0.mk (Kd.R_below (by (with_reducible repeat (first | apply Kd.R_alloc | apply Kd.R_drewN | apply Kd.R_drew)); exact HO203.out) hb); have n2_ := Aside0.mk (Kd.R_below (by (with_reducible repeat (first | apply Kd.R_alloc | apply Kd.R_drewN | apply Kd.R_drew)); exact HO208.out) hb); have n3_ := Aside0.mk (Kd.R_below (by (with_reducible repeat (first | apply Kd.R_alloc | apply Kd.R_drewN | apply Kd.R_drew)); exact HO213.out) hb); have n4_ := Aside0.mk (below_step (by repeat (first | (with_reducible first | exact HB.out | apply below_alloc | apply pw_below_drewN | apply below_drew1) | exact HB.out)) hb); clear HO199; clear HO203; clear HO208; clear HO213; clear HB; have HO199 := n0_; have HO203 := n1_; have HO208 := n2_; have HO213 := n3_; have HB := n4_; clear n0_ n1_ n2_ n3_ n4_; (try clear hb); (try clear hb2); (try clear hk); (try clear hi); obtain ⟨Ao33, co33, eo33⟩ := Kd.R_slice HO199.out; subst eo33; obtain ⟨Ao34, co34, eo34⟩ := Kd.R_slice HO203.out; subst eo34) | (go_at_call 14; (with_reducible refine (variorumref04_Ints.calls k _ _ t196 _ _ t200 true _ ?side1 ?side2 ?side3 ?side4 A17.out).mono ?_); (case side1 => repeat (first | exact (Kd.R_reads' HO199.out).2.2 | (with_reducible refine Kd.C_alloc ?_ _) | (with_reducible refine Kd.C_drewN ?_ _) | (with_reducible refine Kd.C_drew ?_))); (case side2 => exact (Kd.R_reads' HO199.out).2.1); (case side3 => repeat (first | exact (Kd.R_reads' HO203.out).2.2 | (with_reducible refine Kd.C_alloc ?_ _) | (with_reducible refine Kd.C_drewN ?_ _) | (with_reducible refine Kd.C_drew ?_))); (case side4 => exact (Kd.R_reads' HO203.out).2.1); rintro e w' ⟨rfl, ⟨nd, rfl⟩⟩; obtain ⟨Ao35, co35, eo35⟩ := Kd.R_slice HO208.out; subst eo35; obtain ⟨Ao36, co36, eo36⟩ := Kd.R_slice HO213.out; subst eo36) | (go_at_call 14; (with_reducible refine (variorumref04_Ints.calls k _ _ t204 _ _ t209 true _ ?side1 ?side2 ?side3 ?side4 A20.out).mono ?_); (case side1 => repeat (first | exact (Kd.R_reads' HO208.out).2.2 | (with_reducible refine Kd.C_alloc ?_ _) | (with_reducible refine Kd.C_drewN ?_ _) | (with_reducible refine Kd.C_drew ?_))); (case side2 => exact (Kd.R_reads' HO208.out).2.1); (case side3 => repeat (first | exact (Kd.R_reads' HO213.out).2.2 | (with_reducible refine Kd.C_alloc ?_ _) | (with_reducible refine Kd.C_drewN ?_ _) | (with_reducible refine Kd.C_drew ?_))); (case side4 => exact (Kd.R_reads' HO213.out).2.1); rintro e w' ⟨rfl, ⟨nd, rfl⟩⟩) | (go_at_call 15; (with_reducible refine (column_May.calls k _ _ l0 a1 t217 _ ?side1 ?side2 A24.out).mono ?_); (case side1 => repeat (first | exact (Kd.C_below HR0.out (by repeat (first | (with_reducible first | exact HB.out | apply below_alloc | apply pw_below_drewN | apply below_drew1) | exact HB.out))) | (with_reducible refine Kd.C_alloc ?_ _) | (with_reducible refine Kd.C_drewN ?_ _) | (with_reducible refine Kd.C_drew ?_))); (case side2 => exact HC0.out); rintro e w' ⟨rfl, ⟨nd, rfl⟩⟩) | (go_at_call 16; (with_reducible refine (variorumref19_May.calls k _ _ l0 a1 t218 _ ?side1 ?side2 A25.out).mono ?_); (case side1 => repeat (first | exact (Kd.C_below HR0.out (by repeat (first | (with_reducible first | exact HB.out | apply below_alloc | apply pw_below_drewN | apply below_drew1) | exact HB.out))) | (with_reducible refine Kd.C_alloc ?_ _) | (with_reducible refine Kd.C_drewN ?_ _) | (with_reducible refine Kd.C_drew ?_))); (case side2 => exact HC0.out); rintro e w' ⟨rfl, ⟨nd, rfl⟩⟩))
                    go_ret
                    exact ⟨by first | rfl | (simp [errW_none, errW_some] <;> rfl) | (simp [*, errW_none, errW_some] <;> rfl), by repeat (first | (with_reducible first | exact HB.out | apply below_alloc | apply pw_below_drewN | apply below_drew1) | exact HB.out)⟩
                  · rw [if_neg c23] at H
                    exact absurd H (by simp)
                · rw [if_neg c22] at H
                  exact absurd H (by simp)
              · replace c21 := Bool.eq_false_iff.mpr c21
                subst c21
                have H1 : (none) = some r := by rw [if_neg (show ¬ (false = true) by decide)] at H; exact H
                clear H
                have H := H1
                clear H1
                exact absurd H (by simp)
            · rw [if_neg c19] at H
              exact absurd H (by simp)
          · replace c18 := Bool.eq_false_iff.mpr c18
            subst c18
            have H1 : (none) = some r := by rw [if_neg (show ¬ (false = true) by decide)] at H; exact H
            clear H
            have H := H1
            clear H1
            exact absurd H (by simp)
        · rw [if_neg c16] at H
          exact absurd H (by simp)
      · rw [if_neg c15] at H
        exact absurd H (by simp)
    · replace c14 := Bool.eq_false_iff.mpr c14
      subst c14
      have H1 : (none) = some r := by rw [if_neg (show ¬ (false = true) by decide)] at H; exact H
      clear H
      have H := H1
      clear H1
      exact absurd H (by simp)

/-- The one statement about numbers and lists that is left of the law. -/
def variorumlaw19_ColumnTells.Pure : Prop := ∀ (x0 : List Int) (x1 : Int) (x2 : Int), (x0.length * 8 ≤ 140737488351232 ∧ ∀ y0 ∈ x0, (Lit.int .i64 y0).wf = true) → (Lit.int .i64 x1).wf = true → (Lit.int .i64 x2).wf = true → ∃ k, variorumlaw19_ColumnTells.f k x0 x1 x2 = some true

end Go.Proofs.Ytgkpomeobaheiaa.PAll

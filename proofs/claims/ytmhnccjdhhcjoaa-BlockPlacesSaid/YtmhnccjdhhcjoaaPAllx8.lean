/- Written by a program of this session: functions of the given program as plain Lean functions, the walks that show it, and the row of each law, for every input that its statement speaks of. -/
import Derived.Test.YtmhnccjdhhcjoaaPAllx0
import Derived.Test.YtmhnccjdhhcjoaaPAllx2
import Derived.Test.YtmhnccjdhhcjoaaPAllx3
import Derived.Test.YtmhnccjdhhcjoaaPAllx4
import Derived.Test.YtmhnccjdhhcjoaaPAllx6
import Derived.Test.YtmhnccjdhhcjoaaPAllx7
namespace Go.Proofs.Ytmhnccjdhhcjoaa.PAll
open Go.RowKit Go.Proofs.YtmhnccjdhhcjoaaW.PrintWords Go.Proofs.YtmhnccjdhhcjoaaW.PrintLast Go.Proofs.YtmhnccjdhhcjoaaW.PrintMore
attribute [local go_sem] max2_int min2_int max_two min_two max_three min_three max_four min_four   -- for this text's walks alone
set_option linter.unusedVariables false
set_option linter.unusedSimpArgs false

/-! ### variorumlaw20_BlockPlaces: function 3 -/
def variorumlaw20_BlockPlaces.j0 : Nat → Int → List Int → List (S32) → Bool → Option (Bool)
  | 0, _, _, _, _ => none
  | k + 1, x0, x1, x2, x20 => if x20 = true then ((variorumlaw20_fixed.f k).bind fun t248 => (some t248)) else ((block_Place.f k x0 x1).bind fun bt249 => ((variorumref20_Place.f k x0 x1).bind fun bt254 => ((variorumlaw20_fixed.f k).bind fun t259 => (if t259 = true then ((variorumref20_Spots.f k bt249.1 bt254.1).bind fun t260 => (if t260 = true then (if bt249.2.1 = bt254.2.1 then (if (bt249.2.2 == bt254.2.2) = true then ((block_Columns.f x0).bind fun t261 => ((variorumref20_Columns.f k x0).bind fun t262 => (if t261 = t262 then ((block_Clear.f k x2 x1).bind fun t263 => ((variorumref20_Clear.f k x2 x1).bind fun t264 => (if (t263 == t264) = true then ((block_Clear.f k bt249.1 x1).bind fun t265 => ((variorumref20_Clear.f k bt254.1 x1).bind fun t266 => (some (t265 == t266)))) else (none)))) else (none)))) else (none)) else (none)) else (none))) else (none)))))
def variorumlaw20_BlockPlaces.f (k : Nat) (a0 : Int) (l1 : List Int) (l2 : List (S32)) : Option (Bool) := if (l1.length : Int) > 60 then (variorumlaw20_BlockPlaces.j0 k a0 l1 l2 true) else (variorumlaw20_BlockPlaces.j0 k a0 l1 l2 (decide ((l2.length : Int) > 60)))
theorem variorumlaw20_BlockPlaces.mono_l : ∀ k, (∀ y0 y1 y2 y3, LeO (variorumlaw20_BlockPlaces.j0 k y0 y1 y2 y3) (variorumlaw20_BlockPlaces.j0 (k + 1) y0 y1 y2 y3))
  | 0 => fun _ _ _ _ r h => by simp [variorumlaw20_BlockPlaces.j0] at h
  | k + 1 => by
    have ih0 := variorumlaw20_BlockPlaces.mono_l k
    · intro y0 y1 y2 y3
      unfold variorumlaw20_BlockPlaces.j0
      repeat' first
      | (with_reducible exact ih0 _ _ _ _)
      | (with_reducible exact block_Clear.mono _ _ _)
      | (with_reducible exact block_Place.mono _ _ _)
      | (with_reducible exact variorumlaw20_fixed.mono _)
      | (with_reducible exact variorumref20_Clear.mono _ _ _)
      | (with_reducible exact variorumref20_Columns.mono _ _)
      | (with_reducible exact variorumref20_Place.mono _ _ _)
      | (with_reducible exact variorumref20_Spots.mono _ _ _)
      | (with_reducible exact LeO.refl _)
      | (with_reducible exact LeO.none _)
      | (with_reducible refine LeO.ite ?_ ?_)
      | (with_reducible refine LeO.bind ?_ (fun _ => ?_))
      | exact ih0 _ _ _ _
      | exact block_Clear.mono _ _ _
      | exact block_Place.mono _ _ _
      | exact variorumlaw20_fixed.mono _
      | exact variorumref20_Clear.mono _ _ _
      | exact variorumref20_Columns.mono _ _
      | exact variorumref20_Place.mono _ _ _
      | exact variorumref20_Spots.mono _ _ _
      | exact LeO.none _
      | refine LeO.ite ?_ ?_
      | refine LeO.bind ?_ (fun _ => ?_)
theorem variorumlaw20_BlockPlaces.mono : ∀ a0 a1 a2 k, LeO (variorumlaw20_BlockPlaces.f k a0 a1 a2) (variorumlaw20_BlockPlaces.f (k + 1) a0 a1 a2) := by
  intro a0 a1 a2 k
  have ih0 := variorumlaw20_BlockPlaces.mono_l k
  unfold variorumlaw20_BlockPlaces.f
  repeat' first
      | (with_reducible exact ih0 _ _ _ _)
      | (with_reducible exact block_Clear.mono _ _ _)
      | (with_reducible exact block_Place.mono _ _ _)
      | (with_reducible exact variorumlaw20_fixed.mono _)
      | (with_reducible exact variorumref20_Clear.mono _ _ _)
      | (with_reducible exact variorumref20_Columns.mono _ _)
      | (with_reducible exact variorumref20_Place.mono _ _ _)
      | (with_reducible exact variorumref20_Spots.mono _ _ _)
      | (with_reducible exact LeO.refl _)
      | (with_reducible exact LeO.none _)
      | (with_reducible refine LeO.ite ?_ ?_)
      | (with_reducible refine LeO.bind ?_ (fun _ => ?_))
      | exact ih0 _ _ _ _
      | exact block_Clear.mono _ _ _
      | exact block_Place.mono _ _ _
      | exact variorumlaw20_fixed.mono _
      | exact variorumref20_Clear.mono _ _ _
      | exact variorumref20_Columns.mono _ _
      | exact variorumref20_Place.mono _ _ _
      | exact variorumref20_Spots.mono _ _ _
      | exact LeO.none _
      | refine LeO.ite ?_ ?_
      | refine LeO.bind ?_ (fun _ => ?_)
set_option maxHeartbeats 8000000 in
set_option maxRecDepth 100000 in
theorem variorumlaw20_BlockPlaces.calls (k : Nat) (a0 : Int) (A1 : Option Addr) (c1 : Nat) (l1 : List Int) (A2 : Option Addr) (c2 : Nat) (l2 : List (S32)) (r : Bool) (w : World) (hr1 : Kd.C (Kd.int .i64) w A1 l1.length l1) (hc1 : l1.length ≤ c1) (hr2 : Kd.C k32 w A2 l2.length l2) (hc2 : l2.length ≤ c2) (h : variorumlaw20_BlockPlaces.f k a0 l1 l2 = some r) :
    Calls Try.prog 3 #[.int .i64 a0, .slice A1 l1.length c1, .slice A2 l2.length c2] w fun e w' => e = .returned (.bool r) ∧ Below w.heap.size w w' := by
  have HR1 := Aside0.mk hr1
  have HC1 := Aside0.mk hc1
  clear hr1 hc1
  have HR2 := Aside0.mk hr2
  have HC2 := Aside0.mk hc2
  clear hr2 hc2
  have HB := Aside0.mk (Below.refl w.heap.size w)
  have H : (if (l1.length : Int) > 60 then (variorumlaw20_BlockPlaces.j0 k a0 l1 l2 true) else (variorumlaw20_BlockPlaces.j0 k a0 l1 l2 (decide ((l2.length : Int) > 60)))) = some r := h
  clear h
  have HC4 := Aside0.mk H
  clear H
  go_enter Try.func3, Try.ntmps3
  go_upto_region 1 with (fail)
  go_cut [20] (fun v20 wc => ∃ (kq : Nat) (x20_3 : Bool), v20 = .bool x20_3 ∧ Aside0 (variorumlaw20_BlockPlaces.j0 kq a0 l1 l2 x20_3 = some r) ∧ Aside0 (kq ≤ k) ∧ Aside0 (Below w.heap.size w wc))
  case first =>
    have H := HC4.out
    clear HC4
    by_cases c5 : (l1.length : Int) > 60
    · rw [if_pos c5] at H
      have c5b0 : decide (60 < (l1.length : Int)) = true := decide_eq_true c5
      have c5b1 : decide (60 < l1.length) = true := decide_eq_true (by omega)
      clear c5
      (first | rw [c5b0] | (simp only [i64_w, i32_w]; rw [c5b0]) | skip)
      have H' := Aside0.mk H
      clear H
      go_wp2
      go_meet
      case rel => exact ⟨_, (true), (by first | rfl | (simp; done) | (simp [*]; done)), H', ⟨by first | omega | exact Nat.le_refl _⟩, ⟨by repeat (first | (with_reducible first | exact HB.out | apply below_alloc | apply pw_below_drewN | apply below_drew1) | exact HB.out)⟩⟩
    · rw [if_neg c5] at H
      have c5b0 : decide (60 < (l1.length : Int)) = false := decide_eq_false c5
      have c5b1 : decide (60 < l1.length) = false := decide_eq_false (by omega)
      clear c5
      (first | rw [c5b0] | (simp only [i64_w, i32_w]; rw [c5b0]) | skip)
      have H' := Aside0.mk H
      clear H
      go_wp2
      go_meet
      case rel => exact ⟨_, (decide ((l2.length : Int) > 60)), (by first | rfl | (simp; done) | (simp [*]; done)), H', ⟨by first | omega | exact Nat.le_refl _⟩, ⟨by repeat (first | (with_reducible first | exact HB.out | apply below_alloc | apply pw_below_drewN | apply below_drew1) | exact HB.out)⟩⟩
  case rest =>
    clear HC4
    try clear c1
    try clear c2
    try clear p2
    try clear c3
    try clear c5
    try clear c5b0
    try clear c5b1
    obtain ⟨kq, x20_3, rfl, HA, HJ3, HB⟩ := hcut
    cases kq with
    | zero => exact absurd HA.out (by simp [variorumlaw20_BlockPlaces.j0])
    | succ kj3 =>
      have H := HA.out
      clear HA
      simp only [variorumlaw20_BlockPlaces.j0] at H
      by_cases c6 : x20_3 = true
      · subst c6
        have H1 : ((variorumlaw20_fixed.f kj3).bind fun t248 => (some t248)) = some r := by rw [if_pos rfl] at H; exact H
        clear H
        have H := H1
        clear H1
        replace H := Option.bind_eq_some_iff.mp H
        obtain ⟨t248, A70, H⟩ := H
        replace H : (some t248) = some r := H
        have A7 := Aside0.mk A70
        clear A70
        obtain rfl := Option.some.inj H
        go_wp2_with (first | ((with_reducible refine gate_callee (f := 7) rfl ?_); refine goesL_ (some 21) rfl rfl Try.func7 (by kernel_rfl) rfl #[] rfl (by (try simp only [List.map_toArray, List.map_cons, List.map_nil]); first | done | rfl | (simp only [List.length_drop, List.length_take]; rfl) | (simp only [*]; first | done | rfl)) ?_; (with_reducible refine (variorumlaw20_fixed.calls kj3  t248 _ A7.out).mono ?_); rintro e w8 ⟨rfl, hb⟩; refine ⟨_, rfl, ?_⟩; have n0_ := Aside0.mk (below_step (by repeat (first | (with_reducible first | exact HB.out | apply below_alloc | apply pw_below_drewN | apply below_drew1) | exact HB.out)) hb); clear HB; have HB := n0_; clear n0_; (try clear hb); (try clear hb2); (try clear hk); (try clear hi)))
        go_ret
        exact ⟨by first | rfl | (simp [errW_none, errW_some] <;> rfl) | (simp [*, errW_none, errW_some] <;> rfl), by repeat (first | (with_reducible first | exact HB.out | apply below_alloc | apply pw_below_drewN | apply below_drew1) | exact HB.out)⟩
      · replace c6 := Bool.eq_false_iff.mpr c6
        subst c6
        have H1 : ((block_Place.f kj3 a0 l1).bind fun bt249 => ((variorumref20_Place.f kj3 a0 l1).bind fun bt254 => ((variorumlaw20_fixed.f kj3).bind fun t259 => (if t259 = true then ((variorumref20_Spots.f kj3 bt249.1 bt254.1).bind fun t260 => (if t260 = true then (if bt249.2.1 = bt254.2.1 then (if (bt249.2.2 == bt254.2.2) = true then ((block_Columns.f a0).bind fun t261 => ((variorumref20_Columns.f kj3 a0).bind fun t262 => (if t261 = t262 then ((block_Clear.f kj3 l2 l1).bind fun t263 => ((variorumref20_Clear.f kj3 l2 l1).bind fun t264 => (if (t263 == t264) = true then ((block_Clear.f kj3 bt249.1 l1).bind fun t265 => ((variorumref20_Clear.f kj3 bt254.1 l1).bind fun t266 => (some (t265 == t266)))) else (none)))) else (none)))) else (none)) else (none)) else (none))) else (none))))) = some r := by rw [if_neg (show ¬ (false = true) by decide)] at H; exact H
        clear H
        have H := H1
        clear H1
        replace H := Option.bind_eq_some_iff.mp H
        obtain ⟨⟨t249, t250, t251⟩, A90, H⟩ := H
        replace H : ((variorumref20_Place.f kj3 a0 l1).bind fun bt254 => ((variorumlaw20_fixed.f kj3).bind fun t259 => (if t259 = true then ((variorumref20_Spots.f kj3 t249 bt254.1).bind fun t260 => (if t260 = true then (if t250 = bt254.2.1 then (if (t251 == bt254.2.2) = true then ((block_Columns.f a0).bind fun t261 => ((variorumref20_Columns.f kj3 a0).bind fun t262 => (if t261 = t262 then ((block_Clear.f kj3 l2 l1).bind fun t263 => ((variorumref20_Clear.f kj3 l2 l1).bind fun t264 => (if (t263 == t264) = true then ((block_Clear.f kj3 t249 l1).bind fun t265 => ((variorumref20_Clear.f kj3 bt254.1 l1).bind fun t266 => (some (t265 == t266)))) else (none)))) else (none)))) else (none)) else (none)) else (none))) else (none)))) = some r := H
        have A9 := Aside0.mk A90
        clear A90
        replace H := Option.bind_eq_some_iff.mp H
        obtain ⟨⟨t254, t255, t256⟩, A100, H⟩ := H
        replace H : ((variorumlaw20_fixed.f kj3).bind fun t259 => (if t259 = true then ((variorumref20_Spots.f kj3 t249 t254).bind fun t260 => (if t260 = true then (if t250 = t255 then (if (t251 == t256) = true then ((block_Columns.f a0).bind fun t261 => ((variorumref20_Columns.f kj3 a0).bind fun t262 => (if t261 = t262 then ((block_Clear.f kj3 l2 l1).bind fun t263 => ((variorumref20_Clear.f kj3 l2 l1).bind fun t264 => (if (t263 == t264) = true then ((block_Clear.f kj3 t249 l1).bind fun t265 => ((variorumref20_Clear.f kj3 t254 l1).bind fun t266 => (some (t265 == t266)))) else (none)))) else (none)))) else (none)) else (none)) else (none))) else (none))) = some r := H
        have A10 := Aside0.mk A100
        clear A100
        replace H := Option.bind_eq_some_iff.mp H
        obtain ⟨t259, A110, H⟩ := H
        replace H : (if t259 = true then ((variorumref20_Spots.f kj3 t249 t254).bind fun t260 => (if t260 = true then (if t250 = t255 then (if (t251 == t256) = true then ((block_Columns.f a0).bind fun t261 => ((variorumref20_Columns.f kj3 a0).bind fun t262 => (if t261 = t262 then ((block_Clear.f kj3 l2 l1).bind fun t263 => ((variorumref20_Clear.f kj3 l2 l1).bind fun t264 => (if (t263 == t264) = true then ((block_Clear.f kj3 t249 l1).bind fun t265 => ((variorumref20_Clear.f kj3 t254 l1).bind fun t266 => (some (t265 == t266)))) else (none)))) else (none)))) else (none)) else (none)) else (none))) else (none)) = some r := H
        have A11 := Aside0.mk A110
        clear A110
        by_cases c12 : t259 = true
        · subst c12
          have H1 : ((variorumref20_Spots.f kj3 t249 t254).bind fun t260 => (if t260 = true then (if t250 = t255 then (if (t251 == t256) = true then ((block_Columns.f a0).bind fun t261 => ((variorumref20_Columns.f kj3 a0).bind fun t262 => (if t261 = t262 then ((block_Clear.f kj3 l2 l1).bind fun t263 => ((variorumref20_Clear.f kj3 l2 l1).bind fun t264 => (if (t263 == t264) = true then ((block_Clear.f kj3 t249 l1).bind fun t265 => ((variorumref20_Clear.f kj3 t254 l1).bind fun t266 => (some (t265 == t266)))) else (none)))) else (none)))) else (none)) else (none)) else (none))) = some r := by rw [if_pos rfl] at H; exact H
          clear H
          have H := H1
          clear H1
          replace H := Option.bind_eq_some_iff.mp H
          obtain ⟨t260, A130, H⟩ := H
          replace H : (if t260 = true then (if t250 = t255 then (if (t251 == t256) = true then ((block_Columns.f a0).bind fun t261 => ((variorumref20_Columns.f kj3 a0).bind fun t262 => (if t261 = t262 then ((block_Clear.f kj3 l2 l1).bind fun t263 => ((variorumref20_Clear.f kj3 l2 l1).bind fun t264 => (if (t263 == t264) = true then ((block_Clear.f kj3 t249 l1).bind fun t265 => ((variorumref20_Clear.f kj3 t254 l1).bind fun t266 => (some (t265 == t266)))) else (none)))) else (none)))) else (none)) else (none)) else (none)) = some r := H
          have A13 := Aside0.mk A130
          clear A130
          by_cases c14 : t260 = true
          · subst c14
            have H1 : (if t250 = t255 then (if (t251 == t256) = true then ((block_Columns.f a0).bind fun t261 => ((variorumref20_Columns.f kj3 a0).bind fun t262 => (if t261 = t262 then ((block_Clear.f kj3 l2 l1).bind fun t263 => ((variorumref20_Clear.f kj3 l2 l1).bind fun t264 => (if (t263 == t264) = true then ((block_Clear.f kj3 t249 l1).bind fun t265 => ((variorumref20_Clear.f kj3 t254 l1).bind fun t266 => (some (t265 == t266)))) else (none)))) else (none)))) else (none)) else (none)) = some r := by rw [if_pos rfl] at H; exact H
            clear H
            have H := H1
            clear H1
            by_cases c15 : t250 = t255
            · rw [if_pos c15] at H
              have c15b0 : (t250 == t255) = true := beq_iff_eq.mpr c15
              have c15b1 : (t250 != t255) = false := bne_eq_false_iff_eq.mpr c15
              clear c15
              by_cases c16 : (t251 == t256) = true
              · rw [if_pos c16] at H
                have c16b0 : (t251 == t256) = true := c16
                (try (have c16b1 : decide (t251 = t256) = true := by simpa using c16))
                (try (have c16b2 : (t251 == t256) = true := by simpa using c16))
                clear c16
                replace H := Option.bind_eq_some_iff.mp H
                obtain ⟨t261, A170, H⟩ := H
                replace H : ((variorumref20_Columns.f kj3 a0).bind fun t262 => (if t261 = t262 then ((block_Clear.f kj3 l2 l1).bind fun t263 => ((variorumref20_Clear.f kj3 l2 l1).bind fun t264 => (if (t263 == t264) = true then ((block_Clear.f kj3 t249 l1).bind fun t265 => ((variorumref20_Clear.f kj3 t254 l1).bind fun t266 => (some (t265 == t266)))) else (none)))) else (none))) = some r := H
                have A17 := Aside0.mk A170
                clear A170
                replace H := Option.bind_eq_some_iff.mp H
                obtain ⟨t262, A180, H⟩ := H
                replace H : (if t261 = t262 then ((block_Clear.f kj3 l2 l1).bind fun t263 => ((variorumref20_Clear.f kj3 l2 l1).bind fun t264 => (if (t263 == t264) = true then ((block_Clear.f kj3 t249 l1).bind fun t265 => ((variorumref20_Clear.f kj3 t254 l1).bind fun t266 => (some (t265 == t266)))) else (none)))) else (none)) = some r := H
                have A18 := Aside0.mk A180
                clear A180
                by_cases c19 : t261 = t262
                · rw [if_pos c19] at H
                  have c19b0 : (t261 == t262) = true := beq_iff_eq.mpr c19
                  have c19b1 : (t261 != t262) = false := bne_eq_false_iff_eq.mpr c19
                  clear c19
                  replace H := Option.bind_eq_some_iff.mp H
                  obtain ⟨t263, A200, H⟩ := H
                  replace H : ((variorumref20_Clear.f kj3 l2 l1).bind fun t264 => (if (t263 == t264) = true then ((block_Clear.f kj3 t249 l1).bind fun t265 => ((variorumref20_Clear.f kj3 t254 l1).bind fun t266 => (some (t265 == t266)))) else (none))) = some r := H
                  have A20 := Aside0.mk A200
                  clear A200
                  replace H := Option.bind_eq_some_iff.mp H
                  obtain ⟨t264, A210, H⟩ := H
                  replace H : (if (t263 == t264) = true then ((block_Clear.f kj3 t249 l1).bind fun t265 => ((variorumref20_Clear.f kj3 t254 l1).bind fun t266 => (some (t265 == t266)))) else (none)) = some r := H
                  have A21 := Aside0.mk A210
                  clear A210
                  by_cases c22 : (t263 == t264) = true
                  · rw [if_pos c22] at H
                    have c22b0 : (t263 == t264) = true := c22
                    (try (have c22b1 : decide (t263 = t264) = true := by simpa using c22))
                    (try (have c22b2 : (t263 == t264) = true := by simpa using c22))
                    clear c22
                    replace H := Option.bind_eq_some_iff.mp H
                    obtain ⟨t265, A230, H⟩ := H
                    replace H : ((variorumref20_Clear.f kj3 t254 l1).bind fun t266 => (some (t265 == t266))) = some r := H
                    have A23 := Aside0.mk A230
                    clear A230
                    replace H := Option.bind_eq_some_iff.mp H
                    obtain ⟨t266, A240, H⟩ := H
                    replace H : (some (t265 == t266)) = some r := H
                    have A24 := Aside0.mk A240
                    clear A240
                    obtain rfl := Option.some.inj H
                    go_wp2_with (first | ((with_reducible refine gate_callee (f := 8) rfl ?_); refine goesL_ (some 25) rfl rfl Try.func8 (by kernel_rfl) rfl #[.int .i64 a0, .slice A1 l1.length c1] rfl (by (try simp only [List.map_toArray, List.map_cons, List.map_nil]); first | done | rfl | (simp only [List.length_drop, List.length_take]; rfl) | (simp only [*]; first | done | rfl)) ?_; (with_reducible refine (block_Place.calls kj3 a0 _ _ l1 t249 t250 t251 _ ?side1 ?side2 A9.out).mono ?_); (case side1 => repeat (first | exact (Kd.C_below HR1.out HB.out) | (with_reducible refine Kd.C_alloc ?_ _) | (with_reducible refine Kd.C_drewN ?_ _) | (with_reducible refine Kd.C_drew ?_))); (case side2 => exact HC1.out); rintro e w25 ⟨v252, rfl, ho0, hb⟩; refine ⟨_, rfl, ?_⟩; have n0_ := Aside0.mk (Kd.R_lower ho0 (below_size (by repeat (first | (with_reducible first | exact HB.out | apply below_alloc | apply pw_below_drewN | apply below_drew1) | exact HB.out)))); have n1_ := Aside0.mk (below_step (by repeat (first | (with_reducible first | exact HB.out | apply below_alloc | apply pw_below_drewN | apply below_drew1) | exact HB.out)) hb); clear HB; have HO253 := n0_; have HB := n1_; clear n0_ n1_; (try clear hb); (try clear hb2); (try clear hk); (try clear hi); (try clear ho0)) | ((with_reducible refine gate_callee (f := 9) rfl ?_); refine goesL_ (some 32) rfl rfl Try.func9 (by kernel_rfl) rfl #[.int .i64 a0, .slice A1 l1.length c1] rfl (by (try simp only [List.map_toArray, List.map_cons, List.map_nil]); first | done | rfl | (simp only [List.length_drop, List.length_take]; rfl) | (simp only [*]; first | done | rfl)) ?_; (with_reducible refine (variorumref20_Place.calls kj3 a0 _ _ l1 t254 t255 t256 _ ?side1 ?side2 A10.out).mono ?_); (case side1 => repeat (first | exact (Kd.C_below HR1.out HB.out) | (with_reducible refine Kd.C_alloc ?_ _) | (with_reducible refine Kd.C_drewN ?_ _) | (with_reducible refine Kd.C_drew ?_))); (case side2 => exact HC1.out); rintro e w26 ⟨v257, rfl, ho0, hb⟩; refine ⟨_, rfl, ?_⟩; have n0_ := Aside0.mk (Kd.R_elder' (by (with_reducible repeat (first | apply Kd.R_alloc | apply Kd.R_drewN | apply Kd.R_drew)); exact HO253.out) (Kd.R_base ho0) hb); have n1_ := Aside0.mk (Kd.R_lower (Kd.R_new' ho0 (Kd.R_lt (by (with_reducible repeat (first | apply Kd.R_alloc | apply Kd.R_drewN | apply Kd.R_drew)); exact HO253.out))) (below_size (by repeat (first | (with_reducible first | exact HB.out | apply below_alloc | apply pw_below_drewN | apply below_drew1) | exact HB.out)))); have n2_ := Aside0.mk (below_step (by repeat (first | (with_reducible first | exact HB.out | apply below_alloc | apply pw_below_drewN | apply below_drew1) | exact HB.out)) hb); clear HO253; clear HB; have HO253 := n0_; have HO258 := n1_; have HB := n2_; clear n0_ n1_ n2_; (try clear hb); (try clear hb2); (try clear hk); (try clear hi); (try clear ho0)) | ((with_reducible refine gate_callee (f := 7) rfl ?_); refine goesL_ (some 36) rfl rfl Try.func7 (by kernel_rfl) rfl #[] rfl (by (try simp only [List.map_toArray, List.map_cons, List.map_nil]); first | done | rfl | (simp only [List.length_drop, List.length_take]; rfl) | (simp only [*]; first | done | rfl)) ?_; (with_reducible refine (variorumlaw20_fixed.calls kj3  true _ A11.out).mono ?_); rintro e w27 ⟨rfl, hb⟩; refine ⟨_, rfl, ?_⟩; have n0_ := Aside0.mk (Kd.R_below (by (with_reducible repeat (first | apply Kd.R_alloc | apply Kd.R_drewN | apply Kd.R_drew)); exact HO253.out) hb); have n1_ := Aside0.mk (Kd.R_below (by (with_reducible repeat (first | apply Kd.R_alloc | apply Kd.R_drewN | apply Kd.R_drew)); exact HO258.out) hb); have n2_ := Aside0.mk (below_step (by repeat (first | (with_reducible first | exact HB.out | apply below_alloc | apply pw_below_drewN | apply below_drew1) | exact HB.out)) hb); clear HO253; clear HO258; clear HB; have HO253 := n0_; have HO258 := n1_; have HB := n2_; clear n0_ n1_ n2_; (try clear hb); (try clear hb2); (try clear hk); (try clear hi); obtain ⟨Ao28, co28, eo28⟩ := Kd.R_slice HO253.out; subst eo28; obtain ⟨Ao29, co29, eo29⟩ := Kd.R_slice HO258.out; subst eo29) | (go_at_call 10; (with_reducible refine (variorumref20_Spots.calls kj3 _ _ t249 _ _ t254 true _ ?side1 ?side2 ?side3 ?side4 A13.out).mono ?_); (case side1 => repeat (first | exact (Kd.R_reads' HO253.out).2.2 | (with_reducible refine Kd.C_alloc ?_ _) | (with_reducible refine Kd.C_drewN ?_ _) | (with_reducible refine Kd.C_drew ?_))); (case side2 => exact (Kd.R_reads' HO253.out).2.1); (case side3 => repeat (first | exact (Kd.R_reads' HO258.out).2.2 | (with_reducible refine Kd.C_alloc ?_ _) | (with_reducible refine Kd.C_drewN ?_ _) | (with_reducible refine Kd.C_drew ?_))); (case side4 => exact (Kd.R_reads' HO258.out).2.1); rintro e w' ⟨rfl, ⟨nd, rfl⟩⟩) | (go_at_call 11; (with_reducible refine (block_Columns.calls a0 t261 _ A17.out).mono ?_); rintro e w' ⟨rfl, ⟨nd, rfl⟩⟩) | (go_at_call 12; (with_reducible refine (variorumref20_Columns.calls kj3 a0 t262 _ A18.out).mono ?_); rintro e w' ⟨rfl, ⟨nd, rfl⟩⟩) | (go_at_call 13; (with_reducible refine (block_Clear.calls kj3 _ _ l2 _ _ l1 t263 _ ?side1 ?side2 ?side3 ?side4 A20.out).mono ?_); (case side1 => repeat (first | exact (Kd.C_below HR2.out (by repeat (first | (with_reducible first | exact HB.out | apply below_alloc | apply pw_below_drewN | apply below_drew1) | exact HB.out))) | (with_reducible refine Kd.C_alloc ?_ _) | (with_reducible refine Kd.C_drewN ?_ _) | (with_reducible refine Kd.C_drew ?_))); (case side2 => exact HC2.out); (case side3 => repeat (first | exact (Kd.C_below HR1.out (by repeat (first | (with_reducible first | exact HB.out | apply below_alloc | apply pw_below_drewN | apply below_drew1) | exact HB.out))) | (with_reducible refine Kd.C_alloc ?_ _) | (with_reducible refine Kd.C_drewN ?_ _) | (with_reducible refine Kd.C_drew ?_))); (case side4 => exact HC1.out); rintro e w30 ⟨rfl, hb⟩; have n0_ := Aside0.mk (Kd.R_below (by (with_reducible repeat (first | apply Kd.R_alloc | apply Kd.R_drewN | apply Kd.R_drew)); exact HO253.out) hb); have n1_ := Aside0.mk (Kd.R_below (by (with_reducible repeat (first | apply Kd.R_alloc | apply Kd.R_drewN | apply Kd.R_drew)); exact HO258.out) hb); have n2_ := Aside0.mk (below_step (by repeat (first | (with_reducible first | exact HB.out | apply below_alloc | apply pw_below_drewN | apply below_drew1) | exact HB.out)) hb); clear HO253; clear HO258; clear HB; have HO253 := n0_; have HO258 := n1_; have HB := n2_; clear n0_ n1_ n2_; (try clear hb); (try clear hb2); (try clear hk); (try clear hi)) | (go_at_call 14; (with_reducible refine (variorumref20_Clear.calls kj3 _ _ l2 _ _ l1 t264 _ ?side1 ?side2 ?side3 ?side4 A21.out).mono ?_); (case side1 => repeat (first | exact (Kd.C_below HR2.out HB.out) | (with_reducible refine Kd.C_alloc ?_ _) | (with_reducible refine Kd.C_drewN ?_ _) | (with_reducible refine Kd.C_drew ?_))); (case side2 => exact HC2.out); (case side3 => repeat (first | exact (Kd.C_below HR1.out HB.out) | (with_reducible refine Kd.C_alloc ?_ _) | (with_reducible refine Kd.C_drewN ?_ _) | (with_reducible refine Kd.C_drew ?_))); (case side4 => exact HC1.out); rintro e w' ⟨rfl, ⟨nd, rfl⟩⟩) | (go_at_call 13; (with_reducible refine (block_Clear.calls kj3 _ _ t249 _ _ l1 t265 _ ?side1 ?side2 ?side3 ?side4 A23.out).mono ?_); (case side1 => repeat (first | exact (Kd.R_reads' HO253.out).2.2 | (with_reducible refine Kd.C_alloc ?_ _) | (with_reducible refine Kd.C_drewN ?_ _) | (with_reducible refine Kd.C_drew ?_))); (case side2 => exact (Kd.R_reads' HO253.out).2.1); (case side3 => repeat (first | exact (Kd.C_below HR1.out (by repeat (first | (with_reducible first | exact HB.out | apply below_alloc | apply pw_below_drewN | apply below_drew1) | exact HB.out))) | (with_reducible refine Kd.C_alloc ?_ _) | (with_reducible refine Kd.C_drewN ?_ _) | (with_reducible refine Kd.C_drew ?_))); (case side4 => exact HC1.out); rintro e w31 ⟨rfl, hb⟩; have n0_ := Aside0.mk (Kd.R_below (by (with_reducible repeat (first | apply Kd.R_alloc | apply Kd.R_drewN | apply Kd.R_drew)); exact HO253.out) hb); have n1_ := Aside0.mk (Kd.R_below (by (with_reducible repeat (first | apply Kd.R_alloc | apply Kd.R_drewN | apply Kd.R_drew)); exact HO258.out) hb); have n2_ := Aside0.mk (below_step (by repeat (first | (with_reducible first | exact HB.out | apply below_alloc | apply pw_below_drewN | apply below_drew1) | exact HB.out)) hb); clear HO253; clear HO258; clear HB; have HO253 := n0_; have HO258 := n1_; have HB := n2_; clear n0_ n1_ n2_; (try clear hb); (try clear hb2); (try clear hk); (try clear hi)) | (go_at_call 14; (with_reducible refine (variorumref20_Clear.calls kj3 _ _ t254 _ _ l1 t266 _ ?side1 ?side2 ?side3 ?side4 A24.out).mono ?_); (case side1 => repeat (first | exact (Kd.R_reads' HO258.out).2.2 | (with_reducible refine Kd.C_alloc ?_ _) | (with_reducible refine Kd.C_drewN ?_ _) | (with_reducible refine Kd.C_drew ?_))); (case side2 => exact (Kd.R_reads' HO258.out).2.1); (case side3 => repeat (first | exact (Kd.C_below HR1.out HB.out) | (with_reducible refine Kd.C_alloc ?_ _) | (with_reducible refine Kd.C_drewN ?_ _) | (with_reducible refine Kd.C_drew ?_))); (case side4 => exact HC1.out); rintro e w' ⟨rfl, ⟨nd, rfl⟩⟩))
                    go_ret
                    exact ⟨by first | rfl | (simp [errW_none, errW_some] <;> rfl) | (simp [*, errW_none, errW_some] <;> rfl), by repeat (first | (with_reducible first | exact HB.out | apply below_alloc | apply pw_below_drewN | apply below_drew1) | exact HB.out)⟩
                  · rw [if_neg c22] at H
                    exact absurd H (by simp)
                · rw [if_neg c19] at H
                  exact absurd H (by simp)
              · rw [if_neg c16] at H
                exact absurd H (by simp)
            · rw [if_neg c15] at H
              exact absurd H (by simp)
          · replace c14 := Bool.eq_false_iff.mpr c14
            subst c14
            have H1 : (none) = some r := by rw [if_neg (show ¬ (false = true) by decide)] at H; exact H
            clear H
            have H := H1
            clear H1
            exact absurd H (by simp)
        · replace c12 := Bool.eq_false_iff.mpr c12
          subst c12
          have H1 : (none) = some r := by rw [if_neg (show ¬ (false = true) by decide)] at H; exact H
          clear H
          have H := H1
          clear H1
          exact absurd H (by simp)

/-- The one statement about numbers and lists that is left of the law. -/
def variorumlaw20_BlockPlaces.Pure : Prop := ∀ (x0 : Int) (x1 : List Int) (x2 : List (S32)), (Lit.int .i64 x0).wf = true → (x1.length * 8 ≤ 140737488351232 ∧ ∀ y0 ∈ x1, (Lit.int .i64 y0).wf = true) → (x2.length * 16 ≤ 140737488351232 ∧ ∀ y0 ∈ x2, ((Lit.int .i64 y0.f0).wf = true ∧ ((Lit.int .i64 y0.f1).wf = true))) → ∃ k, variorumlaw20_BlockPlaces.f k x0 x1 x2 = some true

end Go.Proofs.Ytmhnccjdhhcjoaa.PAll

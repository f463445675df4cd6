/- Written by a program of this session: functions of the given program as plain Lean functions, the walks that show it, and the row of each law, for every input that its statement speaks of. -/
import Derived.Test.YtbpomibholcpfaaPAllx0
import Derived.Test.YtbpomibholcpfaaPAllx6
import Derived.Test.YtbpomibholcpfaaPAllx7
namespace Go.Proofs.Ytbpomibholcpfaa.PAll
open Go.RowKit Go.Proofs.YtbpomibholcpfaaW.PrintWords Go.Proofs.YtbpomibholcpfaaW.PrintLast Go.Proofs.YtbpomibholcpfaaW.PrintMore
attribute [local go_sem] max2_int min2_int max_two min_two max_three min_three max_four min_four   -- for this text's walks alone
set_option linter.unusedVariables false
set_option linter.unusedSimpArgs false

/-! ### variorumlaw16_LinenoMargins: function 5 -/
mutual
def variorumlaw16_LinenoMargins.j0 : Nat → Int → Int → Int → Bool → Option (Bool)
  | 0, _, _, _, _ => none
  | k + 1, x0, x1, x2, x37 => if x37 = true then ((variorumlaw16_fixed.f k).bind fun t233 => (some t233)) else (variorumlaw16_LinenoMargins.l0 k x0 x1 x2 (([] : List (S31))) 1)
def variorumlaw16_LinenoMargins.l0 : Nat → Int → Int → Int → List (S31) → Int → Option (Bool)
  | 0, _, _, _, _, _ => none
  | k + 1, x0, x1, x2, x7, x8 => if x8 ≤ x0 then (if x7.length < 8796093022208 then (variorumlaw16_LinenoMargins.l0 k x0 x1 x2 (x7 ++ [(⟨x8, 0⟩ : S31)]) (wrap64 (x8 + 1))) else (none)) else ((lineno_Margin.f k x7 x1 x2).bind fun t240 => (if (t240.length : Int) = x0 then (variorumlaw16_LinenoMargins.l1 k x0 x2 t240 x1 0) else (some false)))
def variorumlaw16_LinenoMargins.l1 : Nat → Int → Int → List Bool → Int → Int → Option (Bool)
  | 0, _, _, _, _, _ => none
  | k + 1, x0, x2, x9, x10, x11 => if x11 < x0 then (if 0 ≤ x11 then (if x11 < (x9.length : Int) then (if ((rdOf false x9 x11) != ((wrap64 (x11 + 1)) == x10)) = true then (some false) else (if rdOf false x9 x11 = true then (variorumlaw16_LinenoMargins.l1 k x0 x2 x9 (wrap64 (x10 + x2)) (wrap64 (x11 + 1))) else (variorumlaw16_LinenoMargins.l1 k x0 x2 x9 x10 (wrap64 (x11 + 1))))) else (none)) else (none)) else (some true)
end
def variorumlaw16_LinenoMargins.f (k : Nat) (a0 : Int) (a1 : Int) (a2 : Int) : Option (Bool) := (variorumlaw16_fixed.f k).bind fun t232 => (if t232 = true then (if a0 < 0 then (variorumlaw16_LinenoMargins.j0 k a0 a1 a2 true) else (if a0 > 300 then (variorumlaw16_LinenoMargins.j0 k a0 a1 a2 true) else (if a1 < 1 then (variorumlaw16_LinenoMargins.j0 k a0 a1 a2 true) else (if a1 > 1000 then (variorumlaw16_LinenoMargins.j0 k a0 a1 a2 true) else (if a2 < 1 then (variorumlaw16_LinenoMargins.j0 k a0 a1 a2 true) else (variorumlaw16_LinenoMargins.j0 k a0 a1 a2 (decide (a2 > 1000)))))))) else (variorumlaw16_LinenoMargins.j0 k a0 a1 a2 true))
theorem variorumlaw16_LinenoMargins.mono_l : ∀ k, (∀ y0 y1 y2 y3, LeO (variorumlaw16_LinenoMargins.j0 k y0 y1 y2 y3) (variorumlaw16_LinenoMargins.j0 (k + 1) y0 y1 y2 y3)) ∧ (∀ y0 y1 y2 y3 y4, LeO (variorumlaw16_LinenoMargins.l0 k y0 y1 y2 y3 y4) (variorumlaw16_LinenoMargins.l0 (k + 1) y0 y1 y2 y3 y4)) ∧ (∀ y0 y1 y2 y3 y4, LeO (variorumlaw16_LinenoMargins.l1 k y0 y1 y2 y3 y4) (variorumlaw16_LinenoMargins.l1 (k + 1) y0 y1 y2 y3 y4))
  | 0 => ⟨fun _ _ _ _ r h => by simp [variorumlaw16_LinenoMargins.j0] at h, fun _ _ _ _ _ r h => by simp [variorumlaw16_LinenoMargins.l0] at h, fun _ _ _ _ _ r h => by simp [variorumlaw16_LinenoMargins.l1] at h⟩
  | k + 1 => by
    obtain ⟨ih0, ih1, ih2⟩ := variorumlaw16_LinenoMargins.mono_l k
    refine ⟨?_, ?_, ?_⟩
    · intro y0 y1 y2 y3
      unfold variorumlaw16_LinenoMargins.j0
      repeat' first
      | (with_reducible exact ih0 _ _ _ _)
      | (with_reducible exact ih1 _ _ _ _ _)
      | (with_reducible exact ih2 _ _ _ _ _)
      | (with_reducible exact lineno_Margin.mono _ _ _ _)
      | (with_reducible exact variorumlaw16_fixed.mono _)
      | (with_reducible exact LeO.refl _)
      | (with_reducible exact LeO.none _)
      | (with_reducible refine LeO.ite ?_ ?_)
      | (with_reducible refine LeO.bind ?_ (fun _ => ?_))
      | exact ih0 _ _ _ _
      | exact ih1 _ _ _ _ _
      | exact ih2 _ _ _ _ _
      | exact lineno_Margin.mono _ _ _ _
      | exact variorumlaw16_fixed.mono _
      | exact LeO.none _
      | refine LeO.ite ?_ ?_
      | refine LeO.bind ?_ (fun _ => ?_)
    · intro y0 y1 y2 y3 y4
      unfold variorumlaw16_LinenoMargins.l0
      repeat' first
      | (with_reducible exact ih0 _ _ _ _)
      | (with_reducible exact ih1 _ _ _ _ _)
      | (with_reducible exact ih2 _ _ _ _ _)
      | (with_reducible exact lineno_Margin.mono _ _ _ _)
      | (with_reducible exact variorumlaw16_fixed.mono _)
      | (with_reducible exact LeO.refl _)
      | (with_reducible exact LeO.none _)
      | (with_reducible refine LeO.ite ?_ ?_)
      | (with_reducible refine LeO.bind ?_ (fun _ => ?_))
      | exact ih0 _ _ _ _
      | exact ih1 _ _ _ _ _
      | exact ih2 _ _ _ _ _
      | exact lineno_Margin.mono _ _ _ _
      | exact variorumlaw16_fixed.mono _
      | exact LeO.none _
      | refine LeO.ite ?_ ?_
      | refine LeO.bind ?_ (fun _ => ?_)
    · intro y0 y1 y2 y3 y4
      unfold variorumlaw16_LinenoMargins.l1
      repeat' first
      | (with_reducible exact ih0 _ _ _ _)
      | (with_reducible exact ih1 _ _ _ _ _)
      | (with_reducible exact ih2 _ _ _ _ _)
      | (with_reducible exact lineno_Margin.mono _ _ _ _)
      | (with_reducible exact variorumlaw16_fixed.mono _)
      | (with_reducible exact LeO.refl _)
      | (with_reducible exact LeO.none _)
      | (with_reducible refine LeO.ite ?_ ?_)
      | (with_reducible refine LeO.bind ?_ (fun _ => ?_))
      | exact ih0 _ _ _ _
      | exact ih1 _ _ _ _ _
      | exact ih2 _ _ _ _ _
      | exact lineno_Margin.mono _ _ _ _
      | exact variorumlaw16_fixed.mono _
      | exact LeO.none _
      | refine LeO.ite ?_ ?_
      | refine LeO.bind ?_ (fun _ => ?_)
theorem variorumlaw16_LinenoMargins.mono : ∀ a0 a1 a2 k, LeO (variorumlaw16_LinenoMargins.f k a0 a1 a2) (variorumlaw16_LinenoMargins.f (k + 1) a0 a1 a2) := by
  intro a0 a1 a2 k
  obtain ⟨ih0, ih1, ih2⟩ := variorumlaw16_LinenoMargins.mono_l k
  unfold variorumlaw16_LinenoMargins.f
  repeat' first
      | (with_reducible exact ih0 _ _ _ _)
      | (with_reducible exact ih1 _ _ _ _ _)
      | (with_reducible exact ih2 _ _ _ _ _)
      | (with_reducible exact lineno_Margin.mono _ _ _ _)
      | (with_reducible exact variorumlaw16_fixed.mono _)
      | (with_reducible exact LeO.refl _)
      | (with_reducible exact LeO.none _)
      | (with_reducible refine LeO.ite ?_ ?_)
      | (with_reducible refine LeO.bind ?_ (fun _ => ?_))
      | exact ih0 _ _ _ _
      | exact ih1 _ _ _ _ _
      | exact ih2 _ _ _ _ _
      | exact lineno_Margin.mono _ _ _ _
      | exact variorumlaw16_fixed.mono _
      | exact LeO.none _
      | refine LeO.ite ?_ ?_
      | refine LeO.bind ?_ (fun _ => ?_)
set_option maxHeartbeats 8000000 in
set_option maxRecDepth 100000 in
theorem variorumlaw16_LinenoMargins.calls (k : Nat) (a0 : Int) (a1 : Int) (a2 : Int) (r : Bool) (w : World) (h : variorumlaw16_LinenoMargins.f k a0 a1 a2 = some r) :
    Calls Try.prog 5 #[.int .i64 a0, .int .i64 a1, .int .i64 a2] w fun e w' => e = .returned (.bool r) ∧ Below w.heap.size w w' := by
  have hu31 := Try.underlying31
  have HB := Aside0.mk (Below.refl w.heap.size w)
  have H : ((variorumlaw16_fixed.f k).bind fun t232 => (if t232 = true then (if a0 < 0 then (variorumlaw16_LinenoMargins.j0 k a0 a1 a2 true) else (if a0 > 300 then (variorumlaw16_LinenoMargins.j0 k a0 a1 a2 true) else (if a1 < 1 then (variorumlaw16_LinenoMargins.j0 k a0 a1 a2 true) else (if a1 > 1000 then (variorumlaw16_LinenoMargins.j0 k a0 a1 a2 true) else (if a2 < 1 then (variorumlaw16_LinenoMargins.j0 k a0 a1 a2 true) else (variorumlaw16_LinenoMargins.j0 k a0 a1 a2 (decide (a2 > 1000)))))))) else (variorumlaw16_LinenoMargins.j0 k a0 a1 a2 true))) = some r := h
  clear h
  have HC4 := Aside0.mk H
  clear H
  go_enter Try.func5, Try.ntmps5
  go_upto_region 1 with (fail)
  go_cut [37] (fun v37 wc => ∃ (kq : Nat) (x37_3 : Bool), v37 = .bool x37_3 ∧ Aside0 (variorumlaw16_LinenoMargins.j0 kq a0 a1 a2 x37_3 = some r) ∧ Aside0 (kq ≤ k) ∧ Aside0 (Below w.heap.size w wc))
  case first =>
    have H := HC4.out
    clear HC4
    replace H := Option.bind_eq_some_iff.mp H
    obtain ⟨t232, A50, H⟩ := H
    replace H : (if t232 = true then (if a0 < 0 then (variorumlaw16_LinenoMargins.j0 k a0 a1 a2 true) else (if a0 > 300 then (variorumlaw16_LinenoMargins.j0 k a0 a1 a2 true) else (if a1 < 1 then (variorumlaw16_LinenoMargins.j0 k a0 a1 a2 true) else (if a1 > 1000 then (variorumlaw16_LinenoMargins.j0 k a0 a1 a2 true) else (if a2 < 1 then (variorumlaw16_LinenoMargins.j0 k a0 a1 a2 true) else (variorumlaw16_LinenoMargins.j0 k a0 a1 a2 (decide (a2 > 1000)))))))) else (variorumlaw16_LinenoMargins.j0 k a0 a1 a2 true)) = some r := H
    have A5 := Aside0.mk A50
    clear A50
    by_cases c6 : t232 = true
    · subst c6
      have H1 : (if a0 < 0 then (variorumlaw16_LinenoMargins.j0 k a0 a1 a2 true) else (if a0 > 300 then (variorumlaw16_LinenoMargins.j0 k a0 a1 a2 true) else (if a1 < 1 then (variorumlaw16_LinenoMargins.j0 k a0 a1 a2 true) else (if a1 > 1000 then (variorumlaw16_LinenoMargins.j0 k a0 a1 a2 true) else (if a2 < 1 then (variorumlaw16_LinenoMargins.j0 k a0 a1 a2 true) else (variorumlaw16_LinenoMargins.j0 k a0 a1 a2 (decide (a2 > 1000)))))))) = some r := by rw [if_pos rfl] at H; exact H
      clear H
      have H := H1
      clear H1
      by_cases c7 : a0 < 0
      · rw [if_pos c7] at H
        have c7b0 : decide (a0 < 0) = true := decide_eq_true c7
        clear c7
        (first | rw [c7b0] | (simp only [i64_w, i32_w]; rw [c7b0]) | skip)
        have H' := Aside0.mk H
        clear H
        go_wp2_with (first | ((with_reducible refine gate_callee (f := 8) rfl ?_); refine goesL_ (some 12) rfl rfl Try.func8 (by kernel_rfl) rfl #[] rfl (by (try simp only [List.map_toArray, List.map_cons, List.map_nil]); first | done | rfl | (simp only [List.length_drop, List.length_take]; rfl) | (simp only [*]; first | done | rfl)) ?_; (with_reducible refine (variorumlaw16_fixed.calls k  true _ A5.out).mono ?_); rintro e w8 ⟨rfl, hb⟩; refine ⟨_, rfl, ?_⟩; have n0_ := Aside0.mk (below_step (by repeat (first | (with_reducible first | exact HB.out | apply below_alloc | apply pw_below_drewN | apply below_drew1) | exact HB.out)) hb); clear HB; have HB := n0_; clear n0_; (try clear hb); (try clear hb2); (try clear hk); (try clear hi)))
        go_meet
        case rel => exact ⟨_, (true), (by first | rfl | (simp; done) | (simp [*]; done)), H', ⟨by first | omega | exact Nat.le_refl _⟩, ⟨by repeat (first | (with_reducible first | exact HB.out | apply below_alloc | apply pw_below_drewN | apply below_drew1) | exact HB.out)⟩⟩
      · rw [if_neg c7] at H
        have c7b0 : decide (a0 < 0) = false := decide_eq_false c7
        clear c7
        (first | rw [c7b0] | (simp only [i64_w, i32_w]; rw [c7b0]) | skip)
        by_cases c9 : a0 > 300
        · rw [if_pos c9] at H
          have c9b0 : decide (300 < a0) = true := decide_eq_true c9
          clear c9
          have H' := Aside0.mk H
          clear H
          go_wp2_with (first | ((with_reducible refine gate_callee (f := 8) rfl ?_); refine goesL_ (some 12) rfl rfl Try.func8 (by kernel_rfl) rfl #[] rfl (by (try simp only [List.map_toArray, List.map_cons, List.map_nil]); first | done | rfl | (simp only [List.length_drop, List.length_take]; rfl) | (simp only [*]; first | done | rfl)) ?_; (with_reducible refine (variorumlaw16_fixed.calls k  true _ A5.out).mono ?_); rintro e w10 ⟨rfl, hb⟩; refine ⟨_, rfl, ?_⟩; have n0_ := Aside0.mk (below_step (by repeat (first | (with_reducible first | exact HB.out | apply below_alloc | apply pw_below_drewN | apply below_drew1) | exact HB.out)) hb); clear HB; have HB := n0_; clear n0_; (try clear hb); (try clear hb2); (try clear hk); (try clear hi)))
          go_meet
          case rel => exact ⟨_, (true), (by first | rfl | (simp; done) | (simp [*]; done)), H', ⟨by first | omega | exact Nat.le_refl _⟩, ⟨by repeat (first | (with_reducible first | exact HB.out | apply below_alloc | apply pw_below_drewN | apply below_drew1) | exact HB.out)⟩⟩
        · rw [if_neg c9] at H
          have c9b0 : decide (300 < a0) = false := decide_eq_false c9
          clear c9
          by_cases c11 : a1 < 1
          · rw [if_pos c11] at H
            have c11b0 : decide (a1 < 1) = true := decide_eq_true c11
            clear c11
            have H' := Aside0.mk H
            clear H
            go_wp2_with (first | ((with_reducible refine gate_callee (f := 8) rfl ?_); refine goesL_ (some 12) rfl rfl Try.func8 (by kernel_rfl) rfl #[] rfl (by (try simp only [List.map_toArray, List.map_cons, List.map_nil]); first | done | rfl | (simp only [List.length_drop, List.length_take]; rfl) | (simp only [*]; first | done | rfl)) ?_; (with_reducible refine (variorumlaw16_fixed.calls k  true _ A5.out).mono ?_); rintro e w12 ⟨rfl, hb⟩; refine ⟨_, rfl, ?_⟩; have n0_ := Aside0.mk (below_step (by repeat (first | (with_reducible first | exact HB.out | apply below_alloc | apply pw_below_drewN | apply below_drew1) | exact HB.out)) hb); clear HB; have HB := n0_; clear n0_; (try clear hb); (try clear hb2); (try clear hk); (try clear hi)))
            go_meet
            case rel => exact ⟨_, (true), (by first | rfl | (simp; done) | (simp [*]; done)), H', ⟨by first | omega | exact Nat.le_refl _⟩, ⟨by repeat (first | (with_reducible first | exact HB.out | apply below_alloc | apply pw_below_drewN | apply below_drew1) | exact HB.out)⟩⟩
          · rw [if_neg c11] at H
            have c11b0 : decide (a1 < 1) = false := decide_eq_false c11
            clear c11
            by_cases c13 : a1 > 1000
            · rw [if_pos c13] at H
              have c13b0 : decide (1000 < a1) = true := decide_eq_true c13
              clear c13
              have H' := Aside0.mk H
              clear H
              go_wp2_with (first | ((with_reducible refine gate_callee (f := 8) rfl ?_); refine goesL_ (some 12) rfl rfl Try.func8 (by kernel_rfl) rfl #[] rfl (by (try simp only [List.map_toArray, List.map_cons, List.map_nil]); first | done | rfl | (simp only [List.length_drop, List.length_take]; rfl) | (simp only [*]; first | done | rfl)) ?_; (with_reducible refine (variorumlaw16_fixed.calls k  true _ A5.out).mono ?_); rintro e w14 ⟨rfl, hb⟩; refine ⟨_, rfl, ?_⟩; have n0_ := Aside0.mk (below_step (by repeat (first | (with_reducible first | exact HB.out | apply below_alloc | apply pw_below_drewN | apply below_drew1) | exact HB.out)) hb); clear HB; have HB := n0_; clear n0_; (try clear hb); (try clear hb2); (try clear hk); (try clear hi)))
              go_meet
              case rel => exact ⟨_, (true), (by first | rfl | (simp; done) | (simp [*]; done)), H', ⟨by first | omega | exact Nat.le_refl _⟩, ⟨by repeat (first | (with_reducible first | exact HB.out | apply below_alloc | apply pw_below_drewN | apply below_drew1) | exact HB.out)⟩⟩
            · rw [if_neg c13] at H
              have c13b0 : decide (1000 < a1) = false := decide_eq_false c13
              clear c13
              by_cases c15 : a2 < 1
              · rw [if_pos c15] at H
                have c15b0 : decide (a2 < 1) = true := decide_eq_true c15
                clear c15
                have H' := Aside0.mk H
                clear H
                go_wp2_with (first | ((with_reducible refine gate_callee (f := 8) rfl ?_); refine goesL_ (some 12) rfl rfl Try.func8 (by kernel_rfl) rfl #[] rfl (by (try simp only [List.map_toArray, List.map_cons, List.map_nil]); first | done | rfl | (simp only [List.length_drop, List.length_take]; rfl) | (simp only [*]; first | done | rfl)) ?_; (with_reducible refine (variorumlaw16_fixed.calls k  true _ A5.out).mono ?_); rintro e w16 ⟨rfl, hb⟩; refine ⟨_, rfl, ?_⟩; have n0_ := Aside0.mk (below_step (by repeat (first | (with_reducible first | exact HB.out | apply below_alloc | apply pw_below_drewN | apply below_drew1) | exact HB.out)) hb); clear HB; have HB := n0_; clear n0_; (try clear hb); (try clear hb2); (try clear hk); (try clear hi)))
                go_meet
                case rel => exact ⟨_, (true), (by first | rfl | (simp; done) | (simp [*]; done)), H', ⟨by first | omega | exact Nat.le_refl _⟩, ⟨by repeat (first | (with_reducible first | exact HB.out | apply below_alloc | apply pw_below_drewN | apply below_drew1) | exact HB.out)⟩⟩
              · rw [if_neg c15] at H
                have c15b0 : decide (a2 < 1) = false := decide_eq_false c15
                clear c15
                have H' := Aside0.mk H
                clear H
                go_wp2_with (first | ((with_reducible refine gate_callee (f := 8) rfl ?_); refine goesL_ (some 12) rfl rfl Try.func8 (by kernel_rfl) rfl #[] rfl (by (try simp only [List.map_toArray, List.map_cons, List.map_nil]); first | done | rfl | (simp only [List.length_drop, List.length_take]; rfl) | (simp only [*]; first | done | rfl)) ?_; (with_reducible refine (variorumlaw16_fixed.calls k  true _ A5.out).mono ?_); rintro e w17 ⟨rfl, hb⟩; refine ⟨_, rfl, ?_⟩; have n0_ := Aside0.mk (below_step (by repeat (first | (with_reducible first | exact HB.out | apply below_alloc | apply pw_below_drewN | apply below_drew1) | exact HB.out)) hb); clear HB; have HB := n0_; clear n0_; (try clear hb); (try clear hb2); (try clear hk); (try clear hi)))
                go_meet
                case rel => exact ⟨_, (decide (a2 > 1000)), (by first | rfl | (simp; done) | (simp [*]; done)), H', ⟨by first | omega | exact Nat.le_refl _⟩, ⟨by repeat (first | (with_reducible first | exact HB.out | apply below_alloc | apply pw_below_drewN | apply below_drew1) | exact HB.out)⟩⟩
    · replace c6 := Bool.eq_false_iff.mpr c6
      subst c6
      have H1 : (variorumlaw16_LinenoMargins.j0 k a0 a1 a2 true) = some r := by rw [if_neg (show ¬ (false = true) by decide)] at H; exact H
      clear H
      have H := H1
      clear H1
      have H' := Aside0.mk H
      clear H
      go_wp2_with (first | ((with_reducible refine gate_callee (f := 8) rfl ?_); refine goesL_ (some 12) rfl rfl Try.func8 (by kernel_rfl) rfl #[] rfl (by (try simp only [List.map_toArray, List.map_cons, List.map_nil]); first | done | rfl | (simp only [List.length_drop, List.length_take]; rfl) | (simp only [*]; first | done | rfl)) ?_; (with_reducible refine (variorumlaw16_fixed.calls k  false _ A5.out).mono ?_); rintro e w18 ⟨rfl, hb⟩; refine ⟨_, rfl, ?_⟩; have n0_ := Aside0.mk (below_step (by repeat (first | (with_reducible first | exact HB.out | apply below_alloc | apply pw_below_drewN | apply below_drew1) | exact HB.out)) hb); clear HB; have HB := n0_; clear n0_; (try clear hb); (try clear hb2); (try clear hk); (try clear hi)))
      go_meet
      case rel => exact ⟨_, (true), (by first | rfl | (simp; done) | (simp [*]; done)), H', ⟨by first | omega | exact Nat.le_refl _⟩, ⟨by repeat (first | (with_reducible first | exact HB.out | apply below_alloc | apply pw_below_drewN | apply below_drew1) | exact HB.out)⟩⟩
  case rest =>
    clear HC4
    try clear c1
    try clear p2
    try clear c5
    try clear c6
    try clear c7
    try clear c7b0
    try clear c8
    try clear c9
    try clear c9b0
    try clear c11
    try clear c11b0
    try clear c13
    try clear c13b0
    try clear c15
    try clear c15b0
    obtain ⟨kq, x37_3, rfl, HA, HJ3, HB⟩ := hcut
    cases kq with
    | zero => exact absurd HA.out (by simp [variorumlaw16_LinenoMargins.j0])
    | succ kj3 =>
      have H := HA.out
      clear HA
      simp only [variorumlaw16_LinenoMargins.j0] at H
      by_cases c19 : x37_3 = true
      · subst c19
        have H1 : ((variorumlaw16_fixed.f kj3).bind fun t233 => (some t233)) = some r := by rw [if_pos rfl] at H; exact H
        clear H
        have H := H1
        clear H1
        replace H := Option.bind_eq_some_iff.mp H
        obtain ⟨t233, A200, H⟩ := H
        replace H : (some t233) = some r := H
        have A20 := Aside0.mk A200
        clear A200
        obtain rfl := Option.some.inj H
        go_wp2_with (first | ((with_reducible refine gate_callee (f := 8) rfl ?_); refine goesL_ (some 38) rfl rfl Try.func8 (by kernel_rfl) rfl #[] rfl (by (try simp only [List.map_toArray, List.map_cons, List.map_nil]); first | done | rfl | (simp only [List.length_drop, List.length_take]; rfl) | (simp only [*]; first | done | rfl)) ?_; (with_reducible refine (variorumlaw16_fixed.calls kj3  t233 _ A20.out).mono ?_); rintro e w21 ⟨rfl, hb⟩; refine ⟨_, rfl, ?_⟩; have n0_ := Aside0.mk (below_step (by repeat (first | (with_reducible first | exact HB.out | apply below_alloc | apply pw_below_drewN | apply below_drew1) | exact HB.out)) hb); clear HB; have HB := n0_; clear n0_; (try clear hb); (try clear hb2); (try clear hk); (try clear hi)))
        go_ret
        exact ⟨by first | rfl | (simp [errW_none, errW_some] <;> rfl) | (simp [*, errW_none, errW_some] <;> rfl), by repeat (first | (with_reducible first | exact HB.out | apply below_alloc | apply pw_below_drewN | apply below_drew1) | exact HB.out)⟩
      · replace c19 := Bool.eq_false_iff.mpr c19
        subst c19
        have H1 : (variorumlaw16_LinenoMargins.l0 kj3 a0 a1 a2 (([] : List (S31))) 1) = some r := by rw [if_neg (show ¬ (false = true) by decide)] at H; exact H
        clear H
        have H := H1
        clear H1
        obtain ⟨y234, hy234⟩ : ∃ y_ : List (S31), y_ = (([] : List (S31))) := ⟨_, rfl⟩
        replace H : (variorumlaw16_LinenoMargins.l0 kj3 a0 a1 a2 y234 1) = some r := by first | (rw [hy234]; with_reducible exact H) | (have H2_ := (Option.bind_some _ _).symm.trans H; rw [hy234]; with_reducible exact H2_) | (have H2_ := (Option.bind_some _ _).symm.trans H; with_reducible exact H2_) | with_reducible exact H | (rw [hy234]; exact H) | exact H
        have Ny234 := Aside0.mk hy234
        clear hy234
        have H' := Aside0.mk H
        clear H
        go_wp2_with (first | ((with_reducible refine gate_dst (N := 39) rfl ?_); refine Kd.R_lit k31 _ 31 ?hg (N := 39) ?hd (xs := ([] : List (S31))) (inner := []) (ok := fun _ => True) (okp := fun _ => True) ?hr ?hp (fun _ hk => hk) trivial (Below.refl _ _) (Nat.le_refl _) (by simp) ?_; (case hd => rfl); (case hg => rfl); (case hr => first | (go_simp; done) | (go_simp; rfl)); (case hp => exact (Reps.none _ _)); intro v235 w22 ho23 hb hg_ hnew_; clear hg_ hnew_; (first | rw [← Ny234.out] at ho23 | (simp only [Int.reduceToNat] at ho23; rw [← Ny234.out] at ho23)); have n0_ := Aside0.mk (Kd.R_lower ho23 (below_size (by repeat (first | (with_reducible first | exact HB.out | apply below_alloc | apply pw_below_drewN | apply below_drew1) | exact HB.out)))); have n1_ := Aside0.mk (below_step (by repeat (first | (with_reducible first | exact HB.out | apply below_alloc | apply pw_below_drewN | apply below_drew1) | exact HB.out)) hb); clear HB; have HO236 := n0_; have HB := n1_; clear n0_ n1_; clear hb ho23))
        go_loopg [7, 8] kj3 (fun kq v7 v8 w' => ∃ (x7_2 : List (S31)) (x8_2 : Int), v8 = .int .i64 x8_2 ∧ Aside0 (variorumlaw16_LinenoMargins.l0 kq a0 a1 a2 x7_2 x8_2 = some r) ∧ Aside0 (kq ≤ kj3) ∧ Aside0 (Kd.R k31 31 w' w.heap.size (fun _ => True) v7 x7_2) ∧ Aside0 (Below w.heap.size w w'))
        case atStart => exact ⟨(y234), (1), (by first | rfl | (simp; done) | (simp [*]; done)), H', ⟨Nat.le_refl _⟩, ⟨by (with_reducible repeat (first | apply Kd.R_alloc | apply Kd.R_drewN | apply Kd.R_drew)); exact HO236.out⟩, ⟨by repeat (first | (with_reducible first | exact HB.out | apply below_alloc | apply pw_below_drewN | apply below_drew1) | exact HB.out)⟩⟩
        case round =>
          clear H'
          try clear c1
          try clear p2
          try clear c5
          try clear c6
          try clear c7
          try clear c7b0
          try clear c8
          try clear c9
          try clear c9b0
          try clear c11
          try clear c11b0
          try clear c13
          try clear c13b0
          try clear c15
          try clear c15b0
          try clear c19
          try clear p2
          obtain ⟨x7_2, x8_2, rfl, HA, HK2, HO_7, HB⟩ := hrel
          cases gk with
          | zero => exact absurd HA.out (by simp [variorumlaw16_LinenoMargins.l0])
          | succ k2 =>
            have H := HA.out
            clear HA
            simp only [variorumlaw16_LinenoMargins.l0] at H
            by_cases c24 : x8_2 ≤ a0
            · rw [if_pos c24] at H
              have c24b0 : decide (x8_2 ≤ a0) = true := decide_eq_true c24
              clear c24
              by_cases c25 : x7_2.length < 8796093022208
              · rw [if_pos c25] at H
                have LMc25 := Aside0.mk c25
                clear c25
                obtain ⟨y237, hy237⟩ : ∃ y_ : List (S31), y_ = (x7_2 ++ [(⟨x8_2, 0⟩ : S31)]) := ⟨_, rfl⟩
                replace H : (variorumlaw16_LinenoMargins.l0 k2 a0 a1 a2 y237 (wrap64 (x8_2 + 1))) = some r := by first | (rw [hy237]; with_reducible exact H) | (have H2_ := (Option.bind_some _ _).symm.trans H; rw [hy237]; with_reducible exact H2_) | (have H2_ := (Option.bind_some _ _).symm.trans H; with_reducible exact H2_) | with_reducible exact H | (rw [hy237]; exact H) | exact H
                have Ny237 := Aside0.mk hy237
                clear hy237
                have H' := Aside0.mk H
                clear H
                go_wp2_with (first | ((with_reducible refine gate_builtin (b := .append) (xs := #[.tmp 45, .tmp 48]) rfl ?_); at_builtin; refine Kd.R_append k31 (w0 := w) w.heap.size rfl (.tmp 45) (.tmp 48) 23 31 (.agg #[(.int .i64 0), (.int .i64 0)]) 16 rfl Try.underlying23 info31 rfl (by decide) (by omega) u7 x7_2 (⟨x8_2, 0⟩ : S31) [.int .i64 x8_2, .int .i64 0] (fun _ => True) (fun _ => False) rfl rfl ?aP (fun _ hk => hk.elim) ?aF ?aO ?aB ?aS ?aL ?_; (case aP => exact k31_mkM _ _ _ (⟨x8_2, 0⟩ : S31)); (case aB => exact (by repeat (first | (with_reducible first | exact HB.out | apply below_alloc | apply pw_below_drewN | apply below_drew1) | exact HB.out))); (case aF => exact (fun _ _ => trivial)); (case aO => exact (by (with_reducible repeat (first | apply Kd.R_alloc | apply Kd.R_drewN | apply Kd.R_drew)); exact HO_7.out)); (case aS => exact (below_size (by repeat (first | (with_reducible first | exact HB.out | apply below_alloc | apply pw_below_drewN | apply below_drew1) | exact HB.out)))); (case aL => have := LMc25.out; omega); intro v238 w26 ho hb hg hat; rw [← Ny237.out] at ho; have n0_ := Aside0.mk (hb); have n1_ := Aside0.mk (ho); clear HB; clear HO_7; have HB := n0_; have HO239 := n1_; clear n0_ n1_; clear ho hb hg hat))
                go_roundg k2
                case measure => have := HJ3.out; have := HK2.out; omega
                case rel => exact ⟨(y237), (wrap64 (x8_2 + 1)), (by first | rfl | (simp; done) | (simp [*]; done)), H', ⟨by have := HJ3.out; have := HK2.out; omega⟩, ⟨by (with_reducible repeat (first | apply Kd.R_alloc | apply Kd.R_drewN | apply Kd.R_drew)); exact HO239.out⟩, ⟨by repeat (first | (with_reducible first | exact HB.out | apply below_alloc | apply pw_below_drewN | apply below_drew1) | exact HB.out)⟩⟩
              · rw [if_neg c25] at H
                exact absurd H (by simp)
            · rw [if_neg c24] at H
              have c24b0 : decide (x8_2 ≤ a0) = false := decide_eq_false c24
              clear c24
              replace H := Option.bind_eq_some_iff.mp H
              obtain ⟨t240, A270, H⟩ := H
              replace H : (if (t240.length : Int) = a0 then (variorumlaw16_LinenoMargins.l1 k2 a0 a2 t240 a1 0) else (some false)) = some r := H
              have A27 := Aside0.mk A270
              clear A270
              by_cases c28 : (t240.length : Int) = a0
              · rw [if_pos c28] at H
                have c28b0 : ((t240.length : Int) == a0) = true := beq_iff_eq.mpr c28
                have c28b1 : ((t240.length : Int) != a0) = false := bne_eq_false_iff_eq.mpr c28
                clear c28
                have H' := Aside0.mk H
                clear H
                obtain ⟨Ao29, co29, eo29⟩ := Kd.R_slice HO_7.out
                subst eo29
                go_wp2_with (first | ((with_reducible refine gate_callee (f := 11) rfl ?_); refine goesL_ (some 53) rfl rfl Try.func11 (by kernel_rfl) rfl #[.slice Ao29 x7_2.length co29, .int .i64 a1, .int .i64 a2] rfl (by (try simp only [List.map_toArray, List.map_cons, List.map_nil]); first | done | rfl | (simp only [List.length_drop, List.length_take]; rfl) | (simp only [*]; first | done | rfl)) ?_; (with_reducible refine (lineno_Margin.calls k2 _ _ x7_2 a1 a2 t240 _ ?side1 ?side2 A27.out).mono ?_); (case side1 => repeat (first | exact (Kd.R_reads' HO_7.out).2.2 | (with_reducible refine Kd.C_alloc ?_ _) | (with_reducible refine Kd.C_drewN ?_ _) | (with_reducible refine Kd.C_drew ?_))); (case side2 => exact (Kd.R_reads' HO_7.out).2.1); rintro e w30 ⟨v241, rfl, ho0, hb⟩; refine ⟨_, rfl, ?_⟩; have n0_ := Aside0.mk (Kd.R_below (by (with_reducible repeat (first | apply Kd.R_alloc | apply Kd.R_drewN | apply Kd.R_drew)); exact HO_7.out) hb); have n1_ := Aside0.mk (Kd.R_lower ho0 (below_size (by repeat (first | (with_reducible first | exact HB.out | apply below_alloc | apply pw_below_drewN | apply below_drew1) | exact HB.out)))); have n2_ := Aside0.mk (below_step (by repeat (first | (with_reducible first | exact HB.out | apply below_alloc | apply pw_below_drewN | apply below_drew1) | exact HB.out)) hb); clear HO_7; clear HB; have HO_7 := n0_; have HO242 := n1_; have HB := n2_; clear n0_ n1_ n2_; (try clear hb); (try clear hb2); (try clear hk); (try clear hi); (try clear ho0); obtain ⟨Ao31, co31, eo31⟩ := Kd.R_slice HO242.out; subst eo31))
                go_loopg [10, 11] k2 (fun kq v10 v11 w' => ∃ (x10_3 : Int) (x11_3 : Int), v10 = .int .i64 x10_3 ∧ v11 = .int .i64 x11_3 ∧ Aside0 (variorumlaw16_LinenoMargins.l1 kq a0 a2 t240 x10_3 x11_3 = some r) ∧ Aside0 (kq ≤ k2) ∧ Aside0 (Kd.R Kd.bool 4 w' w.heap.size (fun _ => True) (.slice Ao31 t240.length co31) t240) ∧ Aside0 (Below w.heap.size w w'))
                case atStart => exact ⟨(a1), (0), (by first | rfl | (simp; done) | (simp [*]; done)), (by first | rfl | (simp; done) | (simp [*]; done)), H', ⟨Nat.le_refl _⟩, ⟨by (with_reducible repeat (first | apply Kd.R_alloc | apply Kd.R_drewN | apply Kd.R_drew)); exact HO242.out⟩, ⟨by repeat (first | (with_reducible first | exact HB.out | apply below_alloc | apply pw_below_drewN | apply below_drew1) | exact HB.out)⟩⟩
                case round =>
                  clear H'
                  try clear c1
                  try clear c2
                  try clear p2
                  try clear c5
                  try clear c6
                  try clear p6
                  try clear c7
                  try clear c7b0
                  try clear c8
                  try clear c9
                  try clear c9b0
                  try clear c11
                  try clear c11b0
                  try clear c13
                  try clear c13b0
                  try clear c15
                  try clear c15b0
                  try clear c19
                  try clear c24
                  try clear c24b0
                  try clear c25
                  try clear c28
                  try clear c28b0
                  try clear c28b1
                  try clear p2
                  obtain ⟨x10_3, x11_3, rfl, rfl, HA, HK3, HO_9, HB⟩ := hrel
                  cases gk with
                  | zero => exact absurd HA.out (by simp [variorumlaw16_LinenoMargins.l1])
                  | succ k3 =>
                    have H := HA.out
                    clear HA
                    simp only [variorumlaw16_LinenoMargins.l1] at H
                    by_cases c32 : x11_3 < a0
                    · rw [if_pos c32] at H
                      have c32b0 : decide (x11_3 < a0) = true := decide_eq_true c32
                      clear c32
                      by_cases c33 : 0 ≤ x11_3
                      · rw [if_pos c33] at H
                        have c33b0 : decide (0 ≤ x11_3) = true := decide_eq_true c33
                        clear c33
                        by_cases c34 : x11_3 < (t240.length : Int)
                        · rw [if_pos c34] at H
                          have c34b0 : decide (x11_3 < (t240.length : Int)) = true := decide_eq_true c34
                          clear c34
                          by_cases c35 : ((rdOf false t240 x11_3) != ((wrap64 (x11_3 + 1)) == x10_3)) = true
                          · rw [if_pos c35] at H
                            have c35b0 : ((rdOf false t240 x11_3) != ((wrap64 (x11_3 + 1)) == x10_3)) = true := c35
                            (try (have c35b1 : decide ((rdOf false t240 x11_3) = ((wrap64 (x11_3 + 1)) == x10_3)) = false := by simpa using c35))
                            (try (have c35b2 : ((rdOf false t240 x11_3) == ((wrap64 (x11_3 + 1)) == x10_3)) = false := by simpa using c35))
                            (try (have c35b3 : ¬ ((rdOf false t240 x11_3) = ((wrap64 (x11_3 + 1)) == x10_3)) := by simpa using c35))
                            clear c35
                            obtain rfl := Option.some.inj H
                            have p243 : 0 ≤ (x11_3 : Int) := of_decide_eq_true (by first | (with_reducible assumption) | assumption)
                            have q243 : x11_3 < (t240.length : Int) := of_decide_eq_true (by first | (with_reducible assumption) | assumption)
                            obtain ⟨ad243, e243, hx243_0⟩ := Kd.at_bool (Kd.R_reads' HO_9.out).2.2 x11_3 p243 q243
                            cases e243
                            replace p243 := eq_true p243
                            replace q243 := eq_true q243
                            go_wp2
                            go_ret
                            exact ⟨by first | rfl | (simp [errW_none, errW_some] <;> rfl) | (simp [*, errW_none, errW_some] <;> rfl), by repeat (first | (with_reducible first | exact HB.out | apply below_alloc | apply pw_below_drewN | apply below_drew1) | exact HB.out)⟩
                          · rw [if_neg c35] at H
                            have c35b0 : ((rdOf false t240 x11_3) != ((wrap64 (x11_3 + 1)) == x10_3)) = false := by simpa using c35
                            (try (have c35b1 : decide ((rdOf false t240 x11_3) = ((wrap64 (x11_3 + 1)) == x10_3)) = true := by simpa using c35))
                            (try (have c35b2 : ((rdOf false t240 x11_3) == ((wrap64 (x11_3 + 1)) == x10_3)) = true := by simpa using c35))
                            clear c35
                            obtain ⟨bq36, hbq36⟩ : ∃ b_ : Bool, b_ = (rdOf false t240 x11_3) := ⟨_, rfl⟩
                            replace H : (if bq36 = true then (variorumlaw16_LinenoMargins.l1 k3 a0 a2 t240 (wrap64 (x10_3 + a2)) (wrap64 (x11_3 + 1))) else (variorumlaw16_LinenoMargins.l1 k3 a0 a2 t240 x10_3 (wrap64 (x11_3 + 1)))) = some r := by rw [← hbq36] at H; exact H
                            have Nbq36 := Aside0.mk hbq36
                            clear hbq36
                            by_cases c37 : bq36 = true
                            · subst c37
                              have c37y : ((wrap64 (x11_3 + 1)) == x10_3) = true := by have h_ := c35b0; rw [← Nbq36.out] at h_; simpa using h_
                              have H1 : (variorumlaw16_LinenoMargins.l1 k3 a0 a2 t240 (wrap64 (x10_3 + a2)) (wrap64 (x11_3 + 1))) = some r := by rw [if_pos rfl] at H; exact H
                              clear H
                              have H := H1
                              clear H1
                              have H' := Aside0.mk H
                              clear H
                              have p243 : 0 ≤ (x11_3 : Int) := of_decide_eq_true (by first | (with_reducible assumption) | assumption)
                              have q243 : x11_3 < (t240.length : Int) := of_decide_eq_true (by first | (with_reducible assumption) | assumption)
                              obtain ⟨ad243, e243, hx243_0⟩ := Kd.at_bool (Kd.R_reads' HO_9.out).2.2 x11_3 p243 q243
                              (try rw [← Nbq36.out] at hx243_0)
                              cases e243
                              replace p243 := eq_true p243
                              replace q243 := eq_true q243
                              have p244 : 0 ≤ (x11_3 : Int) := of_decide_eq_true (by first | (with_reducible assumption) | assumption)
                              have q244 : x11_3 < (t240.length : Int) := of_decide_eq_true (by first | (with_reducible assumption) | assumption)
                              obtain ⟨ad244, e244, hx244_0⟩ := Kd.at_bool (Kd.R_reads' HO_9.out).2.2 x11_3 p244 q244
                              (try rw [← Nbq36.out] at hx244_0)
                              obtain rfl : ad243 = ad244 := (by injection e244)
                              replace p244 := eq_true p244
                              replace q244 := eq_true q244
                              go_wp2
                              go_roundg k3
                              case measure => have := HJ3.out; have := HK2.out; have := HK3.out; omega
                              case rel => exact ⟨(wrap64 (x10_3 + a2)), (wrap64 (x11_3 + 1)), (by first | rfl | (simp; done) | (simp [*]; done)), (by first | rfl | (simp; done) | (simp [*]; done)), H', ⟨by have := HJ3.out; have := HK2.out; have := HK3.out; omega⟩, ⟨by (with_reducible repeat (first | apply Kd.R_alloc | apply Kd.R_drewN | apply Kd.R_drew)); exact HO_9.out⟩, ⟨by repeat (first | (with_reducible first | exact HB.out | apply below_alloc | apply pw_below_drewN | apply below_drew1) | exact HB.out)⟩⟩
                            · replace c37 := Bool.eq_false_iff.mpr c37
                              subst c37
                              have c37y : ((wrap64 (x11_3 + 1)) == x10_3) = false := by have h_ := c35b0; rw [← Nbq36.out] at h_; simpa using h_
                              have H1 : (variorumlaw16_LinenoMargins.l1 k3 a0 a2 t240 x10_3 (wrap64 (x11_3 + 1))) = some r := by rw [if_neg (show ¬ (false = true) by decide)] at H; exact H
                              clear H
                              have H := H1
                              clear H1
                              have H' := Aside0.mk H
                              clear H
                              have p243 : 0 ≤ (x11_3 : Int) := of_decide_eq_true (by first | (with_reducible assumption) | assumption)
                              have q243 : x11_3 < (t240.length : Int) := of_decide_eq_true (by first | (with_reducible assumption) | assumption)
                              obtain ⟨ad243, e243, hx243_0⟩ := Kd.at_bool (Kd.R_reads' HO_9.out).2.2 x11_3 p243 q243
                              (try rw [← Nbq36.out] at hx243_0)
                              cases e243
                              replace p243 := eq_true p243
                              replace q243 := eq_true q243
                              have p244 : 0 ≤ (x11_3 : Int) := of_decide_eq_true (by first | (with_reducible assumption) | assumption)
                              have q244 : x11_3 < (t240.length : Int) := of_decide_eq_true (by first | (with_reducible assumption) | assumption)
                              obtain ⟨ad244, e244, hx244_0⟩ := Kd.at_bool (Kd.R_reads' HO_9.out).2.2 x11_3 p244 q244
                              (try rw [← Nbq36.out] at hx244_0)
                              obtain rfl : ad243 = ad244 := (by injection e244)
                              replace p244 := eq_true p244
                              replace q244 := eq_true q244
                              go_wp2
                              go_roundg k3
                              case measure => have := HJ3.out; have := HK2.out; have := HK3.out; omega
                              case rel => exact ⟨(x10_3), (wrap64 (x11_3 + 1)), (by first | rfl | (simp; done) | (simp [*]; done)), (by first | rfl | (simp; done) | (simp [*]; done)), H', ⟨by have := HJ3.out; have := HK2.out; have := HK3.out; omega⟩, ⟨by (with_reducible repeat (first | apply Kd.R_alloc | apply Kd.R_drewN | apply Kd.R_drew)); exact HO_9.out⟩, ⟨by repeat (first | (with_reducible first | exact HB.out | apply below_alloc | apply pw_below_drewN | apply below_drew1) | exact HB.out)⟩⟩
                        · rw [if_neg c34] at H
                          exact absurd H (by simp)
                      · rw [if_neg c33] at H
                        exact absurd H (by simp)
                    · rw [if_neg c32] at H
                      have c32b0 : decide (x11_3 < a0) = false := decide_eq_false c32
                      clear c32
                      obtain rfl := Option.some.inj H
                      go_wp2
                      go_ret
                      exact ⟨by first | rfl | (simp [errW_none, errW_some] <;> rfl) | (simp [*, errW_none, errW_some] <;> rfl), by repeat (first | (with_reducible first | exact HB.out | apply below_alloc | apply pw_below_drewN | apply below_drew1) | exact HB.out)⟩
              · rw [if_neg c28] at H
                have c28b0 : ((t240.length : Int) == a0) = false := beq_eq_false_iff_ne.mpr c28
                have c28b1 : ((t240.length : Int) != a0) = true := bne_iff_ne.mpr c28
                obtain rfl := Option.some.inj H
                obtain ⟨Ao38, co38, eo38⟩ := Kd.R_slice HO_7.out
                subst eo38
                go_wp2_with (first | ((with_reducible refine gate_callee (f := 11) rfl ?_); refine goesL_ (some 53) rfl rfl Try.func11 (by kernel_rfl) rfl #[.slice Ao38 x7_2.length co38, .int .i64 a1, .int .i64 a2] rfl (by (try simp only [List.map_toArray, List.map_cons, List.map_nil]); first | done | rfl | (simp only [List.length_drop, List.length_take]; rfl) | (simp only [*]; first | done | rfl)) ?_; (with_reducible refine (lineno_Margin.calls k2 _ _ x7_2 a1 a2 t240 _ ?side1 ?side2 A27.out).mono ?_); (case side1 => repeat (first | exact (Kd.R_reads' HO_7.out).2.2 | (with_reducible refine Kd.C_alloc ?_ _) | (with_reducible refine Kd.C_drewN ?_ _) | (with_reducible refine Kd.C_drew ?_))); (case side2 => exact (Kd.R_reads' HO_7.out).2.1); rintro e w39 ⟨v241, rfl, ho0, hb⟩; refine ⟨_, rfl, ?_⟩; have n0_ := Aside0.mk (Kd.R_below (by (with_reducible repeat (first | apply Kd.R_alloc | apply Kd.R_drewN | apply Kd.R_drew)); exact HO_7.out) hb); have n1_ := Aside0.mk (Kd.R_lower ho0 (below_size (by repeat (first | (with_reducible first | exact HB.out | apply below_alloc | apply pw_below_drewN | apply below_drew1) | exact HB.out)))); have n2_ := Aside0.mk (below_step (by repeat (first | (with_reducible first | exact HB.out | apply below_alloc | apply pw_below_drewN | apply below_drew1) | exact HB.out)) hb); clear HO_7; clear HB; have HO_7 := n0_; have HO242 := n1_; have HB := n2_; clear n0_ n1_ n2_; (try clear hb); (try clear hb2); (try clear hk); (try clear hi); (try clear ho0); obtain ⟨Ao40, co40, eo40⟩ := Kd.R_slice HO242.out; subst eo40))
                go_ret
                exact ⟨by first | rfl | (simp [errW_none, errW_some] <;> rfl) | (simp [*, errW_none, errW_some] <;> rfl), by repeat (first | (with_reducible first | exact HB.out | apply below_alloc | apply pw_below_drewN | apply below_drew1) | exact HB.out)⟩

/-- The one statement about numbers and lists that is left of the law. -/
def variorumlaw16_LinenoMargins.Pure : Prop := ∀ (x0 : Int) (x1 : Int) (x2 : Int), (Lit.int .i64 x0).wf = true → (Lit.int .i64 x1).wf = true → (Lit.int .i64 x2).wf = true → ∃ k, variorumlaw16_LinenoMargins.f k x0 x1 x2 = some true

end Go.Proofs.Ytbpomibholcpfaa.PAll

/- BlockPlaces: block and its reference tell the same. -/
import Derived.Test.YtmhnccjdhhcjoaaPAllx8
import Derived.Test.YtmhnccjdhhcjoaaPClear
namespace Go.Proofs.Ytmhnccjdhhcjoaa.Pure
set_option linter.unusedVariables false
set_option linter.unusedSimpArgs false
open Go.RowKit Go.Proofs.Ytmhnccjdhhcjoaa.PAll Go.Proofs.YtmhnccjdhhcjoaaW.PrintWords Go.Proofs.YtmhnccjdhhcjoaaW.PrintLast Go.Proofs.YtmhnccjdhhcjoaaW.PrintMore

theorem spots_ev (a : List S32) (hl : a.length ≤ 100000) : Ev (fun k => variorumref20_Spots.f k a a) true := by
  have key : ∀ (d i : Nat), i + d = a.length → Ev (fun k => variorumref20_Spots.l0 k a a (i : Int)) true := by
    intro d
    induction d with
    | zero =>
      intro i hi
      have g : ¬ (i : Int) < (a.length : Int) := by omega
      refine Ev.step (f := fun _ => some true) (fun k => ?_) (Ev.now _)
      simp only [variorumref20_Spots.l0]
      rw [if_neg g]
    | succ d ih =>
      intro i hi
      have g1 : (i : Int) < (a.length : Int) := by omega
      have g2 : (0 : Int) ≤ (i : Int) := by omega
      have g3 : i ≤ 1000000000000000 := by omega
      refine Ev.step (fun k => ?_) (ih (i + 1) (by omega))
      simp only [variorumref20_Spots.l0, beq_self_eq_true, Bool.not_true, Bool.or_false]
      rw [if_pos g1, if_pos g2, if_pos g1, if_neg (by decide), succ_w i g3]
  refine Ev.congr (fun k => ?_) (key a.length 0 (by omega))
  unfold variorumref20_Spots.f
  rw [if_pos rfl]
  rfl
/-- What Clear tells, both. -/
theorem clears (l : List S32) (h : List Int) (hl : l.length ≤ 1000000) : ∃ b, Ev (fun k => block_Clear.f k l h) b ∧ Ev (fun k => variorumref20_Clear.f k l h) b := by
  by_cases c : Clr l h
  · exact ⟨true, clear_ev l h hl true (by simp [c]), rclear_ev l h hl true (by simp [c])⟩
  · exact ⟨false, clear_ev l h hl false (by simp [c]), rclear_ev l h hl false (by simp [c])⟩

theorem BlockPlaces : variorumlaw20_BlockPlaces.Pure := by
  intro lay h l hlay hl hl2
  refine Ev.rounds (g := fun k => variorumlaw20_BlockPlaces.f k lay h l) ?_
  unfold variorumlaw20_BlockPlaces.f
  have htrue : Ev (fun k => variorumlaw20_BlockPlaces.j0 k lay h l true) true := by
    refine Ev.step (f := fun k => (variorumlaw20_fixed.f k).bind fun t => some t) (fun k => ?_) (Ev.bind fixed_ev (Ev.now _))
    simp [variorumlaw20_BlockPlaces.j0]
  by_cases h60 : (h.length : Int) > 60
  · simp only [if_pos h60]
    exact htrue
  · simp only [if_neg h60]
    by_cases l60 : (l.length : Int) > 60
    · rw [decide_eq_true l60]; exact htrue
    · rw [decide_eq_false l60]
      have main : ∃ (a : List S32) (n : Int) (ok : Bool), Ev (fun k => block_Place.f k lay h) (a, n, ok) ∧ Ev (fun k => variorumref20_Place.f k lay h) (a, n, ok) ∧ a.length ≤ 100000 := by
        by_cases o : Ok h (colsOf lay)
        · obtain ⟨L, hL, hle⟩ := has_least o
          have t := o.tot
          have hlen := o.len
          refine ⟨_, _, _, place_ev o L hL (by omega), rplace_ev o L hL (by omega), ?_⟩
          rw [spots_length]
          have := pos_le h L (colsOf lay).toNat
          omega
        · exact ⟨_, _, _, place_no hl.1 o, rplace_no o, by simp⟩
      obtain ⟨a, n, ok, e1, e2, hal⟩ := main
      obtain ⟨b1, c1, c2⟩ := clears l h (by omega)
      obtain ⟨b2, d1, d2⟩ := clears a h (by omega)
      have hx : Ev (fun k => (block_Place.f k lay h).bind fun bt249 => ((variorumref20_Place.f k lay h).bind fun bt254 => ((variorumlaw20_fixed.f k).bind fun t259 => (if t259 = true then ((variorumref20_Spots.f k bt249.1 bt254.1).bind fun t260 => (if t260 = true then (if bt249.2.1 = bt254.2.1 then (if (bt249.2.2 == bt254.2.2) = true then ((block_Columns.f lay).bind fun t261 => ((variorumref20_Columns.f k lay).bind fun t262 => (if t261 = t262 then ((block_Clear.f k l h).bind fun t263 => ((variorumref20_Clear.f k l h).bind fun t264 => (if (t263 == t264) = true then ((block_Clear.f k bt249.1 h).bind fun t265 => ((variorumref20_Clear.f k bt254.1 h).bind fun t266 => (some (t265 == t266)))) else (none)))) else (none)))) else (none)) else (none)) else (none))) else (none))))) true := by
        refine Ev.bind e1 (Ev.bind e2 (Ev.bind fixed_ev ?_))
        simp only [if_true, beq_self_eq_true]
        refine Ev.bind (spots_ev a hal) ?_
        simp only [if_true, columns_f, Option.bind_some]
        refine Ev.bind (rcolumns_ev lay) ?_
        simp only [if_true]
        refine Ev.bind c1 (Ev.bind c2 ?_)
        simp only [if_true, beq_self_eq_true]
        refine Ev.bind d1 (Ev.bind d2 ?_)
        simp only [beq_self_eq_true]
        exact Ev.now _
      refine Ev.step (fun k => ?_) hx
      simp only [variorumlaw20_BlockPlaces.j0]
      rw [if_neg (by decide)]

end Go.Proofs.Ytmhnccjdhhcjoaa.Pure

/- ColumnLeast: no way to part heights is less high than the balanced one. -/
import Derived.Test.YtgkpomeobaheiaaPAllx5
import Derived.Test.YtgkpomeobaheiaaPLeast
namespace Go.Proofs.Ytgkpomeobaheiaa.Pure
set_option linter.unusedVariables false
set_option linter.unusedSimpArgs false
open Go.RowKit Go.Proofs.Ytgkpomeobaheiaa.PAll Go.Proofs.YtgkpomeobaheiaaW.PrintWords Go.Proofs.YtgkpomeobaheiaaW.PrintLast Go.Proofs.YtgkpomeobaheiaaW.PrintMore

theorem part_add {h : List Int} {m : Int} {c f t : Nat} (hp : Part h m c f) (hft : f ≤ t) : Part h (mx m (pre h t - pre h f)) (c + 1) t := by
  obtain ⟨w, hw⟩ : ∃ w, mx m (pre h t - pre h f) = w := ⟨_, rfl⟩
  have w1 : m ≤ w ∧ pre h t - pre h f ≤ w := by unfold mx at hw; split at hw <;> omega
  rw [hw]
  exact ⟨f, hft, part_mono w1.1 _ _ hp, w1.2⟩

section
variable {h : List Int} {cols : Int} (o : Ok h cols)
include o
theorem least_l1 (parts : List Int) (L : Nat) (hL : IsL h cols.toNat h.length L) (d : Nat) : ∀ (c f : Nat) (m : Int), c + d = cols.toNat → f ≤ h.length → 0 ≤ m → Part h m c f → (c = cols.toNat → f = h.length) →
    Ev (fun k => variorumlaw19_ColumnLeast.l1 k h cols parts (L : Int) (f : Int) m (c : Int)) true := by
  have hlen := o.len
  have h1 := o.c1
  have h2 := o.c2
  induction d with
  | zero =>
    intro c f m hc hf hm hp hlast
    have e : c = cols.toNat := by omega
    have ef := hlast e
    rw [e, ef] at hp
    have hge := hL.least m hm hp
    have g : ¬ (c : Int) < cols := by omega
    refine Ev.step (f := fun _ => some true) (fun k => ?_) (Ev.now _)
    simp only [variorumlaw19_ColumnLeast.l1]
    rw [if_neg g, decide_eq_true hge]
  | succ d ih =>
    intro c f m hc hf hm hp hlast
    have g : (c : Int) < cols := by omega
    have g1 : (0 : Int) ≤ (f : Int) := by omega
    have g9 : c ≤ 1000000000000000 := by omega
    have gc : (0 : Int) ≤ (c : Int) := by omega
    have ew : wrap64 (cols - 1) = cols - 1 := wrap_small (by omega)
    have ef : wrap64 (f : Int) = (f : Int) := wrap_small (by omega)
    have el : wrap64 ((h.length : Int) - (f : Int)) = ((h.length - f : Nat) : Int) := by rw [wrap_small (by omega)]; omega
    -- a column that ends at t
    have go : ∀ t : Nat, f ≤ t → t ≤ h.length → (c + 1 = cols.toNat → t = h.length) → Ev (fun k => if 0 ≤ (f : Int) then (if (f : Int) ≤ (t : Int) then (if (t : Int) ≤ (h.length : Int) then ((variorumref19_Sum.f k ((h.take t).drop f)).bind fun s => variorumlaw19_ColumnLeast.l1 k h cols parts (L : Int) (t : Int) (mx m s) ((c + 1 : Nat) : Int)) else none) else none) else none) true := by
      intro t hft htl hlast2
      have b1 : (f : Int) ≤ (t : Int) := by omega
      have b2 : (t : Int) ≤ (h.length : Int) := by omega
      have hmx : 0 ≤ mx m (pre h t - pre h f) := by unfold mx; split <;> omega
      simp only [if_pos g1, if_pos b1, if_pos b2]
      exact Ev.bind (cut_sum o f t hft htl) (ih (c + 1) t _ (by omega) htl hmx (part_add hp hft) hlast2)
    by_cases a : (c : Int) < cols - 1
    · by_cases b : (c : Int) < (parts.length : Int)
      · by_cases p : rd parts (c : Int) > 0
        · obtain ⟨t, ht, htf⟩ : ∃ t : Nat, wrap64 ((f : Int) + mn (rd parts (c : Int)) ((h.length - f : Nat) : Int)) = (t : Int) ∧ f ≤ t ∧ t ≤ h.length := by
            obtain ⟨w, hw⟩ : ∃ w, mn (rd parts (c : Int)) ((h.length - f : Nat) : Int) = w := ⟨_, rfl⟩
            have w1 : 0 ≤ w ∧ w ≤ ((h.length - f : Nat) : Int) := by unfold mn at hw; split at hw <;> omega
            refine ⟨f + w.toNat, ?_, by omega, by omega⟩
            rw [hw, wrap_small (by omega)]; omega
          refine Ev.step (fun k => ?_) (go t htf.1 htf.2 (by omega))
          simp only [variorumlaw19_ColumnLeast.l1]
          rw [if_pos g, ew, if_pos a, if_pos b, if_pos gc, if_pos p, el, ht, succ_w c g9, Int.toNat_natCast, Int.toNat_natCast]
        · refine Ev.step (fun k => ?_) (go f (Nat.le_refl _) hf (by omega))
          simp only [variorumlaw19_ColumnLeast.l1]
          rw [if_pos g, ew, if_pos a, if_pos b, if_pos gc, if_neg p, ef, succ_w c g9, Int.toNat_natCast]
      · refine Ev.step (fun k => ?_) (go f (Nat.le_refl _) hf (by omega))
        simp only [variorumlaw19_ColumnLeast.l1]
        rw [if_pos g, ew, if_pos a, if_neg b, ef, succ_w c g9, Int.toNat_natCast]
    · have ht : wrap64 ((f : Int) + ((h.length - f : Nat) : Int)) = (h.length : Int) := by rw [wrap_small (by omega)]; omega
      refine Ev.step (fun k => ?_) (go h.length hf (Nat.le_refl _) (fun _ => rfl))
      simp only [variorumlaw19_ColumnLeast.l1]
      rw [if_pos g, ew, if_neg a, el, ht, succ_w c g9, Int.toNat_natCast, Int.toNat_natCast]

theorem least_l0 (parts : List Int) (L : Nat) (hL : IsL h cols.toNat h.length L) (hfull : h.length ≤ pos h L cols.toNat) (d : Nat) : ∀ (c : Nat) (m : Int), c + d = cols.toNat → m ≤ (L : Int) →
    Ev (fun k => variorumlaw19_ColumnLeast.l0 k h cols parts (counts h L cols.toNat) (L : Int) (pos h L c : Nat) m (c : Int)) true := by
  have hlen := o.len
  have h1 := o.c1
  have h2 := o.c2
  induction d with
  | zero =>
    intro c m hc hm
    have e : c = cols.toNat := by omega
    have hp := pos_le h L c
    have g : ¬ (c : Int) < ((counts h L cols.toNat).length : Int) := by rw [counts_length]; omega
    have g1 : ((pos h L c : Nat) : Int) = (h.length : Int) := by rw [e] at hp ⊢; omega
    have g2 : ((counts h L cols.toNat).length : Int) = cols := by rw [counts_length]; omega
    have g3 : ¬ m > (L : Int) := by omega
    have hl := least_l1 o parts L hL cols.toNat 0 0 0 (by omega) (Nat.zero_le _) (Int.le_refl _) rfl (by omega)
    have hj : Ev (fun k => variorumlaw19_ColumnLeast.j2 k h cols parts (L : Int) false) true := by
      refine Ev.step (fun k => ?_) hl
      simp only [variorumlaw19_ColumnLeast.j2]
      rw [if_neg (by decide)]
      rfl
    refine Ev.step (fun k => ?_) hj
    simp only [variorumlaw19_ColumnLeast.l0]
    rw [if_neg g, if_pos g1, if_pos g2, decide_eq_false g3]
  | succ d ih =>
    intro c m hc hm
    have hp := pos_le h L (c + 1)
    have hs := pos_step h L c
    have g : (c : Int) < ((counts h L cols.toNat).length : Int) := by rw [counts_length]; omega
    have g1 : (0 : Int) ≤ (c : Int) := by omega
    have g9 : c ≤ 1000000000000000 := by omega
    have er : rd (counts h L cols.toNat) (c : Int) = diff h L c := counts_rd h L _ c (by omega)
    have ed : diff h L c = ((pos h L (c + 1) - pos h L c : Nat) : Int) := rfl
    have g2 : ¬ diff h L c < 0 := by rw [ed]; omega
    have g3 : (0 : Int) ≤ ((pos h L c : Nat) : Int) := by omega
    have g4 : ¬ ((pos h L (c + 1) : Nat) : Int) > (h.length : Int) := by omega
    have g5 : ((pos h L c : Nat) : Int) ≤ ((pos h L (c + 1) : Nat) : Int) := by omega
    have g6 : ((pos h L (c + 1) : Nat) : Int) ≤ (h.length : Int) := by omega
    have hle : pre h (pos h L (c + 1)) - pre h (pos h L c) ≤ (L : Int) := by
      rcases pos_room h L c with e | e
      · rw [e]; omega
      · exact e
    have hmx : mx m (pre h (pos h L (c + 1)) - pre h (pos h L c)) ≤ (L : Int) := by unfold mx; split <;> omega
    have hn := ih (c + 1) _ (by omega) hmx
    have ew : wrap64 ((pos h L c : Nat) + diff h L c) = ((pos h L (c + 1) : Nat) : Int) := by rw [ed, wrap_small (by omega)]; omega
    have hx : Ev (fun k => (variorumref19_Sum.f k ((h.take (pos h L (c + 1))).drop (pos h L c))).bind fun t => variorumlaw19_ColumnLeast.l0 k h cols parts (counts h L cols.toNat) (L : Int) (pos h L (c + 1) : Nat) (mx m t) ((c + 1 : Nat) : Int)) true :=
      Ev.bind (cut_sum o (pos h L c) (pos h L (c + 1)) hs hp) hn
    refine Ev.step (fun k => ?_) hx
    simp only [variorumlaw19_ColumnLeast.l0]
    rw [if_pos g, if_pos g1, er, if_neg g2, ew, if_neg g4, if_pos g3, if_pos g5, if_pos g6, succ_w c g9, Int.toNat_natCast, Int.toNat_natCast]
end

theorem ColumnLeast : variorumlaw19_ColumnLeast.Pure := by
  intro h cols parts hl hc hr
  refine Ev.rounds (g := fun k => variorumlaw19_ColumnLeast.f k h cols parts) ?_
  unfold variorumlaw19_ColumnLeast.f
  have htrue : ∀ x7 x8, Ev (fun k => variorumlaw19_ColumnLeast.j0 k h cols parts x7 x8 true) true := by
    intro x7 x8
    refine Ev.step (f := fun k => (variorumlaw19_fixed.f k).bind fun t => some t) (fun k => ?_) (Ev.bind fixed_ev (Ev.now _))
    simp [variorumlaw19_ColumnLeast.j0]
  by_cases o : Ok h cols
  · obtain ⟨L, hL, hle⟩ := has_least o
    have t := o.tot
    have hfull := (part_iff o.nn (L : Int) (by omega) cols.toNat).1 hL.is
    refine Ev.bind (balance_ev o L hL (by omega)) (Ev.bind fixed_ev ?_)
    simp only [if_true]
    by_cases h100 : (h.length : Int) > 100
    · rw [decide_eq_true h100]; exact htrue _ _
    · rw [decide_eq_false h100]
      refine Ev.step (fun k => ?_) (least_l0 o parts L hL hfull cols.toNat 0 0 (by omega) (by omega))
      simp only [variorumlaw19_ColumnLeast.j0]
      rw [if_neg (by decide)]
      rfl
  · refine Ev.bind (balance_no hl.1 o) (Ev.bind fixed_ev ?_)
    refine Ev.congr (fun k => ?_) (htrue [] 0)
    simp

end Go.Proofs.Ytgkpomeobaheiaa.Pure

/- FacingSame: with the same rows on both sides, each spread holds the same row on both of its pages, and no page is blank. -/
import Derived.Test.YtmlabpegopkpkaaPAllx6
import Derived.Test.YtmlabpegopkpkaaPLib
namespace Go.Proofs.Ytmlabpegopkpkaa.Pure
set_option linter.unusedVariables false
set_option linter.unusedSimpArgs false
open Go.RowKit Go.Proofs.Ytmlabpegopkpkaa.PAll Go.Proofs.YtmlabpegopkpkaaW.PrintWords Go.Proofs.YtmlabpegopkpkaaW.PrintLast Go.Proofs.YtmlabpegopkpkaaW.PrintMore

theorem pred_wrap (n : Nat) (h : n ≤ 4000) : wrap64 ((n : Int) - 1) = (n : Int) - 1 := wrap_small (by omega)
theorem succ_wrap (n : Nat) (h : n ≤ 4000) : wrap64 ((n : Int) + 1) = ((n + 1 : Nat) : Int) := by rw [wrap_small (by omega)]; omega
theorem many_same (l : List Int) (c : Nat) (h : 0 ≤ rd l c) : (many l l c : Int) = rd l c := by
  unfold many mx
  split <;> omega

theorem same_l1 (l : List Int) (hb : before l l l.length ≤ 2000) (hq : ∀ c : Nat, c < l.length → 0 ≤ rd l c) (d : Nat) : ∀ q : Nat, q + d = 2 * before l l l.length →
    Ev (fun k => variorumlaw23_FacingSame.l1 k (pagesL l l l.length) (before l l l.length : Nat) q) true := by
  have hlen := pagesL_length l l l.length
  induction d with
  | zero =>
    intro q hqd
    refine Ev.step (f := fun _ => some true) (fun k => ?_) (Ev.now _)
    have e : wrap64 (2 * ((before l l l.length : Nat) : Int)) = ((2 * before l l l.length : Nat) : Int) := by rw [wrap_small (by omega)]; omega
    simp only [variorumlaw23_FacingSame.l1]
    rw [if_neg (by rw [hlen]; omega), e, hlen]
    simp
  | succ d ih =>
    intro q hqd
    have h := ih (q + 1) (by omega)
    refine Ev.step (f := fun k => variorumlaw23_FacingSame.l1 k (pagesL l l l.length) (before l l l.length : Nat) ((q + 1 : Nat) : Int)) (fun k => ?_) h
    obtain ⟨c, i, σ, hc, hi, hp⟩ := place l l l.length q (by omega)
    have hr := pages_rd l l l.length c i σ hc hi
    rw [← hp] at hr
    have hm := many_same l c (hq c hc)
    have hw : ∀ σ, which i (ofSide l l c σ) = (i : Int) := by
      intro σ
      have : ofSide l l c σ = rd l c := by unfold ofSide; split <;> rfl
      unfold which
      rw [this, if_neg (by omega)]
    have hlt : (q : Int) < ((pagesL l l l.length).length : Int) := by rw [hlen]; omega
    have hq4 : q ≤ 4000 := by omega
    simp only [variorumlaw23_FacingSame.l1]
    rw [if_pos hlt, if_pos (by omega), hr, cell_parts]
    dsimp only
    rw [hw, if_neg (by omega)]
    cases σ with
    | false =>
      have ht : ¬ Int.tmod (q : Int) 2 = 1 := by rw [hp, if_neg (by decide)]; rw [Int.tmod_eq_emod_of_nonneg (by omega)]; omega
      rw [if_neg ht, succ_wrap q hq4]
    | true =>
      rw [if_pos rfl] at hp
      have ht : Int.tmod (q : Int) 2 = 1 := by rw [hp]; rw [Int.tmod_eq_emod_of_nonneg (by omega)]; omega
      have hr2 := pages_rd l l l.length c i false hc hi
      rw [if_neg (by decide), Nat.add_zero] at hr2
      have e3 : (q : Int) - 1 = ((2 * (before l l c + i) : Nat) : Int) := by omega
      have g1 : (0 : Int) ≤ ((2 * (before l l c + i) : Nat) : Int) := Int.natCast_nonneg _
      have g2 : ((2 * (before l l c + i) : Nat) : Int) < ((pagesL l l l.length).length : Int) := by omega
      rw [if_pos ht, pred_wrap q hq4, succ_wrap q hq4, e3, hr2, cell_parts]
      dsimp only
      rw [hw, if_pos g1, if_pos g2, if_pos rfl, if_pos rfl]

theorem same_l0 (l : List Int) (hlen : l.length ≤ 50) (hb : before l l l.length ≤ 2000) (hq : ∀ c : Nat, c < l.length → 0 ≤ rd l c) (d : Nat) : ∀ c : Nat, c + d = l.length → before l l c ≤ 2000 →
    Ev (fun k => variorumlaw23_FacingSame.l0 k l (pagesL l l l.length) (before l l c : Nat) c) true := by
  induction d with
  | zero =>
    intro c hc _
    have e : c = l.length := by omega
    subst e
    refine Ev.step (f := fun k => variorumlaw23_FacingSame.l1 k (pagesL l l l.length) (before l l l.length : Nat) ((0 : Nat) : Int)) (fun k => ?_) (same_l1 l hb hq (2 * before l l l.length) 0 (by omega))
    simp only [variorumlaw23_FacingSame.l0]
    rw [if_neg (by omega)]
    rfl
  | succ d ih =>
    intro c hc hbc
    have hm := many_same l c (hq c (by omega))
    have hle : before l l (c + 1) ≤ before l l l.length := by
      have : ∀ n, ∀ m, before l l m ≤ before l l (m + n) := by
        intro n
        induction n with
        | zero => intro m; exact Nat.le_refl _
        | succ n ihn => intro m; exact Nat.le_trans (ihn m) (Nat.le_add_right _ _)
      have h2 := this (l.length - (c + 1)) (c + 1)
      rw [show c + 1 + (l.length - (c + 1)) = l.length by omega] at h2
      exact h2
    have hb1 : before l l (c + 1) = before l l c + many l l c := rfl
    refine Ev.step (f := fun k => variorumlaw23_FacingSame.l0 k l (pagesL l l l.length) (before l l (c + 1) : Nat) ((c + 1 : Nat) : Int)) (fun k => ?_) (ih (c + 1) (by omega) (by omega))
    have g0 : c ≤ 4000 := by omega
    have g1 : (c : Int) < (l.length : Int) := by omega
    have g2 : (0 : Int) ≤ (c : Int) := by omega
    have e2 : wrap64 ((before l l c : Nat) + rd l c) = ((before l l (c + 1) : Nat) : Int) := by rw [hb1, wrap_small (by omega)]; omega
    simp only [variorumlaw23_FacingSame.l0]
    rw [if_pos g1, if_pos g2, succ_wrap c g0, e2]

theorem FacingSame : variorumlaw23_FacingSame.Pure := by
  intro l hl
  obtain ⟨res, ht, hev⟩ := pages_ev l l hl.1
  refine Ev.rounds (g := fun k => variorumlaw23_FacingSame.f k l) ?_
  unfold variorumlaw23_FacingSame.f
  refine Ev.bind hev (Ev.bind fixed_ev ?_)
  simp only [if_true]
  have htrue : Ev (fun k => variorumlaw23_FacingSame.j0 k l res.1 true) true := by
    refine Ev.step (f := fun k => (variorumlaw23_fixed.f k).bind fun t => some t) (fun k => ?_) (Ev.bind fixed_ev (Ev.now _))
    simp [variorumlaw23_FacingSame.j0]
  rcases ht with ⟨h1, h2⟩ | ⟨_, rfl, hq, hb⟩
  · simp only [if_neg h1]
    exact htrue
  · simp only [if_true]
    by_cases h50 : l.length ≤ 50
    · rw [decide_eq_false (by omega)]
      refine Ev.step (f := fun k => variorumlaw23_FacingSame.l0 k l (pagesL l l l.length) (before l l 0 : Nat) ((0 : Nat) : Int)) (fun k => ?_) (same_l0 l h50 hb (fun c hc => (hq c hc).1) l.length 0 (by omega) (by simp [before]))
      simp [variorumlaw23_FacingSame.j0, before]
    · rw [decide_eq_true (by omega)]
      exact htrue

end Go.Proofs.Ytmlabpegopkpkaa.Pure

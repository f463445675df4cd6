/- Glue's plain lemmas: whether it may be, its total, how it is set. -/
import Derived.Test.YtpfnfofaajpdmaaPLnx9
import Derived.Test.YtpfnfofaajpdmaaLDem
namespace Go.Proofs.Ytpfnfofaajpdmaa.Pure
set_option linter.unusedVariables false
set_option linter.unusedSimpArgs false
open Go.RowKit Go.Proofs.Ytpfnfofaajpdmaa.PLn Go.Proofs.YtpfnfofaajpdmaaW.PrintWords Go.Proofs.YtpfnfofaajpdmaaW.PrintLast Go.Proofs.YtpfnfofaajpdmaaW.PrintMore


def fi (a : Int) : Bool := decide (-1073741823 ≤ a ∧ a ≤ 1073741823)
theorem fi_iff {a : Int} : fi a = true ↔ -1073741823 ≤ a ∧ a ≤ 1073741823 := by unfold fi; exact decide_eq_true_iff
theorem fits_f (a : Int) : scaled_Fits.f a = some (fi a) := by
  unfold scaled_Fits.f fi
  by_cases h : a ≥ -1073741823
  · rw [if_pos h]; congr 1; exact decide_eq_decide.2 ⟨fun x => ⟨h, x⟩, fun x => x.2⟩
  · rw [if_neg h]; congr 1; symm; exact decide_eq_false (fun x => h x.1)
def am (a : Int) : Bool := decide (0 ≤ a ∧ a ≤ 1073741823)
theorem am_iff {a : Int} : am a = true ↔ 0 ≤ a ∧ a ≤ 1073741823 := by unfold am; exact decide_eq_true_iff
theorem amount_f (a : Int) : glue_amount.f a = some (am a) := by
  unfold glue_amount.f am
  by_cases h : a ≥ 0
  · rw [if_pos h, fits_f]; simp only [Option.bind_some]; congr 1; unfold fi; exact decide_eq_decide.2 ⟨fun x => ⟨h, x.2⟩, fun x => ⟨by omega, x.2⟩⟩
  · rw [if_neg h]; congr 1; symm; exact decide_eq_false (fun x => h x.1)

/-! ## May -/
def mv (g : List S38) : Nat → Nat → Int → Int → Int → Bool
  | 0, _, w, s, h => am w && (am s && am h)
  | d + 1, i, w, s, h => if fi (rd_T38 g (i : Int)).f0 = true then (if am (rd_T38 g (i : Int)).f1 = true then (if am (rd_T38 g (i : Int)).f2 = true then (if (rd_T38 g (i : Int)).f3 < 0 then false else if (rd_T38 g (i : Int)).f3 > 3 then false else mv g d (i + 1) (w + mx (rd_T38 g (i : Int)).f0 (-(rd_T38 g (i : Int)).f0)) (s + (rd_T38 g (i : Int)).f1) (h + (rd_T38 g (i : Int)).f2)) else false) else false) else false
def my (g : List S38) : Bool := if (g.length : Int) > 2000 then false else mv g g.length 0 0 0 0
theorem mv_all (g : List S38) : ∀ d i w s h, mv g d i w s h = true → ∀ j, i ≤ j → j < i + d → (fi (rd_T38 g (j : Int)).f0 = true ∧ am (rd_T38 g (j : Int)).f1 = true ∧ 0 ≤ (rd_T38 g (j : Int)).f3 ∧ (rd_T38 g (j : Int)).f3 ≤ 3)
  | 0, i, w, s, h => fun _ j h1 h2 => by omega
  | d + 1, i, w, s, h => fun hm j h1 h2 => by
    simp only [mv] at hm
    split at hm
    · split at hm
      · split at hm
        · split at hm
          · exact absurd hm (by simp)
          · split at hm
            · exact absurd hm (by simp)
            · rename_i a1 a2 a3 a4 a5
              by_cases e : j = i
              · subst e; exact ⟨a1, a2, by omega, by omega⟩
              · exact mv_all g d (i + 1) _ _ _ hm j (by omega) (by omega)
        · exact absurd hm (by simp)
      · exact absurd hm (by simp)
    · exact absurd hm (by simp)
theorem my_all {g : List S38} (h : my g = true) : g.length ≤ 2000 ∧ ∀ j : Nat, j < g.length → (fi (rd_T38 g (j : Int)).f0 = true ∧ am (rd_T38 g (j : Int)).f1 = true ∧ 0 ≤ (rd_T38 g (j : Int)).f3 ∧ (rd_T38 g (j : Int)).f3 ≤ 3) := by
  unfold my at h
  split at h
  · exact absurd h (by simp)
  · exact ⟨by omega, fun j hj => mv_all g _ _ _ _ _ h j (by omega) (by omega)⟩
theorem may2_loop (g : List S38) (hl : g.length ≤ 2000) : ∀ (d i : Nat) (w s h : Int), i + d = g.length → (0 ≤ w ∧ w ≤ (i : Int) * 1073741823) → (0 ≤ s ∧ s ≤ (i : Int) * 1073741823) → (0 ≤ h ∧ h ≤ (i : Int) * 1073741823) → Ev (fun k => glue_May.l0 k g (g.length : Int) (i : Int) w s h) (mv g d i w s h) := by
  intro d
  induction d with
  | zero =>
    intro i w s h hi hw hs hh
    have g0 : ¬ (i : Int) < (g.length : Int) := by omega
    refine Ev.step (f := fun _ => some _) (fun k => ?_) (Ev.now _)
    simp only [glue_May.l0]
    rw [if_neg g0, amount_f, amount_f, amount_f]
    simp only [Option.bind_some, mv]
    cases am w <;> cases am s <;> rfl
  | succ d ih =>
    intro i w s h hi hw hs hh
    have g1 : (i : Int) < (g.length : Int) := by omega
    have g2 : (0 : Int) ≤ (i : Int) := by omega
    have g3 : i ≤ 1000000000000000 := by omega
    by_cases a1 : fi (rd_T38 g (i : Int)).f0 = true
    · by_cases a2 : am (rd_T38 g (i : Int)).f1 = true
      · by_cases a3 : am (rd_T38 g (i : Int)).f2 = true
        · by_cases a4 : (rd_T38 g (i : Int)).f3 < 0
          · refine Ev.step (f := fun _ => some _) (fun k => ?_) (Ev.now _)
            simp only [glue_May.l0]
            rw [if_pos g1, if_pos g2, if_pos g1, fits_f]
            simp only [Option.bind_some]
            rw [if_pos a1, amount_f]; simp only [Option.bind_some]
            rw [if_pos a2, amount_f]; simp only [Option.bind_some]
            rw [if_pos a3, if_pos a4]
            simp [mv, a1, a2, a3, a4]
          · by_cases a5 : (rd_T38 g (i : Int)).f3 > 3
            · refine Ev.step (f := fun _ => some _) (fun k => ?_) (Ev.now _)
              simp only [glue_May.l0]
              rw [if_pos g1, if_pos g2, if_pos g1, fits_f]
              simp only [Option.bind_some]
              rw [if_pos a1, amount_f]; simp only [Option.bind_some]
              rw [if_pos a2, amount_f]; simp only [Option.bind_some]
              rw [if_pos a3, if_neg a4, if_pos a5]
              simp [mv, a1, a2, a3, a4, a5]
            · have b1 := fi_iff.1 a1
              have b2 := am_iff.1 a2
              have b3 := am_iff.1 a3
              have e0 : wrap64 (-(rd_T38 g (i : Int)).f0) = -(rd_T38 g (i : Int)).f0 := wrap_small (by omega)
              have m1 : 0 ≤ mx (rd_T38 g (i : Int)).f0 (-(rd_T38 g (i : Int)).f0) ∧ mx (rd_T38 g (i : Int)).f0 (-(rd_T38 g (i : Int)).f0) ≤ 1073741823 := by unfold mx; split <;> omega
              have e1 : wrap64 (w + mx (rd_T38 g (i : Int)).f0 (-(rd_T38 g (i : Int)).f0)) = w + mx (rd_T38 g (i : Int)).f0 (-(rd_T38 g (i : Int)).f0) := wrap_small (by omega)
              have e2 : wrap64 (s + (rd_T38 g (i : Int)).f1) = s + (rd_T38 g (i : Int)).f1 := wrap_small (by omega)
              have e3 : wrap64 (h + (rd_T38 g (i : Int)).f2) = h + (rd_T38 g (i : Int)).f2 := wrap_small (by omega)
              have hv : mv g (d + 1) i w s h = mv g d (i + 1) (w + mx (rd_T38 g (i : Int)).f0 (-(rd_T38 g (i : Int)).f0)) (s + (rd_T38 g (i : Int)).f1) (h + (rd_T38 g (i : Int)).f2) := by
                simp only [mv]; rw [if_pos a1, if_pos a2, if_pos a3, if_neg a4, if_neg a5]
              rw [hv]
              refine Ev.step (fun k => ?_) (ih (i + 1) (w + mx (rd_T38 g (i : Int)).f0 (-(rd_T38 g (i : Int)).f0)) (s + (rd_T38 g (i : Int)).f1) (h + (rd_T38 g (i : Int)).f2) (by omega) (by omega) (by omega) (by omega))
              simp only [glue_May.l0]
              rw [if_pos g1, if_pos g2, if_pos g1, fits_f]
              simp only [Option.bind_some]
              rw [if_pos a1, amount_f]; simp only [Option.bind_some]
              rw [if_pos a2, amount_f]; simp only [Option.bind_some]
              rw [if_pos a3, if_neg a4, if_neg a5, e0, e1, e2, e3, succ_w i g3]
        · refine Ev.step (f := fun _ => some _) (fun k => ?_) (Ev.now _)
          simp only [glue_May.l0]
          rw [if_pos g1, if_pos g2, if_pos g1, fits_f]
          simp only [Option.bind_some]
          rw [if_pos a1, amount_f]; simp only [Option.bind_some]
          rw [if_pos a2, amount_f]; simp only [Option.bind_some]
          rw [if_neg a3]
          simp [mv, a1, a2, a3]
      · refine Ev.step (f := fun _ => some _) (fun k => ?_) (Ev.now _)
        simp only [glue_May.l0]
        rw [if_pos g1, if_pos g2, if_pos g1, fits_f]
        simp only [Option.bind_some]
        rw [if_pos a1, amount_f]; simp only [Option.bind_some]
        rw [if_neg a2]
        simp [mv, a1, a2]
    · refine Ev.step (f := fun _ => some _) (fun k => ?_) (Ev.now _)
      simp only [glue_May.l0]
      rw [if_pos g1, if_pos g2, if_pos g1, fits_f]
      simp only [Option.bind_some]
      rw [if_neg a1]
      simp [mv, a1]
theorem gmay_ev (g : List S38) : Ev (fun k => glue_May.f k g) (my g) := by
  unfold glue_May.f my
  by_cases h : (g.length : Int) > 2000
  · simp only [if_pos h]; exact Ev.now _
  · simp only [if_neg h]
    have := may2_loop g (by omega) g.length 0 0 0 0 (by omega) (by omega) (by omega) (by omega)
    simpa using this

/-! ## Total -/
abbrev T6 := Int × Int × Int × Int × Int × Int
def tv (g : List S38) : Nat → Nat → Int → Int → Int → Int → Int → Int → T6
  | 0, _, w, h, s0, s1, s2, s3 => (w, h, s0, s1, s2, s3)
  | d + 1, i, w, h, s0, s1, s2, s3 =>
    if (rd_T38 g (i : Int)).f3 = 0 then tv g d (i + 1) (wrap64 (w + (rd_T38 g (i : Int)).f0)) (wrap64 (h + (rd_T38 g (i : Int)).f2)) (wrap64 (s0 + (rd_T38 g (i : Int)).f1)) s1 s2 s3
    else if (rd_T38 g (i : Int)).f3 = 1 then tv g d (i + 1) (wrap64 (w + (rd_T38 g (i : Int)).f0)) (wrap64 (h + (rd_T38 g (i : Int)).f2)) s0 (wrap64 (s1 + (rd_T38 g (i : Int)).f1)) s2 s3
    else if (rd_T38 g (i : Int)).f3 = 2 then tv g d (i + 1) (wrap64 (w + (rd_T38 g (i : Int)).f0)) (wrap64 (h + (rd_T38 g (i : Int)).f2)) s0 s1 (wrap64 (s2 + (rd_T38 g (i : Int)).f1)) s3
    else tv g d (i + 1) (wrap64 (w + (rd_T38 g (i : Int)).f0)) (wrap64 (h + (rd_T38 g (i : Int)).f2)) s0 s1 s2 (wrap64 (s3 + (rd_T38 g (i : Int)).f1))
def tt (g : List S38) : T6 := if my g = true then tv g g.length 0 0 0 0 0 0 0 else (0, 0, 0, 0, 0, 0)
theorem tv_pos (g : List S38) (hl : g.length ≤ 2000) (hg : ∀ j : Nat, j < g.length → (fi (rd_T38 g (j : Int)).f0 = true ∧ am (rd_T38 g (j : Int)).f1 = true ∧ 0 ≤ (rd_T38 g (j : Int)).f3 ∧ (rd_T38 g (j : Int)).f3 ≤ 3)) :
    ∀ d i w h s0 s1 s2 s3, i + d = g.length → (0 ≤ s0 ∧ s0 ≤ (i : Int) * 1073741823) → (0 ≤ s1 ∧ s1 ≤ (i : Int) * 1073741823) → (0 ≤ s2 ∧ s2 ≤ (i : Int) * 1073741823) → (0 ≤ s3 ∧ s3 ≤ (i : Int) * 1073741823) →
      0 ≤ (tv g d i w h s0 s1 s2 s3).2.2.1 ∧ 0 ≤ (tv g d i w h s0 s1 s2 s3).2.2.2.1 ∧ 0 ≤ (tv g d i w h s0 s1 s2 s3).2.2.2.2.1 ∧ 0 ≤ (tv g d i w h s0 s1 s2 s3).2.2.2.2.2
  | 0, i, w, h, s0, s1, s2, s3 => fun _ h0 h1 h2 h3 => ⟨h0.1, h1.1, h2.1, h3.1⟩
  | d + 1, i, w, h, s0, s1, s2, s3 => fun hi h0 h1 h2 h3 => by
    have b2 := am_iff.1 (hg i (by omega)).2.1
    have e0 : wrap64 (s0 + (rd_T38 g (i : Int)).f1) = s0 + (rd_T38 g (i : Int)).f1 := wrap_small (by omega)
    have e1 : wrap64 (s1 + (rd_T38 g (i : Int)).f1) = s1 + (rd_T38 g (i : Int)).f1 := wrap_small (by omega)
    have e2 : wrap64 (s2 + (rd_T38 g (i : Int)).f1) = s2 + (rd_T38 g (i : Int)).f1 := wrap_small (by omega)
    have e3 : wrap64 (s3 + (rd_T38 g (i : Int)).f1) = s3 + (rd_T38 g (i : Int)).f1 := wrap_small (by omega)
    simp only [tv]
    rw [e0, e1, e2, e3]
    split
    · exact tv_pos g hl hg d (i + 1) _ _ _ _ _ _ (by omega) (by omega) (by omega) (by omega) (by omega)
    · split
      · exact tv_pos g hl hg d (i + 1) _ _ _ _ _ _ (by omega) (by omega) (by omega) (by omega) (by omega)
      · split
        · exact tv_pos g hl hg d (i + 1) _ _ _ _ _ _ (by omega) (by omega) (by omega) (by omega) (by omega)
        · exact tv_pos g hl hg d (i + 1) _ _ _ _ _ _ (by omega) (by omega) (by omega) (by omega) (by omega)
theorem tt_pos (g : List S38) : 0 ≤ (tt g).2.2.1 ∧ 0 ≤ (tt g).2.2.2.1 ∧ 0 ≤ (tt g).2.2.2.2.1 ∧ 0 ≤ (tt g).2.2.2.2.2 := by
  unfold tt
  split
  · rename_i h
    have := my_all h
    exact tv_pos g this.1 this.2 _ _ _ _ _ _ _ _ (by omega) (by omega) (by omega) (by omega) (by omega)
  · simp
def t7 (t : T6) (b : Bool) : Int × Int × Int × Int × Int × Int × Bool := (t.1, t.2.1, t.2.2.1, t.2.2.2.1, t.2.2.2.2.1, t.2.2.2.2.2, b)
theorem total_loop (g : List S38) (hl : g.length ≤ 2000) (hg : ∀ j : Nat, j < g.length → (0 ≤ (rd_T38 g (j : Int)).f3 ∧ (rd_T38 g (j : Int)).f3 ≤ 3)) : ∀ (d i : Nat) (w h s0 s1 s2 s3 : Int), i + d = g.length → Ev (fun k => glue_Total.l0 k g w h s0 s1 s2 s3 (i : Int)) (t7 (tv g d i w h s0 s1 s2 s3) true) := by
  intro d
  induction d with
  | zero =>
    intro i w h s0 s1 s2 s3 hi
    have g0 : ¬ (i : Int) < (g.length : Int) := by omega
    refine Ev.step (f := fun _ => some _) (fun k => ?_) (Ev.now _)
    simp only [glue_Total.l0]
    rw [if_neg g0]; rfl
  | succ d ih =>
    intro i w h s0 s1 s2 s3 hi
    have g1 : (i : Int) < (g.length : Int) := by omega
    have g2 : (0 : Int) ≤ (i : Int) := by omega
    have g3 : i ≤ 1000000000000000 := by omega
    have g4 := hg i (by omega)
    by_cases a0 : (rd_T38 g (i : Int)).f3 = 0
    · simp only [tv]
      rw [if_pos a0]
      refine Ev.step (fun k => ?_) (ih (i + 1) _ _ _ _ _ _ (by omega))
      simp only [glue_Total.l0]
      rw [if_pos g1, if_pos g2, if_pos a0, succ_w i g3]
    · by_cases a1 : (rd_T38 g (i : Int)).f3 = 1
      · simp only [tv]
        rw [if_neg a0, if_pos a1]
        refine Ev.step (fun k => ?_) (ih (i + 1) _ _ _ _ _ _ (by omega))
        simp only [glue_Total.l0]
        rw [if_pos g1, if_pos g2, if_neg a0, if_pos a1, succ_w i g3]
      · by_cases a2 : (rd_T38 g (i : Int)).f3 = 2
        · simp only [tv]
          rw [if_neg a0, if_neg a1, if_pos a2]
          refine Ev.step (fun k => ?_) (ih (i + 1) _ _ _ _ _ _ (by omega))
          simp only [glue_Total.l0]
          rw [if_pos g1, if_pos g2, if_neg a0, if_neg a1, if_pos a2, succ_w i g3]
        · have a3 : (rd_T38 g (i : Int)).f3 = 3 := by omega
          simp only [tv]
          rw [if_neg a0, if_neg a1, if_neg a2]
          refine Ev.step (fun k => ?_) (ih (i + 1) _ _ _ _ _ _ (by omega))
          simp only [glue_Total.l0]
          rw [if_pos g1, if_pos g2, if_neg a0, if_neg a1, if_neg a2, if_pos a3, succ_w i g3]
theorem total_ev (g : List S38) : Ev (fun k => glue_Total.f k g) (t7 (tt g) (my g)) := by
  unfold glue_Total.f tt
  refine Ev.bind (gmay_ev g) ?_
  by_cases h : my g = true
  · have a := my_all h
    rw [h]; simp only [if_pos]
    exact total_loop g a.1 (fun j hj => (a.2 j hj).2.2) g.length 0 _ _ _ _ _ _ (by omega)
  · simp only [if_neg h]
    rw [Bool.eq_false_iff.mpr h]; exact Ev.now _

/-! ## Sub, badness, and how a line is set -/
def sb (a b : Int) : Int × Bool := if fi a = true then (if fi b = true then (if fi (wrap64 (a - b)) = true then (wrap64 (a - b), true) else (0, false)) else (0, false)) else (0, false)
theorem fitted_f (a : Int) (b : Bool) : scaled_fitted.f a b = some (if b = true then (if fi a = true then (a, true) else (0, false)) else (0, false)) := by
  unfold scaled_fitted.f
  cases b
  · rfl
  · simp only [if_true, fits_f, Option.bind_some]; split <;> rfl
theorem sub_f (a b : Int) : scaled_Sub.f a b = some (sb a b) := by
  unfold scaled_Sub.f sb
  rw [fits_f]; simp only [Option.bind_some]
  by_cases h : fi a = true
  · rw [if_pos h, if_pos h, fits_f]; simp only [Option.bind_some, fitted_f]
  · rw [if_neg h, if_neg h]; simp only [fitted_f, Option.bind_some]; rfl
def fin (r : Int) : Int := if r > 1290 then 10000 else wrap64 (Int.tdiv (wrap64 ((wrap64 ((wrap64 (r * r)) * r)) + 131072)) 262144)
def bd (t s : Int) : Int := if am t = true then (if am s = true then (if t = 0 then 0 else if s = 0 then 10000 else if t ≤ 7230584 then fin (wrap64 (Int.tdiv (wrap64 (t * 297)) s)) else if s ≥ 1663497 then fin (wrap64 (Int.tdiv t (wrap64 (Int.tdiv s 297)))) else fin t) else -1) else -1
theorem quot_ne (s : Int) (h : s ≥ 1663497) (h2 : s ≤ 1073741823) : ¬ wrap64 (Int.tdiv s 297) = 0 := by
  have e : Int.tdiv s 297 = s / 297 := Int.tdiv_eq_ediv_of_nonneg (by omega)
  rw [e, wrap_small (by omega)]; omega
theorem bad_j (t s : Int) (b : Bool) (hb : b = false → (0 ≤ t ∧ t ≤ 1073741823) ∧ (0 ≤ s ∧ s ≤ 1073741823)) : Ev (fun k => glue_Badness.j0 k t s b) (if b = true then -1 else bd t s) := by
  refine Ev.step (f := fun _ => some _) (fun k => ?_) (Ev.now _)
  simp only [glue_Badness.j0]
  cases b
  · obtain ⟨h1, h2⟩ := hb rfl
    have q := fun h => quot_ne s h h2.2
    simp only [Bool.false_eq_true, if_false]
    unfold bd
    rw [if_pos (am_iff.2 h1), if_pos (am_iff.2 h2)]
    by_cases c1 : t = 0
    · rw [if_pos c1, if_pos c1]
    · rw [if_neg c1, if_neg c1]
      by_cases c2 : s = 0
      · rw [if_pos c2, if_pos c2]
      · rw [if_neg c2, if_neg c2]
        by_cases c3 : t ≤ 7230584
        · rw [if_pos c3, if_pos c3]; unfold fin; split <;> rfl
        · rw [if_neg c3, if_neg c3]
          by_cases c4 : s ≥ 1663497
          · rw [if_pos c4, if_pos c4, if_neg (q c4)]; unfold fin; split <;> rfl
          · rw [if_neg c4, if_neg c4]; unfold fin; split <;> rfl
  · rfl
theorem bad_ev (t s : Int) : Ev (fun k => glue_Badness.f k t s) (bd t s) := by
  unfold glue_Badness.f
  refine Ev.bind (a := am t) (by rw [amount_f]; exact Ev.now _) ?_
  by_cases h1 : am t = true
  · simp only [if_pos h1]
    refine Ev.bind (a := am s) (by rw [amount_f]; exact Ev.now _) ?_
    by_cases h2 : am s = true
    · rw [h2]
      exact bad_j t s false (fun _ => ⟨am_iff.1 h1, am_iff.1 h2⟩)
    · have e : bd t s = -1 := by unfold bd; rw [if_pos h1, if_neg h2]
      rw [Bool.eq_false_iff.mpr h2, e]
      exact bad_j t s true (fun h => absurd h (by decide))
  · simp only [if_neg h1]
    have e : bd t s = -1 := by unfold bd; rw [if_neg h1]
    rw [e]
    exact bad_j t s true (fun h => absurd h (by decide))

abbrev T5 := Int × Int × Int × Int × Bool
def sw (e : Int) (x : T6) : T5 :=
  if e < 0 then (-1, 0, e, (if wrap64 (-e) > x.2.1 then 1000000 else bd (wrap64 (-e)) x.2.1), true)
  else if e > 0 then (if x.2.2.2.2.2 = 0 then (if x.2.2.2.2.1 = 0 then (if x.2.2.2.1 = 0 then (if x.2.2.1 = 0 then (0, 0, e, 10000, true) else (1, 0, e, bd e x.2.2.1, true)) else (1, 1, e, 0, true)) else (1, 2, e, 0, true)) else (1, 3, e, 0, true))
  else (0, 0, e, 0, true)
def sv (g : List S38) (target : Int) : T5 := if my g = true then (if (sb target (tt g).1).2 = true then sw (sb target (tt g).1).1 (tt g) else (0, 0, 0, 0, false)) else (0, 0, 0, 0, false)
theorem set_j2 (x0 x1 x2 x3 x4 x5 y0 y1 y2 y3 : Int) : Ev (fun k => glue_Set.j2 k x0 x1 x2 x3 x4 x5 y0 y1 y2 y3) (if x5 = 0 then (if x4 = 0 then (y0, y1, y2, y3, true) else (1, 2, y2, 0, true)) else (1, 3, y2, 0, true)) := by
  refine Ev.step (f := fun _ => some _) (fun k => ?_) (Ev.now _)
  simp only [glue_Set.j2]
  by_cases c4 : x4 = 0
  · rw [if_pos c4, if_pos c4]; split <;> rfl
  · rw [if_neg c4, if_neg c4]; split <;> rfl
theorem set_j1 (x0 x1 x2 x3 x4 x5 y0 y1 y2 y3 : Int) : Ev (fun k => glue_Set.j1 k x0 x1 x2 x3 x4 x5 y0 y1 y2 y3) (if x5 = 0 then (if x4 = 0 then (if x3 = 0 then (y0, y1, y2, y3, true) else (1, 1, y2, 0, true)) else (1, 2, y2, 0, true)) else (1, 3, y2, 0, true)) := by
  by_cases c3 : x3 = 0
  · refine Ev.step (f := fun k => glue_Set.j2 k x0 x1 x2 x3 x4 x5 y0 y1 y2 y3) (fun k => by simp only [glue_Set.j1]; rw [if_pos c3]) ?_
    rw [if_pos c3]; exact set_j2 ..
  · refine Ev.step (f := fun k => glue_Set.j2 k x0 x1 x2 x3 x4 x5 1 1 y2 0) (fun k => by simp only [glue_Set.j1]; rw [if_neg c3]) ?_
    rw [if_neg c3]; exact set_j2 ..
theorem set_no (e : Int) (x0 x1 x2 x3 x4 x5 : Int) : Ev (fun k => glue_Set.j0 k e true x0 x1 x2 x3 x4 x5) (0, 0, 0, 0, false) :=
  Ev.step (f := fun _ => some _) (fun k => by simp only [glue_Set.j0]; rw [if_pos trivial]) (Ev.now _)
theorem set_yes (e : Int) (x0 x1 x2 x3 x4 x5 : Int) : Ev (fun k => glue_Set.j0 k e false x0 x1 x2 x3 x4 x5) (sw e (x0, x1, x2, x3, x4, x5)) := by
  unfold sw
  by_cases c1 : e < 0
  · rw [if_pos c1]
    refine Ev.step (f := fun k => (glue_Badness.f k (wrap64 (-e)) x1).bind fun t => (if (wrap64 (-e)) > x1 then (some ((-1), 0, e, 1000000, true)) else (some ((-1), 0, e, t, true)))) (fun k => by simp only [glue_Set.j0]; rw [if_neg (by decide), if_pos c1]) (Ev.bind (bad_ev _ _) ?_)
    by_cases c2 : wrap64 (-e) > x1
    · simp only [if_pos c2]; exact Ev.now _
    · simp only [if_neg c2]; exact Ev.now _
  · rw [if_neg c1]
    by_cases c2 : e > 0
    · rw [if_pos c2]
      by_cases c3 : x2 = 0
      · refine Ev.step (f := fun k => glue_Set.j1 k x0 x1 x2 x3 x4 x5 0 0 e 10000) (fun k => by simp only [glue_Set.j0]; rw [if_neg (by decide), if_neg c1, if_pos c2, if_pos c3]) ?_
        simp only [if_pos c3]; exact set_j1 ..
      · refine Ev.step (f := fun k => (glue_Badness.f k e x2).bind fun t => glue_Set.j1 k x0 x1 x2 x3 x4 x5 1 0 e t) (fun k => by simp only [glue_Set.j0]; rw [if_neg (by decide), if_neg c1, if_pos c2, if_neg c3]) (Ev.bind (bad_ev _ _) ?_)
        simp only [if_neg c3]; exact set_j1 ..
    · rw [if_neg c2]
      exact Ev.step (f := fun _ => some _) (fun k => by simp only [glue_Set.j0]; rw [if_neg (by decide), if_neg c1, if_neg c2]) (Ev.now _)
theorem set_ev (g : List S38) (target : Int) : Ev (fun k => glue_Set.f k g target) (sv g target) := by
  unfold glue_Set.f sv
  refine Ev.bind (total_ev g) ?_
  refine Ev.bind (a := sb target (tt g).1) (by rw [show (t7 (tt g) (my g)).1 = (tt g).1 from rfl, sub_f]; exact Ev.now _) ?_
  by_cases h : my g = true
  · rw [h]; simp only [t7, if_true]
    by_cases h2 : (sb target (tt g).1).2 = true
    · rw [if_pos h2, h2]; exact set_yes ..
    · rw [if_neg h2, Bool.eq_false_iff.mpr h2]; exact set_no ..
  · rw [Bool.eq_false_iff.mpr h]; simp only [t7, if_neg (by decide : ¬ (false = true))]
    exact set_no ..
theorem sv_sign (g : List S38) (t : Int) : (sv g t).1 = -1 ∨ (sv g t).1 = 0 ∨ (sv g t).1 = 1 := by
  unfold sv sw; repeat' split
  all_goals simp

end Go.Proofs.Ytpfnfofaajpdmaa.Pure

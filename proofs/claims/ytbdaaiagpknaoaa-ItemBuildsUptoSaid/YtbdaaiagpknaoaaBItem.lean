/- Plain lemmas on the printed functions of the package item: whether items may be, which are boxes. -/
import Derived.Test.YtbdaaiagpknaoaaPUbx11
namespace Go.Proofs.Ytbdaaiagpknaoaa.Pure
set_option linter.unusedVariables false
set_option linter.unusedSimpArgs false
open Go.RowKit Go.Proofs.Ytbdaaiagpknaoaa.PUb Go.Proofs.YtbdaaiagpknaoaaW.PrintWords Go.Proofs.YtbdaaiagpknaoaaW.PrintLast Go.Proofs.YtbdaaiagpknaoaaW.PrintMore

theorem wrap_small {x : Int} (h : -9223372036854775808 ≤ x ∧ x ≤ 9223372036854775807) : wrap64 x = x := by
  unfold wrap64
  omega
theorem succ_w (n : Nat) (h : n ≤ 1000000000000000) : wrap64 ((n : Int) + 1) = ((n + 1 : Nat) : Int) := by rw [wrap_small (by omega)]; omega
theorem wf_high {x : Int} (h : (Lit.int .i64 x).wf = true) : x ≤ 9223372036854775807 := by
  simp [Lit.wf] at h
  exact h.2
theorem wf_low {x : Int} (h : (Lit.int .i64 x).wf = true) : -9223372036854775808 ≤ x := by
  simp [Lit.wf] at h
  exact h.1

def fi (a : Int) : Bool := decide (-1073741823 ≤ a ∧ a ≤ 1073741823)
theorem fi_iff {a : Int} : fi a = true ↔ -1073741823 ≤ a ∧ a ≤ 1073741823 := by unfold fi; exact decide_eq_true_iff
theorem fits_f (a : Int) : scaled_Fits.f a = some (fi a) := by
  unfold scaled_Fits.f fi
  by_cases h : a ≥ -1073741823
  · rw [if_pos h]; congr 1; exact decide_eq_decide.2 ⟨fun x => ⟨h, x⟩, fun x => x.2⟩
  · rw [if_neg h]; congr 1; symm; exact decide_eq_false (fun x => h x.1)
def am (a : Int) : Bool := decide (0 ≤ a ∧ a ≤ 1073741823)
theorem am_iff {a : Int} : am a = true ↔ 0 ≤ a ∧ a ≤ 1073741823 := by unfold am; exact decide_eq_true_iff
theorem amount_f (a : Int) : glue_amount.f a = some (am a) := by
  unfold glue_amount.f am
  by_cases h : a ≥ 0
  · rw [if_pos h, fits_f]; simp only [Option.bind_some]; congr 1; unfold fi; exact decide_eq_decide.2 ⟨fun x => ⟨h, x.2⟩, fun x => ⟨by omega, x.2⟩⟩
  · rw [if_neg h]; congr 1; symm; exact decide_eq_false (fun x => h x.1)

/-! ## May -/
def mv (g : List S23) : Nat → Nat → Int → Int → Int → Bool
  | 0, _, w, s, h => am w && (am s && am h)
  | d + 1, i, w, s, h => if fi (rd_T23 g (i : Int)).f0 = true then (if am (rd_T23 g (i : Int)).f1 = true then (if am (rd_T23 g (i : Int)).f2 = true then (if (rd_T23 g (i : Int)).f3 < 0 then false else if (rd_T23 g (i : Int)).f3 > 3 then false else mv g d (i + 1) (w + mx (rd_T23 g (i : Int)).f0 (-(rd_T23 g (i : Int)).f0)) (s + (rd_T23 g (i : Int)).f1) (h + (rd_T23 g (i : Int)).f2)) else false) else false) else false
def my (g : List S23) : Bool := if (g.length : Int) > 2000 then false else mv g g.length 0 0 0 0
theorem mv_all (g : List S23) : ∀ d i w s h, mv g d i w s h = true → ∀ j, i ≤ j → j < i + d → (fi (rd_T23 g (j : Int)).f0 = true ∧ am (rd_T23 g (j : Int)).f1 = true ∧ 0 ≤ (rd_T23 g (j : Int)).f3 ∧ (rd_T23 g (j : Int)).f3 ≤ 3)
  | 0, i, w, s, h => fun _ j h1 h2 => by omega
  | d + 1, i, w, s, h => fun hm j h1 h2 => by
    simp only [mv] at hm
    split at hm
    · split at hm
      · split at hm
        · split at hm
          · exact absurd hm (by simp)
          · split at hm
            · exact absurd hm (by simp)
            · rename_i a1 a2 a3 a4 a5
              by_cases e : j = i
              · subst e; exact ⟨a1, a2, by omega, by omega⟩
              · exact mv_all g d (i + 1) _ _ _ hm j (by omega) (by omega)
        · exact absurd hm (by simp)
      · exact absurd hm (by simp)
    · exact absurd hm (by simp)
theorem my_all {g : List S23} (h : my g = true) : g.length ≤ 2000 ∧ ∀ j : Nat, j < g.length → (fi (rd_T23 g (j : Int)).f0 = true ∧ am (rd_T23 g (j : Int)).f1 = true ∧ 0 ≤ (rd_T23 g (j : Int)).f3 ∧ (rd_T23 g (j : Int)).f3 ≤ 3) := by
  unfold my at h
  split at h
  · exact absurd h (by simp)
  · exact ⟨by omega, fun j hj => mv_all g _ _ _ _ _ h j (by omega) (by omega)⟩
theorem may2_loop (g : List S23) (hl : g.length ≤ 2000) : ∀ (d i : Nat) (w s h : Int), i + d = g.length → (0 ≤ w ∧ w ≤ (i : Int) * 1073741823) → (0 ≤ s ∧ s ≤ (i : Int) * 1073741823) → (0 ≤ h ∧ h ≤ (i : Int) * 1073741823) → Ev (fun k => glue_May.l0 k g (g.length : Int) (i : Int) w s h) (mv g d i w s h) := by
  intro d
  induction d with
  | zero =>
    intro i w s h hi hw hs hh
    have g0 : ¬ (i : Int) < (g.length : Int) := by omega
    refine Ev.step (f := fun _ => some _) (fun k => ?_) (Ev.now _)
    simp only [glue_May.l0]
    rw [if_neg g0, amount_f, amount_f, amount_f]
    simp only [Option.bind_some, mv]
    cases am w <;> cases am s <;> rfl
  | succ d ih =>
    intro i w s h hi hw hs hh
    have g1 : (i : Int) < (g.length : Int) := by omega
    have g2 : (0 : Int) ≤ (i : Int) := by omega
    have g3 : i ≤ 1000000000000000 := by omega
    by_cases a1 : fi (rd_T23 g (i : Int)).f0 = true
    · by_cases a2 : am (rd_T23 g (i : Int)).f1 = true
      · by_cases a3 : am (rd_T23 g (i : Int)).f2 = true
        · by_cases a4 : (rd_T23 g (i : Int)).f3 < 0
          · refine Ev.step (f := fun _ => some _) (fun k => ?_) (Ev.now _)
            simp only [glue_May.l0]
            rw [if_pos g1, if_pos g2, if_pos g1, fits_f]
            simp only [Option.bind_some]
            rw [if_pos a1, amount_f]; simp only [Option.bind_some]
            rw [if_pos a2, amount_f]; simp only [Option.bind_some]
            rw [if_pos a3, if_pos a4]
            simp [mv, a1, a2, a3, a4]
          · by_cases a5 : (rd_T23 g (i : Int)).f3 > 3
            · refine Ev.step (f := fun _ => some _) (fun k => ?_) (Ev.now _)
              simp only [glue_May.l0]
              rw [if_pos g1, if_pos g2, if_pos g1, fits_f]
              simp only [Option.bind_some]
              rw [if_pos a1, amount_f]; simp only [Option.bind_some]
              rw [if_pos a2, amount_f]; simp only [Option.bind_some]
              rw [if_pos a3, if_neg a4, if_pos a5]
              simp [mv, a1, a2, a3, a4, a5]
            · have b1 := fi_iff.1 a1
              have b2 := am_iff.1 a2
              have b3 := am_iff.1 a3
              have e0 : wrap64 (-(rd_T23 g (i : Int)).f0) = -(rd_T23 g (i : Int)).f0 := wrap_small (by omega)
              have m1 : 0 ≤ mx (rd_T23 g (i : Int)).f0 (-(rd_T23 g (i : Int)).f0) ∧ mx (rd_T23 g (i : Int)).f0 (-(rd_T23 g (i : Int)).f0) ≤ 1073741823 := by unfold mx; split <;> omega
              have e1 : wrap64 (w + mx (rd_T23 g (i : Int)).f0 (-(rd_T23 g (i : Int)).f0)) = w + mx (rd_T23 g (i : Int)).f0 (-(rd_T23 g (i : Int)).f0) := wrap_small (by omega)
              have e2 : wrap64 (s + (rd_T23 g (i : Int)).f1) = s + (rd_T23 g (i : Int)).f1 := wrap_small (by omega)
              have e3 : wrap64 (h + (rd_T23 g (i : Int)).f2) = h + (rd_T23 g (i : Int)).f2 := wrap_small (by omega)
              have hv : mv g (d + 1) i w s h = mv g d (i + 1) (w + mx (rd_T23 g (i : Int)).f0 (-(rd_T23 g (i : Int)).f0)) (s + (rd_T23 g (i : Int)).f1) (h + (rd_T23 g (i : Int)).f2) := by
                simp only [mv]; rw [if_pos a1, if_pos a2, if_pos a3, if_neg a4, if_neg a5]
              rw [hv]
              refine Ev.step (fun k => ?_) (ih (i + 1) (w + mx (rd_T23 g (i : Int)).f0 (-(rd_T23 g (i : Int)).f0)) (s + (rd_T23 g (i : Int)).f1) (h + (rd_T23 g (i : Int)).f2) (by omega) (by omega) (by omega) (by omega))
              simp only [glue_May.l0]
              rw [if_pos g1, if_pos g2, if_pos g1, fits_f]
              simp only [Option.bind_some]
              rw [if_pos a1, amount_f]; simp only [Option.bind_some]
              rw [if_pos a2, amount_f]; simp only [Option.bind_some]
              rw [if_pos a3, if_neg a4, if_neg a5, e0, e1, e2, e3, succ_w i g3]
        · refine Ev.step (f := fun _ => some _) (fun k => ?_) (Ev.now _)
          simp only [glue_May.l0]
          rw [if_pos g1, if_pos g2, if_pos g1, fits_f]
          simp only [Option.bind_some]
          rw [if_pos a1, amount_f]; simp only [Option.bind_some]
          rw [if_pos a2, amount_f]; simp only [Option.bind_some]
          rw [if_neg a3]
          simp [mv, a1, a2, a3]
      · refine Ev.step (f := fun _ => some _) (fun k => ?_) (Ev.now _)
        simp only [glue_May.l0]
        rw [if_pos g1, if_pos g2, if_pos g1, fits_f]
        simp only [Option.bind_some]
        rw [if_pos a1, amount_f]; simp only [Option.bind_some]
        rw [if_neg a2]
        simp [mv, a1, a2]
    · refine Ev.step (f := fun _ => some _) (fun k => ?_) (Ev.now _)
      simp only [glue_May.l0]
      rw [if_pos g1, if_pos g2, if_pos g1, fits_f]
      simp only [Option.bind_some]
      rw [if_neg a1]
      simp [mv, a1]
theorem gmay_ev (g : List S23) : Ev (fun k => glue_May.f k g) (my g) := by
  unfold glue_May.f my
  by_cases h : (g.length : Int) > 2000
  · simp only [if_pos h]; exact Ev.now _
  · simp only [if_neg h]
    have := may2_loop g (by omega) g.length 0 0 0 0 (by omega) (by omega) (by omega) (by omega)
    simpa using this

theorem rfits_f (a : Int) : variorumref02_Fits.f a = some (fi a) := by
  unfold variorumref02_Fits.f variorumref02_Most.f
  simp only [Option.bind_some]
  rw [show wrap64 (-1073741823) = -1073741823 from wrap_small (by omega)]
  unfold fi
  by_cases h : a ≥ -1073741823
  · rw [if_pos h]; congr 1; exact decide_eq_decide.2 ⟨fun x => ⟨h, x⟩, fun x => x.2⟩
  · rw [if_neg h]; congr 1; symm; exact decide_eq_false (fun x => h x.1)
theorem fi_am {a : Int} (h : 0 ≤ a) : fi a = am a := by
  unfold fi am; exact decide_eq_decide.2 ⟨fun x => ⟨h, x.2⟩, fun x => ⟨by omega, x.2⟩⟩
theorem neg_am {a : Int} (h : a < 0) : am a = false := by unfold am; exact decide_eq_false (fun x => by omega)
theorem rmay_no (g : List S23) (w s h i a b c d : Int) : Ev (fun k => variorumref03_May.j1 k g w s h i true a b c d) false :=
  Ev.step (f := fun _ => some _) (fun k => by simp only [variorumref03_May.j1]; rw [if_pos trivial]) (Ev.now _)
theorem rmay_loop (g : List S23) (hl : g.length ≤ 2000) : ∀ (d i : Nat) (w s h : Int), i + d = g.length → (0 ≤ w ∧ w ≤ (i : Int) * 1073741823) → (0 ≤ s ∧ s ≤ (i : Int) * 1073741823) → (0 ≤ h ∧ h ≤ (i : Int) * 1073741823) → Ev (fun k => variorumref03_May.l0 k g w s h (i : Int)) (mv g d i w s h) := by
  intro d
  induction d with
  | zero =>
    intro i w s h hi hw hs hh
    have g0 : ¬ (i : Int) < (g.length : Int) := by omega
    refine Ev.step (f := fun _ => some _) (fun k => ?_) (Ev.now _)
    simp only [variorumref03_May.l0]
    rw [if_neg g0, rfits_f, rfits_f, rfits_f, fi_am hw.1, fi_am hs.1, fi_am hh.1]
    simp only [Option.bind_some, mv]
    cases am w <;> cases am s <;> rfl
  | succ d ih =>
    intro i w s h hi hw hs hh
    have g1 : (i : Int) < (g.length : Int) := by omega
    have g2 : (0 : Int) ≤ (i : Int) := by omega
    have g3 : i ≤ 1000000000000000 := by omega
    have step : ∀ (r : Bool) (f : Nat → Option Bool), (∀ k, variorumref03_May.l0 (k + 1) g w s h (i : Int) = f k) → Ev f r → Ev (fun k => variorumref03_May.l0 k g w s h (i : Int)) r := fun r f e v => Ev.step e v
    by_cases a1 : fi (rd_T23 g (i : Int)).f0 = true
    · by_cases a2' : (rd_T23 g (i : Int)).f1 < 0
      · have e : mv g (d + 1) i w s h = false := by simp only [mv]; rw [if_pos a1, neg_am a2', if_neg (by decide)]
        rw [e]
        refine step _ _ (fun k => ?_) (rmay_no g w s h i (rd_T23 g (i : Int)).f0 (rd_T23 g (i : Int)).f1 (rd_T23 g (i : Int)).f2 (rd_T23 g (i : Int)).f3)
        simp only [variorumref03_May.l0]
        rw [if_pos g1, if_pos g2, rfits_f]
        simp only [Option.bind_some]
        rw [if_pos a1, if_pos a2']
      · by_cases a2 : fi (rd_T23 g (i : Int)).f1 = true
        · by_cases a3' : (rd_T23 g (i : Int)).f2 < 0
          · have e : mv g (d + 1) i w s h = false := by simp only [mv]; rw [if_pos a1, neg_am a3', if_neg (by decide : ¬ false = true)]; split <;> rfl
            rw [e]
            refine step _ _ (fun k => ?_) (rmay_no g w s h i (rd_T23 g (i : Int)).f0 (rd_T23 g (i : Int)).f1 (rd_T23 g (i : Int)).f2 (rd_T23 g (i : Int)).f3)
            simp only [variorumref03_May.l0]
            rw [if_pos g1, if_pos g2, rfits_f]
            simp only [Option.bind_some]
            rw [if_pos a1, if_neg a2', rfits_f]
            simp only [Option.bind_some]
            rw [if_pos a2, if_pos a3']
          · by_cases a3 : fi (rd_T23 g (i : Int)).f2 = true
            · have a2m : am (rd_T23 g (i : Int)).f1 = true := by rw [← fi_am (by omega)]; exact a2
              have a3m : am (rd_T23 g (i : Int)).f2 = true := by rw [← fi_am (by omega)]; exact a3
              by_cases a4 : (rd_T23 g (i : Int)).f3 < 0
              · have e : mv g (d + 1) i w s h = false := by simp only [mv]; rw [if_pos a1, if_pos a2m, if_pos a3m, if_pos a4]
                rw [e]
                refine step _ _ (fun k => ?_) (rmay_no g w s h i (rd_T23 g (i : Int)).f0 (rd_T23 g (i : Int)).f1 (rd_T23 g (i : Int)).f2 (rd_T23 g (i : Int)).f3)
                simp only [variorumref03_May.l0]
                rw [if_pos g1, if_pos g2, rfits_f]
                simp only [Option.bind_some]
                rw [if_pos a1, if_neg a2', rfits_f]
                simp only [Option.bind_some]
                rw [if_pos a2, if_neg a3', rfits_f]
                simp only [Option.bind_some]
                rw [if_pos a3, if_pos a4]
              · refine step _ (fun k => variorumref03_May.j1 k g w s h (i : Int) (decide ((rd_T23 g (i : Int)).f3 > 3)) (rd_T23 g (i : Int)).f0 (rd_T23 g (i : Int)).f1 (rd_T23 g (i : Int)).f2 (rd_T23 g (i : Int)).f3) (fun k => ?_) ?_
                · simp only [variorumref03_May.l0]
                  rw [if_pos g1, if_pos g2, rfits_f]
                  simp only [Option.bind_some]
                  rw [if_pos a1, if_neg a2', rfits_f]
                  simp only [Option.bind_some]
                  rw [if_pos a2, if_neg a3', rfits_f]
                  simp only [Option.bind_some]
                  rw [if_pos a3, if_neg a4]
                · by_cases a5 : (rd_T23 g (i : Int)).f3 > 3
                  · have e : mv g (d + 1) i w s h = false := by simp only [mv]; rw [if_pos a1, if_pos a2m, if_pos a3m, if_neg a4, if_pos a5]
                    rw [e, decide_eq_true a5]
                    exact rmay_no ..
                  · have b1 := fi_iff.1 a1
                    have b2 := am_iff.1 a2m
                    have b3 := am_iff.1 a3m
                    have m1 : 0 ≤ mx (rd_T23 g (i : Int)).f0 (-(rd_T23 g (i : Int)).f0) ∧ mx (rd_T23 g (i : Int)).f0 (-(rd_T23 g (i : Int)).f0) ≤ 1073741823 := by unfold mx; split <;> omega
                    have m2 : (rd_T23 g (i : Int)).f0 < 0 → w - (rd_T23 g (i : Int)).f0 = w + mx (rd_T23 g (i : Int)).f0 (-(rd_T23 g (i : Int)).f0) := fun q => by unfold mx; split <;> omega
                    have m3 : ¬ (rd_T23 g (i : Int)).f0 < 0 → w + (rd_T23 g (i : Int)).f0 = w + mx (rd_T23 g (i : Int)).f0 (-(rd_T23 g (i : Int)).f0) := fun q => by unfold mx; split <;> omega
                    have e1 : wrap64 (w - (rd_T23 g (i : Int)).f0) = w - (rd_T23 g (i : Int)).f0 := wrap_small (by omega)
                    have e1' : wrap64 (w + (rd_T23 g (i : Int)).f0) = w + (rd_T23 g (i : Int)).f0 := wrap_small (by omega)
                    have e2 : wrap64 (s + (rd_T23 g (i : Int)).f1) = s + (rd_T23 g (i : Int)).f1 := wrap_small (by omega)
                    have e3 : wrap64 (h + (rd_T23 g (i : Int)).f2) = h + (rd_T23 g (i : Int)).f2 := wrap_small (by omega)
                    have hv : mv g (d + 1) i w s h = mv g d (i + 1) (w + mx (rd_T23 g (i : Int)).f0 (-(rd_T23 g (i : Int)).f0)) (s + (rd_T23 g (i : Int)).f1) (h + (rd_T23 g (i : Int)).f2) := by
                      simp only [mv]; rw [if_pos a1, if_pos a2m, if_pos a3m, if_neg a4, if_neg a5]
                    rw [hv, decide_eq_false a5]
                    refine Ev.step (fun k => ?_) (ih (i + 1) (w + mx (rd_T23 g (i : Int)).f0 (-(rd_T23 g (i : Int)).f0)) (s + (rd_T23 g (i : Int)).f1) (h + (rd_T23 g (i : Int)).f2) (by omega) (by omega) (by omega) (by omega))
                    simp only [variorumref03_May.j1]
                    rw [if_neg (by decide)]
                    by_cases a6 : (rd_T23 g (i : Int)).f0 < 0
                    · rw [if_pos a6, e1, e2, e3, m2 a6, succ_w i g3]
                    · rw [if_neg a6, e1', e2, e3, m3 a6, succ_w i g3]
            · have a3m : ¬ am (rd_T23 g (i : Int)).f2 = true := by rw [← fi_am (by omega)]; exact a3
              have e : mv g (d + 1) i w s h = false := by simp only [mv]; rw [if_pos a1, if_neg a3m]; split <;> rfl
              rw [e]
              refine step _ _ (fun k => ?_) (rmay_no g w s h i (rd_T23 g (i : Int)).f0 (rd_T23 g (i : Int)).f1 (rd_T23 g (i : Int)).f2 (rd_T23 g (i : Int)).f3)
              simp only [variorumref03_May.l0]
              rw [if_pos g1, if_pos g2, rfits_f]
              simp only [Option.bind_some]
              rw [if_pos a1, if_neg a2', rfits_f]
              simp only [Option.bind_some]
              rw [if_pos a2, if_neg a3', rfits_f]
              simp only [Option.bind_some]
              rw [if_neg a3]
        · have a2m : ¬ am (rd_T23 g (i : Int)).f1 = true := by rw [← fi_am (by omega)]; exact a2
          have e : mv g (d + 1) i w s h = false := by simp only [mv]; rw [if_pos a1, if_neg a2m]
          rw [e]
          refine step _ _ (fun k => ?_) (rmay_no g w s h i (rd_T23 g (i : Int)).f0 (rd_T23 g (i : Int)).f1 (rd_T23 g (i : Int)).f2 (rd_T23 g (i : Int)).f3)
          simp only [variorumref03_May.l0]
          rw [if_pos g1, if_pos g2, rfits_f]
          simp only [Option.bind_some]
          rw [if_pos a1, if_neg a2', rfits_f]
          simp only [Option.bind_some]
          rw [if_neg a2]
    · have e : mv g (d + 1) i w s h = false := by simp only [mv]; rw [if_neg a1]
      rw [e]
      refine step _ _ (fun k => ?_) (rmay_no g w s h i (rd_T23 g (i : Int)).f0 (rd_T23 g (i : Int)).f1 (rd_T23 g (i : Int)).f2 (rd_T23 g (i : Int)).f3)
      simp only [variorumref03_May.l0]
      rw [if_pos g1, if_pos g2, rfits_f]
      simp only [Option.bind_some]
      rw [if_neg a1]
theorem rmay_ev (g : List S23) : Ev (fun k => variorumref03_May.f k g) (my g) := by
  unfold variorumref03_May.f my
  by_cases h : (g.length : Int) > 2000
  · simp only [if_pos h]; exact Ev.now _
  · simp only [if_neg h]
    have := rmay_loop g (by omega) g.length 0 0 0 0 (by omega) (by omega) (by omega) (by omega)
    simpa using this

/-! ## An item by itself -/
def rj (p : Bool) (x : S45) : Bool :=
  if x.f0 = 0 then (p && (x.f2 == 0 && (!x.f3 && (decide (x.f4 ≥ 0) && decide (x.f5 ≥ 0)))))
  else if x.f0 = 1 then (my [x.f1] && (decide (x.f1.f0 ≥ x.f1.f2) && (x.f2 == 0 && (!x.f3 && (x.f4 == 0 && x.f5 == 0)))))
  else if x.f0 = 2 then (p && (decide (x.f2 ≥ -10000) && (decide (x.f2 ≤ 10000) && (x.f4 == 0 && x.f5 == 0)))) else false
def pl (x : S45) : Bool := x.f1.f1 == 0 && (x.f1.f2 == 0 && (x.f1.f3 == 0 && am x.f1.f0))
def ri (x : S45) : Bool := rj (pl x) x
theorem right_j0 (p : Bool) (x : S45) : Ev (fun k => item_right.j0 k p x.f0 x.f1.f0 x.f1.f1 x.f1.f2 x.f1.f3 x.f2 x.f3 x.f4 x.f5) (rj p x) := by
  unfold rj
  by_cases h0 : x.f0 = 0
  · rw [if_pos h0]
    refine Ev.step (f := fun _ => some _) (fun k => ?_) (Ev.now _)
    simp only [item_right.j0]
    rw [if_pos h0]
    by_cases a : p = true
    · rw [if_pos a]
      by_cases b : x.f2 = 0
      · rw [if_pos b]
        by_cases c : x.f3 = true
        · rw [if_pos c]; simp [a, b, c]
        · rw [if_neg c]
          by_cases e : x.f4 ≥ 0
          · rw [if_pos e]; simp [a, b, c, e]
          · rw [if_neg e]; simp [a, b, c, e]
      · rw [if_neg b]; simp [a, b]
    · rw [if_neg a]; simp [a]
  · rw [if_neg h0]
    by_cases h1 : x.f0 = 1
    · rw [if_pos h1]
      refine Ev.step (f := fun k => (glue_May.f k [x.f1]).bind fun t116 => (if t116 = true then (if x.f1.f0 ≥ x.f1.f2 then (if x.f2 = 0 then (if x.f3 = true then (some false) else (if x.f2 ≥ (-10000) then (if x.f2 ≤ 10000 then (if x.f4 = 0 then (some (x.f5 == 0)) else (some false)) else (some false)) else (some false))) else (some false)) else (some false)) else (some false))) (fun k => ?_) (Ev.bind (gmay_ev [x.f1]) ?_)
      · simp only [item_right.j0]
        rw [if_neg h0, if_pos h1]
      · by_cases a : my [x.f1] = true
        · simp only [if_pos a]
          by_cases b : x.f1.f0 ≥ x.f1.f2
          · simp only [if_pos b]
            by_cases c : x.f2 = 0
            · simp only [if_pos c]
              by_cases e : x.f3 = true
              · simp only [if_pos e]; simp [e]; exact Ev.now _
              · have c1 : x.f2 ≥ -10000 := by omega
                have c2 : x.f2 ≤ 10000 := by omega
                simp only [if_neg e, if_pos c1, if_pos c2]
                by_cases f : x.f4 = 0
                · simp only [if_pos f]; simp [a, b, c, e, f]; exact Ev.now _
                · simp only [if_neg f]; rw [(beq_eq_false_iff_ne.mpr f : (x.f4 == 0) = false)]; simp only [Bool.false_and, Bool.and_false]; exact Ev.now _
            · simp only [if_neg c]; rw [(beq_eq_false_iff_ne.mpr c : (x.f2 == 0) = false)]; simp only [Bool.false_and, Bool.and_false]; exact Ev.now _
          · simp only [if_neg b]; rw [show decide (x.f1.f0 ≥ x.f1.f2) = false from decide_eq_false b]; simp only [Bool.false_and, Bool.and_false]; exact Ev.now _
        · simp only [if_neg a]; rw [Bool.eq_false_iff.mpr a]; simp only [Bool.false_and, Bool.and_false]; exact Ev.now _
    · rw [if_neg h1]
      refine Ev.step (f := fun _ => some _) (fun k => ?_) (Ev.now _)
      simp only [item_right.j0]
      rw [if_neg h0, if_neg h1]
      by_cases h2 : x.f0 = 2
      · rw [if_pos h2, if_pos h2]
        by_cases a : p = true
        · rw [if_pos a]
          by_cases b : x.f2 ≥ -10000
          · rw [if_pos b]
            by_cases c : x.f2 ≤ 10000
            · rw [if_pos c]
              by_cases e : x.f4 = 0
              · rw [if_pos e]; simp [a, b, c, e]
              · rw [if_neg e]; simp [e]
            · rw [if_neg c]; simp [c]
          · rw [if_neg b]; simp [b]
        · rw [if_neg a]; simp [a]
      · rw [if_neg h2, if_neg h2]
theorem right_ev (x : S45) : Ev (fun k => item_right.f k x.f0 x.f1.f0 x.f1.f1 x.f1.f2 x.f1.f3 x.f2 x.f3 x.f4 x.f5) (ri x) := by
  unfold item_right.f ri
  by_cases h : (x.f1.f1 == 0 && (x.f1.f2 == 0 && (x.f1.f3 == 0))) = true
  · simp only [if_pos h]
    by_cases a : x.f1.f0 ≥ 0
    · simp only [if_pos a, fits_f, Option.bind_some]
      have e : pl x = fi x.f1.f0 := by
        unfold pl; rw [fi_am a]
        simp only [Bool.and_eq_true] at h
        rw [h.1, h.2.1, h.2.2]; rfl
      rw [e]; exact right_j0 _ x
    · simp only [if_neg a]
      have e : pl x = false := by unfold pl; rw [neg_am (by omega)]; simp
      rw [e]; exact right_j0 _ x
  · simp only [if_neg h]
    have e : pl x = false := by
      cases q : pl x
      · rfl
      · exfalso; apply h; unfold pl at q; simp only [Bool.and_eq_true] at q ⊢; exact ⟨q.1, q.2.1, q.2.2.1⟩
    rw [e]; exact right_j0 _ x
theorem rright_j2 (p c : Bool) (x : S45) (h0 : ¬ x.f0 = 0) (hc : c = true ↔ ¬ (x.f4 = 0 ∧ x.f5 = 0)) : Ev (fun k => variorumref09_Right.j2 k p c x.f0 x.f1.f0 x.f1.f1 x.f1.f2 x.f1.f3 x.f2 x.f3 x.f4 x.f5 x.f1.f0 x.f1.f1 x.f1.f2 x.f1.f3) (rj p x) := by
  unfold rj
  rw [if_neg h0]
  by_cases e : c = true
  · have n := hc.1 e
    refine Ev.step (f := fun _ => some _) (fun k => ?_) (Ev.now _)
    simp only [variorumref09_Right.j2]
    rw [if_pos e]
    congr 1; symm
    by_cases f : x.f4 = 0
    · have f5 : ¬ x.f5 = 0 := fun q => n ⟨f, q⟩
      split
      · simp [f5]
      · split
        · simp [f5]
        · rfl
    · split
      · simp [f]
      · split
        · simp [f]
        · rfl
  · have q : x.f4 = 0 ∧ x.f5 = 0 := by
      by_cases f : x.f4 = 0 ∧ x.f5 = 0
      · exact f
      · exact absurd (hc.2 f) e
    by_cases h1 : x.f0 = 1
    · rw [if_pos h1]
      refine Ev.step (f := fun k => (variorumref03_May.f k [x.f1]).bind fun t140 => (if t140 = true then (if x.f1.f0 ≥ x.f1.f2 then (if x.f2 = 0 then (some (!x.f3)) else (some false)) else (some false)) else (some false))) (fun k => ?_) (Ev.bind (rmay_ev [x.f1]) ?_)
      · simp only [variorumref09_Right.j2]
        rw [if_neg e, if_pos h1]
      · by_cases a : my [x.f1] = true
        · simp only [if_pos a]
          by_cases b : x.f1.f0 ≥ x.f1.f2
          · simp only [if_pos b]
            by_cases c : x.f2 = 0
            · simp only [if_pos c]; simp [a, b, c, q.1, q.2]; exact Ev.now _
            · simp only [if_neg c]; rw [(beq_eq_false_iff_ne.mpr c : (x.f2 == 0) = false)]; simp only [Bool.false_and, Bool.and_false]; exact Ev.now _
          · simp only [if_neg b]; rw [show decide (x.f1.f0 ≥ x.f1.f2) = false from decide_eq_false b]; simp only [Bool.false_and, Bool.and_false]; exact Ev.now _
        · simp only [if_neg a]; rw [Bool.eq_false_iff.mpr a]; simp only [Bool.false_and, Bool.and_false]; exact Ev.now _
    · rw [if_neg h1]
      refine Ev.step (f := fun _ => some _) (fun k => ?_) (Ev.now _)
      simp only [variorumref09_Right.j2]
      rw [if_neg e, if_neg h1]
      by_cases h2 : x.f0 = 2
      · rw [if_pos h2, if_pos h2]
        by_cases a : p = true
        · rw [if_pos a]
          by_cases b : x.f2 ≥ -10000
          · rw [if_pos b]; simp [a, b, q.1, q.2]
          · rw [if_neg b]; simp [b]
        · rw [if_neg a]; simp [a]
      · rw [if_neg h2, if_neg h2]
theorem rright_j1 (p : Bool) (x : S45) : Ev (fun k => variorumref09_Right.j1 k p x.f0 x.f1.f0 x.f1.f1 x.f1.f2 x.f1.f3 x.f2 x.f3 x.f4 x.f5 x.f1.f0 x.f1.f1 x.f1.f2 x.f1.f3) (rj p x) := by
  by_cases h0 : x.f0 = 0
  · unfold rj
    rw [if_pos h0]
    refine Ev.step (f := fun _ => some _) (fun k => ?_) (Ev.now _)
    simp only [variorumref09_Right.j1]
    rw [if_pos h0]
    by_cases a : p = true
    · rw [if_pos a]
      by_cases b : x.f2 = 0
      · rw [if_pos b]
        by_cases c : x.f3 = true
        · rw [if_pos c]; simp [a, b, c]
        · rw [if_neg c]
          by_cases e : x.f4 ≥ 0
          · rw [if_pos e]; simp [a, b, c, e]
          · rw [if_neg e]; simp [a, b, c, e]
      · rw [if_neg b]; simp [a, b]
    · rw [if_neg a]; simp [a]
  · by_cases h4 : x.f4 = 0
    · refine Ev.step (fun k => ?_) (rright_j2 p (x.f5 != 0) x h0 (by simp [h4]))
      simp only [variorumref09_Right.j1]; rw [if_neg h0, if_pos h4]
    · refine Ev.step (fun k => ?_) (rright_j2 p true x h0 (by simp [h4]))
      simp only [variorumref09_Right.j1]; rw [if_neg h0, if_neg h4]
theorem rright_j0 (p : Bool) (x : S45) : Ev (fun k => variorumref09_Right.j0 k p x.f0 x.f1.f0 x.f1.f1 x.f1.f2 x.f1.f3 x.f2 x.f3 x.f4 x.f5 x.f1.f0 x.f1.f1 x.f1.f2 x.f1.f3) (rj (p && (x.f1.f1 == 0 && (x.f1.f2 == 0 && x.f1.f3 == 0))) x) := by
  by_cases a : p = true
  · by_cases b : x.f1.f1 = 0
    · by_cases c : x.f1.f2 = 0
      · refine Ev.step (fun k => ?_) (rright_j1 _ x)
        simp only [variorumref09_Right.j0]; rw [if_pos a, if_pos b, if_pos c, a, b, c]; rfl
      · refine Ev.step (fun k => ?_) (rright_j1 _ x)
        simp only [variorumref09_Right.j0]; rw [if_pos a, if_pos b, if_neg c, a, b, (beq_eq_false_iff_ne.mpr c : (x.f1.f2 == 0) = false)]; rfl
    · refine Ev.step (fun k => ?_) (rright_j1 _ x)
      simp only [variorumref09_Right.j0]; rw [if_pos a, if_neg b, a, (beq_eq_false_iff_ne.mpr b : (x.f1.f1 == 0) = false)]; rfl
  · refine Ev.step (fun k => ?_) (rright_j1 _ x)
    simp only [variorumref09_Right.j0]; rw [if_neg a, Bool.eq_false_iff.mpr a]; rfl
theorem rright_ev (x : S45) : Ev (fun k => variorumref09_Right.f k x.f0 x.f1.f0 x.f1.f1 x.f1.f2 x.f1.f3 x.f2 x.f3 x.f4 x.f5) (ri x) := by
  unfold variorumref09_Right.f ri
  by_cases a : x.f1.f0 ≥ 0
  · simp only [if_pos a, rfits_f, Option.bind_some]
    have e : pl x = (fi x.f1.f0 && (x.f1.f1 == 0 && (x.f1.f2 == 0 && x.f1.f3 == 0))) := by
      unfold pl; rw [fi_am a]
      cases am x.f1.f0 <;> cases (x.f1.f1 == 0) <;> cases (x.f1.f2 == 0) <;> cases (x.f1.f3 == 0) <;> rfl
    rw [e]; exact rright_j0 _ x
  · simp only [if_neg a]
    have e : pl x = (false && (x.f1.f1 == 0 && (x.f1.f2 == 0 && x.f1.f3 == 0))) := by unfold pl; rw [neg_am (by omega)]; simp
    rw [e]; exact rright_j0 _ x

/-! ## All items -/
def ar (l : List S45) : Nat → Nat → Bool
  | 0, _ => true
  | d + 1, i => ri (rd_T45 l (i : Int)) && ar l d (i + 1)
def gq (l : List S45) : Nat → Nat → List S23
  | 0, _ => []
  | d + 1, i => (rd_T45 l (i : Int)).f1 :: gq l d (i + 1)
def mi (l : List S45) : Bool := decide ((l.length : Int) ≤ 2000) && (ar l l.length 0 && my (gq l l.length 0))
theorem imay_loop (l : List S45) (hl : l.length ≤ 2000) : ∀ (d i : Nat) (acc : List S23), i + d = l.length → acc.length ≤ i → Ev (fun k => item_May.l0 k acc l (l.length : Int) (i : Int)) (ar l d i && my (acc ++ gq l d i)) := by
  intro d
  induction d with
  | zero =>
    intro i acc hi ha
    have g0 : ¬ (i : Int) < (l.length : Int) := by omega
    refine Ev.step (f := fun k => (glue_May.f k acc).bind fun t => some t) (fun k => ?_) (Ev.bind (gmay_ev acc) ?_)
    · simp only [item_May.l0]; rw [if_neg g0]
    · simp [ar, gq]; exact Ev.now _
  | succ d ih =>
    intro i acc hi ha
    have g1 : (i : Int) < (l.length : Int) := by omega
    have g2 : (0 : Int) ≤ (i : Int) := by omega
    have g3 : i ≤ 1000000000000000 := by omega
    have g4 : acc.length < 4398046511104 := by omega
    refine Ev.step (f := fun k => (item_right.f k (rd_T45 l (i : Int)).f0 (rd_T45 l (i : Int)).f1.f0 (rd_T45 l (i : Int)).f1.f1 (rd_T45 l (i : Int)).f1.f2 (rd_T45 l (i : Int)).f1.f3 (rd_T45 l (i : Int)).f2 (rd_T45 l (i : Int)).f3 (rd_T45 l (i : Int)).f4 (rd_T45 l (i : Int)).f5).bind fun t => (if t = true then item_May.l0 k (acc ++ [(rd_T45 l (i : Int)).f1]) l (l.length : Int) (((i + 1 : Nat) : Int)) else some false)) (fun k => ?_) (Ev.bind (right_ev _) ?_)
    · simp only [item_May.l0]; rw [if_pos g1, if_pos g2, if_pos g1]; simp only [if_pos g4, succ_w i g3]
    · by_cases a : ri (rd_T45 l (i : Int)) = true
      · simp only [if_pos a, ar, a, Bool.true_and]
        have := ih (i + 1) (acc ++ [(rd_T45 l (i : Int)).f1]) (by omega) (by simp; omega)
        simpa [gq] using this
      · simp only [if_neg a, ar, Bool.eq_false_iff.mpr a, Bool.false_and]; exact Ev.now _
theorem imay_ev (l : List S45) : Ev (fun k => item_May.f k l) (mi l) := by
  unfold item_May.f mi
  by_cases h : (l.length : Int) > 2000
  · simp only [if_pos h]
    rw [decide_eq_false (by omega)]; exact Ev.now _
  · simp only [if_neg h]
    rw [decide_eq_true (by omega)]
    have := imay_loop l (by omega) l.length 0 [] (by omega) (by simp)
    simpa using this
theorem glues_loop9 (l : List S45) (hl : l.length ≤ 2000) : ∀ (d i : Nat) (acc : List S23), i + d = l.length → acc.length ≤ i → Ev (fun k => variorumref09_Glues.l0 k l acc (i : Int)) (acc ++ gq l d i) := by
  intro d
  induction d with
  | zero =>
    intro i acc hi ha
    have g0 : ¬ (i : Int) < (l.length : Int) := by omega
    refine Ev.step (f := fun _ => some _) (fun k => ?_) (Ev.now _)
    simp only [variorumref09_Glues.l0]; rw [if_neg g0]; simp [gq]
  | succ d ih =>
    intro i acc hi ha
    have g1 : (i : Int) < (l.length : Int) := by omega
    have g2 : (0 : Int) ≤ (i : Int) := by omega
    have g3 : i ≤ 1000000000000000 := by omega
    have g4 : acc.length < 4398046511104 := by omega
    have e : acc ++ gq l (d + 1) i = (acc ++ [(rd_T45 l (i : Int)).f1]) ++ gq l d (i + 1) := by simp [gq]
    rw [e]
    refine Ev.step (fun k => ?_) (ih (i + 1) (acc ++ [(rd_T45 l (i : Int)).f1]) (by omega) (by simp; omega))
    simp only [variorumref09_Glues.l0]; rw [if_pos g1, if_pos g2, if_pos g4, succ_w i g3]
theorem rmay9_loop (l : List S45) (hl : l.length ≤ 1000000000000000) : ∀ (d i : Nat), i + d = l.length → Ev (fun k => variorumref09_May.l0 k l (i : Int)) (decide ((l.length : Int) ≤ 2000) && (ar l d i && my (gq l l.length 0))) := by
  intro d
  induction d with
  | zero =>
    intro i hi
    have g0 : ¬ (i : Int) < (l.length : Int) := by omega
    by_cases h : (l.length : Int) ≤ 2000
    · rw [decide_eq_true h]
      refine Ev.step (f := fun k => (variorumref09_Glues.f k l).bind fun t => (variorumref03_May.f k t).bind fun b => some b) (fun k => ?_) (Ev.bind (a := gq l l.length 0) ?_ (Ev.bind (rmay_ev _) (Ev.now _)))
      · simp only [variorumref09_May.l0]; rw [if_neg g0, if_pos h]
      · have := glues_loop9 l (by omega) l.length 0 [] (by omega) (by simp)
        simpa [variorumref09_Glues.f] using this
    · rw [decide_eq_false h]
      refine Ev.step (f := fun _ => some _) (fun k => ?_) (Ev.now _)
      simp only [variorumref09_May.l0]; rw [if_neg g0, if_neg h]; rfl
  | succ d ih =>
    intro i hi
    have g1 : (i : Int) < (l.length : Int) := by omega
    have g2 : (0 : Int) ≤ (i : Int) := by omega
    have g3 : i ≤ 1000000000000000 := by omega
    refine Ev.step (f := fun k => (variorumref09_Right.f k (rd_T45 l (i : Int)).f0 (rd_T45 l (i : Int)).f1.f0 (rd_T45 l (i : Int)).f1.f1 (rd_T45 l (i : Int)).f1.f2 (rd_T45 l (i : Int)).f1.f3 (rd_T45 l (i : Int)).f2 (rd_T45 l (i : Int)).f3 (rd_T45 l (i : Int)).f4 (rd_T45 l (i : Int)).f5).bind fun t => (if t = true then variorumref09_May.l0 k l (((i + 1 : Nat) : Int)) else some false)) (fun k => ?_) (Ev.bind (rright_ev _) ?_)
    · simp only [variorumref09_May.l0]; rw [if_pos g1, if_pos g2]; simp only [succ_w i g3]
    · by_cases a : ri (rd_T45 l (i : Int)) = true
      · simp only [if_pos a, ar, a, Bool.true_and]; exact ih (i + 1) (by omega)
      · simp only [if_neg a, ar, Bool.eq_false_iff.mpr a, Bool.false_and, Bool.and_false]; exact Ev.now _
theorem rmay9_ev (l : List S45) (hl : l.length ≤ 1000000000000000) : Ev (fun k => variorumref09_May.f k l) (mi l) := rmay9_loop l hl l.length 0 (by omega)

/-! ## Boxes -/
def bx (l : List S45) : Nat → Nat → List S45
  | 0, _ => []
  | d + 1, i => (if (rd_T45 l (i : Int)).f0 = 0 then [rd_T45 l (i : Int)] else []) ++ bx l d (i + 1)
theorem bx_len (l : List S45) : ∀ d i, (bx l d i).length ≤ d
  | 0, i => Nat.le_refl _
  | d + 1, i => by
    have := bx_len l d (i + 1)
    simp only [bx, List.length_append]
    split <;> simp <;> omega
theorem boxes_loop (l : List S45) (hl : l.length < 1954687338268) : ∀ (d i : Nat) (acc : List S45), i + d = l.length → acc.length ≤ i → Ev (fun k => item_Boxes.l0 k acc l (l.length : Int) (i : Int)) (acc ++ bx l d i) := by
  intro d
  induction d with
  | zero =>
    intro i acc hi ha
    have g0 : ¬ (i : Int) < (l.length : Int) := by omega
    refine Ev.step (f := fun _ => some _) (fun k => ?_) (Ev.now _)
    simp only [item_Boxes.l0]; rw [if_neg g0]; simp [bx]
  | succ d ih =>
    intro i acc hi ha
    have g1 : (i : Int) < (l.length : Int) := by omega
    have g2 : (0 : Int) ≤ (i : Int) := by omega
    have g3 : i ≤ 1000000000000000 := by omega
    have g4 : acc.length < 1954687338268 := by omega
    by_cases a : (rd_T45 l (i : Int)).f0 = 0
    · have e : acc ++ bx l (d + 1) i = (acc ++ [rd_T45 l (i : Int)]) ++ bx l d (i + 1) := by simp [bx, a]
      rw [e]
      refine Ev.step (fun k => ?_) (ih (i + 1) (acc ++ [rd_T45 l (i : Int)]) (by omega) (by simp; omega))
      simp only [item_Boxes.l0]; rw [if_pos g1, if_pos g2, if_pos g1, if_pos a, if_pos g4, succ_w i g3]
    · have e : acc ++ bx l (d + 1) i = acc ++ bx l d (i + 1) := by simp [bx, a]
      rw [e]
      refine Ev.step (fun k => ?_) (ih (i + 1) acc (by omega) (by omega))
      simp only [item_Boxes.l0]; rw [if_pos g1, if_pos g2, if_pos g1, if_neg a, succ_w i g3]
theorem boxes_ev (l : List S45) (hl : l.length < 1954687338268) : Ev (fun k => item_Boxes.f k l) (bx l l.length 0) := by
  have := boxes_loop l hl l.length 0 [] (by omega) (by simp)
  simpa [item_Boxes.f] using this
theorem same_loop (l : List S45) (hl : l.length ≤ 1000000000000000) : ∀ (d i : Nat), i + d = l.length → Ev (fun k => variorumref09_Same.l0 k l l (i : Int)) true := by
  intro d
  induction d with
  | zero =>
    intro i hi
    have g0 : ¬ (i : Int) < (l.length : Int) := by omega
    refine Ev.step (f := fun _ => some _) (fun k => ?_) (Ev.now _)
    simp only [variorumref09_Same.l0]; rw [if_neg g0]
  | succ d ih =>
    intro i hi
    have g1 : (i : Int) < (l.length : Int) := by omega
    have g2 : (0 : Int) ≤ (i : Int) := by omega
    have g3 : i ≤ 1000000000000000 := by omega
    refine Ev.step (fun k => ?_) (ih (i + 1) (by omega))
    simp only [variorumref09_Same.l0]; rw [if_pos g1, if_pos g2, if_pos g1, if_neg (by simp), succ_w i g3]
theorem same_ev (l : List S45) (hl : l.length ≤ 1000000000000000) : Ev (fun k => variorumref09_Same.f k l l) true := by
  unfold variorumref09_Same.f
  simp only [if_true]
  exact same_loop l hl l.length 0 (by omega)
theorem fixed_ev : Ev (fun k => variorumlaw09_fixed.f k) true := Ev.of variorumlaw09_fixed.mono (k := 60) (by decide +kernel)

end Go.Proofs.Ytbdaaiagpknaoaa.Pure

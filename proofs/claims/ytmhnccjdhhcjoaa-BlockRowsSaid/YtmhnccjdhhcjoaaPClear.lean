/- What Clear tells, in block and in its reference. -/
import Derived.Test.YtmhnccjdhhcjoaaPAllx7
import Derived.Test.YtmhnccjdhhcjoaaPSpots
namespace Go.Proofs.Ytmhnccjdhhcjoaa.Pure
set_option linter.unusedVariables false
set_option linter.unusedSimpArgs false
open Go.RowKit Go.Proofs.Ytmhnccjdhhcjoaa.PAll Go.Proofs.YtmhnccjdhhcjoaaW.PrintWords Go.Proofs.YtmhnccjdhhcjoaaW.PrintLast Go.Proofs.YtmhnccjdhhcjoaaW.PrintMore

def Fit (x : Int) : Prop := -1073741823 ≤ x ∧ x ≤ 1073741823
theorem fit_f (x : Int) (b : Bool) (hb : b = true ↔ Fit x) : scaled_Fits.f x = some b := by
  rw [fits_f]; congr 1; rw [Bool.eq_iff_iff, decide_eq_true_iff, hb]; rfl
theorem rfit_f (x : Int) (b : Bool) (hb : b = true ↔ Fit x) : variorumref02_Fits.f x = some b := by
  rw [rfits_f]; congr 1; rw [Bool.eq_iff_iff, decide_eq_true_iff, hb]; rfl
theorem fit_sub {a b : Int} (ha : Fit a) (hb : Fit b) : wrap64 (a - b) = a - b := wrap_small (by unfold Fit at ha hb; omega)
theorem fit_add {a b : Int} (ha : Fit a) (hb : Fit b) : wrap64 (a + b) = a + b := wrap_small (by unfold Fit at ha hb; omega)
/-- One note lies on another. -/
structure On (l : List S32) (h : List Int) (i k : Nat) : Prop where
  ne : i ≠ k
  col : (rd_T32 l (i : Int)).f0 = (rd_T32 l (k : Int)).f0
  has : rd h (i : Int) > 0
  ge : (rd_T32 l (i : Int)).f1 ≥ (rd_T32 l (k : Int)).f1
  lt : (rd_T32 l (i : Int)).f1 - (rd_T32 l (k : Int)).f1 < rd h (k : Int)
structure Clr (l : List S32) (h : List Int) : Prop where
  len : l.length = h.length
  fits : ∀ i : Nat, i < l.length → Fit (rd_T32 l (i : Int)).f1 ∧ Fit (rd h (i : Int))
  apart : ∀ i k : Nat, i < l.length → k < l.length → ¬ On l h i k
/-- So as the program asks it. -/
structure Bad (l : List S32) (h : List Int) (i k : Nat) : Prop where
  ne : i ≠ k
  col : (rd_T32 l (i : Int)).f0 = (rd_T32 l (k : Int)).f0
  has : rd h (i : Int) > 0
  ge : (rd_T32 l (i : Int)).f1 ≥ (rd_T32 l (k : Int)).f1
  lt : wrap64 ((rd_T32 l (i : Int)).f1 - (rd_T32 l (k : Int)).f1) < rd h (k : Int)
theorem Clr.fine {l : List S32} {h : List Int} (c : Clr l h) (i k : Nat) (hi : i < l.length) (hk : k < l.length) : ¬ Bad l h i k := fun b =>
  c.apart i k hi hk ⟨b.ne, b.col, b.has, b.ge, by have := b.lt; rwa [fit_sub (c.fits i hi).1 (c.fits k hk).1] at this⟩

theorem clear_ev (l : List S32) (h : List Int) (hl : l.length ≤ 1000000) (b : Bool) (hb : b = true ↔ Clr l h) : Ev (fun k => block_Clear.f k l h) b := by
  have hfalse : ¬ Clr l h → b = false := fun n => by cases b; rfl; exact absurd (hb.1 rfl) n
  by_cases he : l.length = h.length
  · have key : ∀ (d i : Nat), i + d = l.length → (∀ q : Nat, q < i → (Fit (rd_T32 l (q : Int)).f1 ∧ Fit (rd h (q : Int))) ∧ ∀ k : Nat, k < l.length → ¬ Bad l h q k) → Ev (fun k => block_Clear.l0 k l h l (l.length : Int) (i : Int)) b := by
      intro d
      induction d with
      | zero =>
        intro i hi hq
        have e : i = l.length := by omega
        subst e
        have g : ¬ (l.length : Int) < (l.length : Int) := by omega
        have hc : Clr l h := ⟨he, fun i hi => (hq i hi).1, fun i k hi hk on => (hq i hi).2 k hk ⟨on.ne, on.col, on.has, on.ge, by rw [fit_sub (hq i hi).1.1 (hq k hk).1.1]; exact on.lt⟩⟩
        refine Ev.step (f := fun _ => some b) (fun k => ?_) (Ev.now _)
        simp only [block_Clear.l0]
        rw [if_neg g, hb.2 hc]
      | succ d ih =>
        intro i hi hq
        have g1 : (i : Int) < (l.length : Int) := by omega
        have g2 : (0 : Int) ≤ (i : Int) := by omega
        have g3 : (i : Int) < (h.length : Int) := by omega
        have g9 : i ≤ 1000000000000000 := by omega
        have hjt : ¬ Clr l h → Ev (fun k => block_Clear.j1 k l h (i : Int) l (l.length : Int) (i : Int) true (rd_T32 l (i : Int)).f0 (rd_T32 l (i : Int)).f1) b := by
          intro n
          rw [hfalse n]
          refine Ev.step (f := fun _ => some false) (fun k => ?_) (Ev.now _)
          simp [block_Clear.j1]
        by_cases a1 : Fit (rd_T32 l (i : Int)).f1
        · have f1 := fit_f (rd_T32 l (i : Int)).f1 true (by simp [a1])
          by_cases a2 : Fit (rd h (i : Int))
          · have f2 := fit_f (rd h (i : Int)) true (by simp [a2])
            have inner : ∀ (e j : Nat), j + e = l.length → (∀ q : Nat, q < j → ¬ Bad l h i q) → Ev (fun k => block_Clear.l1 k l h (i : Int) l (l.length : Int) (i : Int) l (l.length : Int) (j : Int) (rd_T32 l (i : Int)).f0 (rd_T32 l (i : Int)).f1) b := by
              intro e
              induction e with
              | zero =>
                intro j hj hqj
                have ej : j = l.length := by omega
                have g : ¬ (j : Int) < (l.length : Int) := by omega
                have hn := ih (i + 1) (by omega) (fun q hqi => by
                  by_cases hqe : q = i
                  · subst hqe; exact ⟨⟨a1, a2⟩, fun k hk => hqj k (by omega)⟩
                  · exact hq q (by omega))
                refine Ev.step (fun k => ?_) hn
                simp only [block_Clear.l1]
                rw [if_neg g, succ_w i g9]
              | succ e ihe =>
                intro j hj hqj
                have k1 : (j : Int) < (l.length : Int) := by omega
                have k2 : (0 : Int) ≤ (j : Int) := by omega
                have k3 : (j : Int) < (h.length : Int) := by omega
                have k9 : j ≤ 1000000000000000 := by omega
                by_cases bad : Bad l h i j
                · have hn : ¬ Clr l h := fun c => c.fine i j (by omega) (by omega) bad
                  rw [hfalse hn]
                  have ne : ¬ (i : Int) = (j : Int) := by have := bad.ne; omega
                  refine Ev.step (f := fun _ => some false) (fun k => ?_) (Ev.now _)
                  simp only [block_Clear.l1]
                  rw [if_pos k1, if_pos k2, if_pos k1, if_neg ne, if_pos bad.col, if_pos g2, if_pos g3, if_pos bad.has, if_pos bad.ge, if_pos k3, if_pos bad.lt]
                · have hn := ihe (j + 1) (by omega) (fun q hqq => by
                    by_cases hqe : q = j
                    · subst hqe; exact bad
                    · exact hqj q (by omega))
                  refine Ev.step (fun k => ?_) hn
                  simp only [block_Clear.l1]
                  rw [if_pos k1, if_pos k2, if_pos k1, if_pos g2, if_pos g3, if_pos k3, succ_w j k9]
                  by_cases b1 : (i : Int) = (j : Int)
                  · rw [if_pos b1]
                  · rw [if_neg b1]
                    by_cases b2 : (rd_T32 l (i : Int)).f0 = (rd_T32 l (j : Int)).f0
                    · rw [if_pos b2]
                      by_cases b3 : rd h (i : Int) > 0
                      · rw [if_pos b3]
                        by_cases b4 : (rd_T32 l (i : Int)).f1 ≥ (rd_T32 l (j : Int)).f1
                        · rw [if_pos b4, if_neg (fun b5 => bad ⟨fun x => b1 (by rw [x]), b2, b3, b4, b5⟩)]
                        · rw [if_neg b4]
                      · rw [if_neg b3]
                    · rw [if_neg b2]
            have hj : Ev (fun k => block_Clear.j1 k l h (i : Int) l (l.length : Int) (i : Int) false (rd_T32 l (i : Int)).f0 (rd_T32 l (i : Int)).f1) b := by
              refine Ev.step (fun k => ?_) (inner l.length 0 (by omega) (fun q hq => by omega))
              simp [block_Clear.j1]
            refine Ev.step (fun k => ?_) hj
            simp only [block_Clear.l0]
            rw [if_pos g1, if_pos g2, if_pos g1, f1, f2, if_pos g3]
            rfl
          · have f2 := fit_f (rd h (i : Int)) false (by simp [a2])
            refine Ev.step (fun k => ?_) (hjt (fun c => a2 (c.fits i (by omega)).2))
            simp only [block_Clear.l0]
            rw [if_pos g1, if_pos g2, if_pos g1, f1, f2, if_pos g3]
            rfl
        · have f1 := fit_f (rd_T32 l (i : Int)).f1 false (by simp [a1])
          refine Ev.step (fun k => ?_) (hjt (fun c => a1 (c.fits i (by omega)).1))
          simp only [block_Clear.l0]
          rw [if_pos g1, if_pos g2, if_pos g1, f1]
          rfl
    refine Ev.congr (fun k => ?_) (key l.length 0 (by omega) (fun q hq => by omega))
    unfold block_Clear.f
    rw [if_pos (by omega)]
    rfl
  · rw [hfalse (fun c => he c.len)]
    refine Ev.congr (f := fun _ => some false) (fun k => ?_) (Ev.now _)
    unfold block_Clear.f
    rw [if_neg (by omega)]

theorem rclear_ev (l : List S32) (h : List Int) (hl : l.length ≤ 1000000) (b : Bool) (hb : b = true ↔ Clr l h) : Ev (fun k => variorumref20_Clear.f k l h) b := by
  have hfalse : ¬ Clr l h → b = false := fun n => by cases b; rfl; exact absurd (hb.1 rfl) n
  by_cases he : l.length = h.length
  · have second : (∀ q : Nat, q < l.length → Fit (rd_T32 l (q : Int)).f1 ∧ Fit (rd h (q : Int))) → ∀ (d i : Nat), i + d = l.length → (∀ q : Nat, q < i → ∀ k : Nat, k < l.length → ¬ On l h q k) → Ev (fun k => variorumref20_Clear.l1 k l h (i : Int)) b := by
      intro hf d
      induction d with
      | zero =>
        intro i hi hq
        have e : i = l.length := by omega
        subst e
        have g : ¬ (l.length : Int) < (l.length : Int) := by omega
        refine Ev.step (f := fun _ => some b) (fun k => ?_) (Ev.now _)
        simp only [variorumref20_Clear.l1]
        rw [if_neg g, hb.2 ⟨he, hf, fun i k hi hk => hq i hi k hk⟩]
      | succ d ih =>
        intro i hi hq
        have g1 : (i : Int) < (l.length : Int) := by omega
        have g2 : (0 : Int) ≤ (i : Int) := by omega
        have g3 : (i : Int) < (h.length : Int) := by omega
        have g9 : i ≤ 1000000000000000 := by omega
        have inner : ∀ (e j : Nat), j + e = l.length → (∀ q : Nat, q < j → ¬ On l h i q) → Ev (fun k => variorumref20_Clear.l2 k l h (i : Int) (j : Int)) b := by
          intro e
          induction e with
          | zero =>
            intro j hj hqj
            have g : ¬ (j : Int) < (l.length : Int) := by omega
            have hn := ih (i + 1) (by omega) (fun q hqi => by
              by_cases hqe : q = i
              · subst hqe; exact fun k hk => hqj k (by omega)
              · exact hq q (by omega))
            refine Ev.step (fun k => ?_) hn
            simp only [variorumref20_Clear.l2]
            rw [if_neg g, succ_w i g9]
          | succ e ihe =>
            intro j hj hqj
            have k1 : (j : Int) < (l.length : Int) := by omega
            have k2 : (0 : Int) ≤ (j : Int) := by omega
            have k3 : (j : Int) < (h.length : Int) := by omega
            have k9 : j ≤ 1000000000000000 := by omega
            have fi := hf i (by omega)
            have fj := hf j (by omega)
            by_cases on : On l h i j
            · have hn : ¬ Clr l h := fun c => c.apart i j (by omega) (by omega) on
              rw [hfalse hn]
              have ne : ¬ (i : Int) = (j : Int) := by have := on.ne; omega
              have w1 := on.ge
              have w2 := on.lt
              have w3 : rd h (j : Int) > 0 := by omega
              have w4 : (rd_T32 l (i : Int)).f1 < (rd_T32 l (j : Int)).f1 + rd h (j : Int) := by omega
              refine Ev.step (f := fun _ => some false) (fun k => ?_) (Ev.now _)
              simp only [variorumref20_Clear.l2]
              rw [if_pos k1, if_pos g2, if_pos g1, if_pos k2, if_pos on.ge, if_pos k3, if_neg ne, if_pos on.col, if_pos g3, if_pos on.has, if_pos w3, fit_add fj.1 fj.2, if_pos w4]
            · have hn := ihe (j + 1) (by omega) (fun q hqq => by
                by_cases hqe : q = j
                · subst hqe; exact on
                · exact hqj q (by omega))
              refine Ev.step (fun k => ?_) hn
              simp only [variorumref20_Clear.l2]
              rw [if_pos k1, if_pos g2, if_pos g1, if_pos k2, if_pos k3, if_pos g3, succ_w j k9, fit_add fj.1 fj.2]
              by_cases b1 : (i : Int) = (j : Int)
              · rw [if_pos b1, if_pos b1]; try simp only [if_pos g3, if_pos k3, ite_self]
              · rw [if_neg b1, if_neg b1]
                by_cases b2 : (rd_T32 l (i : Int)).f0 = (rd_T32 l (j : Int)).f0
                · rw [if_pos b2, if_pos b2]
                  by_cases b3 : rd h (i : Int) > 0
                  · rw [if_pos b3, if_pos b3]
                    by_cases b4 : (rd_T32 l (i : Int)).f1 ≥ (rd_T32 l (j : Int)).f1
                    · rw [if_pos b4]
                      have b5 : ¬ (rd_T32 l (i : Int)).f1 < (rd_T32 l (j : Int)).f1 + rd h (j : Int) := fun b5 => on ⟨fun x => b1 (by rw [x]), b2, b3, b4, by omega⟩
                      rw [if_neg b5]
                      try simp only [if_pos g3, if_pos k3, ite_self]
                    · rw [if_neg b4]
                      try simp only [if_pos g3, if_pos k3, ite_self]
                  · rw [if_neg b3, if_neg b3]; try simp only [if_pos g3, if_pos k3, ite_self]
                · rw [if_neg b2, if_neg b2]; try simp only [if_pos g3, if_pos k3, ite_self]
        refine Ev.step (fun k => ?_) (inner l.length 0 (by omega) (fun q hq => by omega))
        simp only [variorumref20_Clear.l1]
        rw [if_pos g1]
        rfl
    have first : ∀ (d i : Nat), i + d = l.length → (∀ q : Nat, q < i → Fit (rd_T32 l (q : Int)).f1 ∧ Fit (rd h (q : Int))) → Ev (fun k => variorumref20_Clear.l0 k l h (i : Int)) b := by
      intro d
      induction d with
      | zero =>
        intro i hi hq
        have e : i = l.length := by omega
        subst e
        have g : ¬ (l.length : Int) < (l.length : Int) := by omega
        refine Ev.step (fun k => ?_) (second hq l.length 0 (by omega) (fun q hq => by omega))
        simp only [variorumref20_Clear.l0]
        rw [if_neg g]
        rfl
      | succ d ih =>
        intro i hi hq
        have g1 : (i : Int) < (l.length : Int) := by omega
        have g2 : (0 : Int) ≤ (i : Int) := by omega
        have g3 : (i : Int) < (h.length : Int) := by omega
        have g9 : i ≤ 1000000000000000 := by omega
        by_cases a1 : Fit (rd_T32 l (i : Int)).f1
        · have f1 := rfit_f (rd_T32 l (i : Int)).f1 true (by simp [a1])
          by_cases a2 : Fit (rd h (i : Int))
          · have f2 := rfit_f (rd h (i : Int)) true (by simp [a2])
            refine Ev.step (fun k => ?_) (ih (i + 1) (by omega) (fun q hqi => by
              by_cases hqe : q = i
              · subst hqe; exact ⟨a1, a2⟩
              · exact hq q (by omega)))
            simp only [variorumref20_Clear.l0]
            rw [if_pos g1, if_pos g2, f1, f2, if_pos g3, succ_w i g9]
            rfl
          · have f2 := rfit_f (rd h (i : Int)) false (by simp [a2])
            rw [hfalse (fun c => a2 (c.fits i (by omega)).2)]
            refine Ev.step (f := fun _ => some false) (fun k => ?_) (Ev.now _)
            simp only [variorumref20_Clear.l0]
            rw [if_pos g1, if_pos g2, f1, f2, if_pos g3]
            rfl
        · have f1 := rfit_f (rd_T32 l (i : Int)).f1 false (by simp [a1])
          rw [hfalse (fun c => a1 (c.fits i (by omega)).1)]
          refine Ev.step (f := fun _ => some false) (fun k => ?_) (Ev.now _)
          simp only [variorumref20_Clear.l0]
          rw [if_pos g1, if_pos g2, f1]
          rfl
    refine Ev.congr (fun k => ?_) (first l.length 0 (by omega) (fun q hq => by omega))
    unfold variorumref20_Clear.f
    rw [if_pos (by omega)]
    rfl
  · rw [hfalse (fun c => he c.len)]
    refine Ev.congr (f := fun _ => some false) (fun k => ?_) (Ev.now _)
    unfold variorumref20_Clear.f
    rw [if_neg (by omega)]

end Go.Proofs.Ytmhnccjdhhcjoaa.Pure

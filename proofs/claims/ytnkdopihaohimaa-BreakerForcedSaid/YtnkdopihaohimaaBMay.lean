/- What the document's answers come to: forced breaks; what items may be. -/
import Derived.Test.YtnkdopihaohimaaPBrx9
import Derived.Test.YtnkdopihaohimaaPBrx10
import Derived.Test.YtnkdopihaohimaaPBrx11
import Derived.Test.YtnkdopihaohimaaPBrx12
import Derived.Test.YtnkdopihaohimaaBPlain
namespace Go.Proofs.Ytnkdopihaohimaa.Pure
set_option linter.unusedVariables false
set_option linter.unusedSimpArgs false
open Go.RowKit Go.Proofs.Ytnkdopihaohimaa.PBr Go.Proofs.YtnkdopihaohimaaW.PrintWords Go.Proofs.YtnkdopihaohimaaW.PrintLast Go.Proofs.YtnkdopihaohimaaW.PrintMore

theorem rforced_f (x : S47) : variorumref10_Forced.f x.f0 x.f1.f0 x.f1.f1 x.f1.f2 x.f1.f3 x.f2 x.f3 x.f4 x.f5 = some (fz x) := forced_f x
/-! ## Layer 2 and layer 3 -/
theorem rfits_f (a : Int) : variorumref02_Fits.f a = some (fi a) := by
  unfold variorumref02_Fits.f variorumref02_Most.f
  simp only [Option.bind_some]
  rw [show wrap64 (-1073741823) = -1073741823 from wrap_small (by omega)]
  unfold fi
  by_cases h : a ≥ -1073741823
  · rw [if_pos h]; congr 1; exact decide_eq_decide.2 ⟨fun x => ⟨h, x⟩, fun x => x.2⟩
  · rw [if_neg h]; congr 1; symm; exact decide_eq_false (fun x => h x.1)
theorem rmay_no (g : List S45) (w s h i a b c d : Int) : Ev (fun k => variorumref03_May.j1 k g w s h i true a b c d) false :=
  Ev.step (f := fun _ => some _) (fun k => by simp only [variorumref03_May.j1]; rw [if_pos trivial]) (Ev.now _)
theorem rmay_loop (g : List S45) (hl : g.length ≤ 2000) : ∀ (d i : Nat) (w s h : Int), i + d = g.length → (0 ≤ w ∧ w ≤ (i : Int) * 1073741823) → (0 ≤ s ∧ s ≤ (i : Int) * 1073741823) → (0 ≤ h ∧ h ≤ (i : Int) * 1073741823) → Ev (fun k => variorumref03_May.l0 k g w s h (i : Int)) (mv g d i w s h) := by
  intro d
  induction d with
  | zero =>
    intro i w s h hi hw hs hh
    have g0 : ¬ (i : Int) < (g.length : Int) := by omega
    refine Ev.step (f := fun _ => some _) (fun k => ?_) (Ev.now _)
    simp only [variorumref03_May.l0]
    rw [if_neg g0, rfits_f, rfits_f, rfits_f, fi_am hw.1, fi_am hs.1, fi_am hh.1]
    simp only [Option.bind_some, mv]
    cases am w <;> cases am s <;> rfl
  | succ d ih =>
    intro i w s h hi hw hs hh
    have g1 : (i : Int) < (g.length : Int) := by omega
    have g2 : (0 : Int) ≤ (i : Int) := by omega
    have g3 : i ≤ 1000000000000000 := by omega
    have step : ∀ (r : Bool) (f : Nat → Option Bool), (∀ k, variorumref03_May.l0 (k + 1) g w s h (i : Int) = f k) → Ev f r → Ev (fun k => variorumref03_May.l0 k g w s h (i : Int)) r := fun r f e v => Ev.step e v
    by_cases a1 : fi (rd_T45 g (i : Int)).f0 = true
    · by_cases a2' : (rd_T45 g (i : Int)).f1 < 0
      · have e : mv g (d + 1) i w s h = false := by simp only [mv]; rw [if_pos a1, neg_am a2', if_neg (by decide)]
        rw [e]
        refine step _ _ (fun k => ?_) (rmay_no g w s h i (rd_T45 g (i : Int)).f0 (rd_T45 g (i : Int)).f1 (rd_T45 g (i : Int)).f2 (rd_T45 g (i : Int)).f3)
        simp only [variorumref03_May.l0]
        rw [if_pos g1, if_pos g2, rfits_f]
        simp only [Option.bind_some]
        rw [if_pos a1, if_pos a2']
      · by_cases a2 : fi (rd_T45 g (i : Int)).f1 = true
        · by_cases a3' : (rd_T45 g (i : Int)).f2 < 0
          · have e : mv g (d + 1) i w s h = false := by simp only [mv]; rw [if_pos a1, neg_am a3', if_neg (by decide : ¬ false = true)]; split <;> rfl
            rw [e]
            refine step _ _ (fun k => ?_) (rmay_no g w s h i (rd_T45 g (i : Int)).f0 (rd_T45 g (i : Int)).f1 (rd_T45 g (i : Int)).f2 (rd_T45 g (i : Int)).f3)
            simp only [variorumref03_May.l0]
            rw [if_pos g1, if_pos g2, rfits_f]
            simp only [Option.bind_some]
            rw [if_pos a1, if_neg a2', rfits_f]
            simp only [Option.bind_some]
            rw [if_pos a2, if_pos a3']
          · by_cases a3 : fi (rd_T45 g (i : Int)).f2 = true
            · have a2m : am (rd_T45 g (i : Int)).f1 = true := by rw [← fi_am (by omega)]; exact a2
              have a3m : am (rd_T45 g (i : Int)).f2 = true := by rw [← fi_am (by omega)]; exact a3
              by_cases a4 : (rd_T45 g (i : Int)).f3 < 0
              · have e : mv g (d + 1) i w s h = false := by simp only [mv]; rw [if_pos a1, if_pos a2m, if_pos a3m, if_pos a4]
                rw [e]
                refine step _ _ (fun k => ?_) (rmay_no g w s h i (rd_T45 g (i : Int)).f0 (rd_T45 g (i : Int)).f1 (rd_T45 g (i : Int)).f2 (rd_T45 g (i : Int)).f3)
                simp only [variorumref03_May.l0]
                rw [if_pos g1, if_pos g2, rfits_f]
                simp only [Option.bind_some]
                rw [if_pos a1, if_neg a2', rfits_f]
                simp only [Option.bind_some]
                rw [if_pos a2, if_neg a3', rfits_f]
                simp only [Option.bind_some]
                rw [if_pos a3, if_pos a4]
              · refine step _ (fun k => variorumref03_May.j1 k g w s h (i : Int) (decide ((rd_T45 g (i : Int)).f3 > 3)) (rd_T45 g (i : Int)).f0 (rd_T45 g (i : Int)).f1 (rd_T45 g (i : Int)).f2 (rd_T45 g (i : Int)).f3) (fun k => ?_) ?_
                · simp only [variorumref03_May.l0]
                  rw [if_pos g1, if_pos g2, rfits_f]
                  simp only [Option.bind_some]
                  rw [if_pos a1, if_neg a2', rfits_f]
                  simp only [Option.bind_some]
                  rw [if_pos a2, if_neg a3', rfits_f]
                  simp only [Option.bind_some]
                  rw [if_pos a3, if_neg a4]
                · by_cases a5 : (rd_T45 g (i : Int)).f3 > 3
                  · have e : mv g (d + 1) i w s h = false := by simp only [mv]; rw [if_pos a1, if_pos a2m, if_pos a3m, if_neg a4, if_pos a5]
                    rw [e, decide_eq_true a5]
                    exact rmay_no ..
                  · have b1 := fi_iff.1 a1
                    have b2 := am_iff.1 a2m
                    have b3 := am_iff.1 a3m
                    have m1 : 0 ≤ mx (rd_T45 g (i : Int)).f0 (-(rd_T45 g (i : Int)).f0) ∧ mx (rd_T45 g (i : Int)).f0 (-(rd_T45 g (i : Int)).f0) ≤ 1073741823 := by unfold mx; split <;> omega
                    have m2 : (rd_T45 g (i : Int)).f0 < 0 → w - (rd_T45 g (i : Int)).f0 = w + mx (rd_T45 g (i : Int)).f0 (-(rd_T45 g (i : Int)).f0) := fun q => by unfold mx; split <;> omega
                    have m3 : ¬ (rd_T45 g (i : Int)).f0 < 0 → w + (rd_T45 g (i : Int)).f0 = w + mx (rd_T45 g (i : Int)).f0 (-(rd_T45 g (i : Int)).f0) := fun q => by unfold mx; split <;> omega
                    have e1 : wrap64 (w - (rd_T45 g (i : Int)).f0) = w - (rd_T45 g (i : Int)).f0 := wrap_small (by omega)
                    have e1' : wrap64 (w + (rd_T45 g (i : Int)).f0) = w + (rd_T45 g (i : Int)).f0 := wrap_small (by omega)
                    have e2 : wrap64 (s + (rd_T45 g (i : Int)).f1) = s + (rd_T45 g (i : Int)).f1 := wrap_small (by omega)
                    have e3 : wrap64 (h + (rd_T45 g (i : Int)).f2) = h + (rd_T45 g (i : Int)).f2 := wrap_small (by omega)
                    have hv : mv g (d + 1) i w s h = mv g d (i + 1) (w + mx (rd_T45 g (i : Int)).f0 (-(rd_T45 g (i : Int)).f0)) (s + (rd_T45 g (i : Int)).f1) (h + (rd_T45 g (i : Int)).f2) := by
                      simp only [mv]; rw [if_pos a1, if_pos a2m, if_pos a3m, if_neg a4, if_neg a5]
                    rw [hv, decide_eq_false a5]
                    refine Ev.step (fun k => ?_) (ih (i + 1) (w + mx (rd_T45 g (i : Int)).f0 (-(rd_T45 g (i : Int)).f0)) (s + (rd_T45 g (i : Int)).f1) (h + (rd_T45 g (i : Int)).f2) (by omega) (by omega) (by omega) (by omega))
                    simp only [variorumref03_May.j1]
                    rw [if_neg (by decide)]
                    by_cases a6 : (rd_T45 g (i : Int)).f0 < 0
                    · rw [if_pos a6, e1, e2, e3, m2 a6, succ_w i g3]
                    · rw [if_neg a6, e1', e2, e3, m3 a6, succ_w i g3]
            · have a3m : ¬ am (rd_T45 g (i : Int)).f2 = true := by rw [← fi_am (by omega)]; exact a3
              have e : mv g (d + 1) i w s h = false := by simp only [mv]; rw [if_pos a1, if_neg a3m]; split <;> rfl
              rw [e]
              refine step _ _ (fun k => ?_) (rmay_no g w s h i (rd_T45 g (i : Int)).f0 (rd_T45 g (i : Int)).f1 (rd_T45 g (i : Int)).f2 (rd_T45 g (i : Int)).f3)
              simp only [variorumref03_May.l0]
              rw [if_pos g1, if_pos g2, rfits_f]
              simp only [Option.bind_some]
              rw [if_pos a1, if_neg a2', rfits_f]
              simp only [Option.bind_some]
              rw [if_pos a2, if_neg a3', rfits_f]
              simp only [Option.bind_some]
              rw [if_neg a3]
        · have a2m : ¬ am (rd_T45 g (i : Int)).f1 = true := by rw [← fi_am (by omega)]; exact a2
          have e : mv g (d + 1) i w s h = false := by simp only [mv]; rw [if_pos a1, if_neg a2m]
          rw [e]
          refine step _ _ (fun k => ?_) (rmay_no g w s h i (rd_T45 g (i : Int)).f0 (rd_T45 g (i : Int)).f1 (rd_T45 g (i : Int)).f2 (rd_T45 g (i : Int)).f3)
          simp only [variorumref03_May.l0]
          rw [if_pos g1, if_pos g2, rfits_f]
          simp only [Option.bind_some]
          rw [if_pos a1, if_neg a2', rfits_f]
          simp only [Option.bind_some]
          rw [if_neg a2]
    · have e : mv g (d + 1) i w s h = false := by simp only [mv]; rw [if_neg a1]
      rw [e]
      refine step _ _ (fun k => ?_) (rmay_no g w s h i (rd_T45 g (i : Int)).f0 (rd_T45 g (i : Int)).f1 (rd_T45 g (i : Int)).f2 (rd_T45 g (i : Int)).f3)
      simp only [variorumref03_May.l0]
      rw [if_pos g1, if_pos g2, rfits_f]
      simp only [Option.bind_some]
      rw [if_neg a1]
theorem rmay_ev (g : List S45) : Ev (fun k => variorumref03_May.f k g) (my g) := by
  unfold variorumref03_May.f my
  by_cases h : (g.length : Int) > 2000
  · simp only [if_pos h]; exact Ev.now _
  · simp only [if_neg h]
    have := rmay_loop g (by omega) g.length 0 0 0 0 (by omega) (by omega) (by omega) (by omega)
    simpa using this
theorem rright_j2 (p c : Bool) (x : S47) (h0 : ¬ x.f0 = 0) (hc : c = true ↔ ¬ (x.f4 = 0 ∧ x.f5 = 0)) : Ev (fun k => variorumref09_Right.j2 k p c x.f0 x.f1.f0 x.f1.f1 x.f1.f2 x.f1.f3 x.f2 x.f3 x.f4 x.f5 x.f1.f0 x.f1.f1 x.f1.f2 x.f1.f3) (rj p x) := by
  unfold rj
  rw [if_neg h0]
  by_cases e : c = true
  · have n := hc.1 e
    refine Ev.step (f := fun _ => some _) (fun k => ?_) (Ev.now _)
    simp only [variorumref09_Right.j2]
    rw [if_pos e]
    congr 1; symm
    by_cases f : x.f4 = 0
    · have f5 : ¬ x.f5 = 0 := fun q => n ⟨f, q⟩
      split
      · simp [f5]
      · split
        · simp [f5]
        · rfl
    · split
      · simp [f]
      · split
        · simp [f]
        · rfl
  · have q : x.f4 = 0 ∧ x.f5 = 0 := by
      by_cases f : x.f4 = 0 ∧ x.f5 = 0
      · exact f
      · exact absurd (hc.2 f) e
    by_cases h1 : x.f0 = 1
    · rw [if_pos h1]
      refine Ev.step (f := fun k => (variorumref03_May.f k [x.f1]).bind fun t140 => (if t140 = true then (if x.f1.f0 ≥ x.f1.f2 then (if x.f2 = 0 then (some (!x.f3)) else (some false)) else (some false)) else (some false))) (fun k => ?_) (Ev.bind (rmay_ev [x.f1]) ?_)
      · simp only [variorumref09_Right.j2]
        rw [if_neg e, if_pos h1]
      · by_cases a : my [x.f1] = true
        · simp only [if_pos a]
          by_cases b : x.f1.f0 ≥ x.f1.f2
          · simp only [if_pos b]
            by_cases c : x.f2 = 0
            · simp only [if_pos c]; simp [a, b, c, q.1, q.2]; exact Ev.now _
            · simp only [if_neg c]; rw [(beq_eq_false_iff_ne.mpr c : (x.f2 == 0) = false)]; simp only [Bool.false_and, Bool.and_false]; exact Ev.now _
          · simp only [if_neg b]; rw [show decide (x.f1.f0 ≥ x.f1.f2) = false from decide_eq_false b]; simp only [Bool.false_and, Bool.and_false]; exact Ev.now _
        · simp only [if_neg a]; rw [Bool.eq_false_iff.mpr a]; simp only [Bool.false_and, Bool.and_false]; exact Ev.now _
    · rw [if_neg h1]
      refine Ev.step (f := fun _ => some _) (fun k => ?_) (Ev.now _)
      simp only [variorumref09_Right.j2]
      rw [if_neg e, if_neg h1]
      by_cases h2 : x.f0 = 2
      · rw [if_pos h2, if_pos h2]
        by_cases a : p = true
        · rw [if_pos a]
          by_cases b : x.f2 ≥ -10000
          · rw [if_pos b]; simp [a, b, q.1, q.2]
          · rw [if_neg b]; simp [b]
        · rw [if_neg a]; simp [a]
      · rw [if_neg h2, if_neg h2]
theorem rright_j1 (p : Bool) (x : S47) : Ev (fun k => variorumref09_Right.j1 k p x.f0 x.f1.f0 x.f1.f1 x.f1.f2 x.f1.f3 x.f2 x.f3 x.f4 x.f5 x.f1.f0 x.f1.f1 x.f1.f2 x.f1.f3) (rj p x) := by
  by_cases h0 : x.f0 = 0
  · unfold rj
    rw [if_pos h0]
    refine Ev.step (f := fun _ => some _) (fun k => ?_) (Ev.now _)
    simp only [variorumref09_Right.j1]
    rw [if_pos h0]
    by_cases a : p = true
    · rw [if_pos a]
      by_cases b : x.f2 = 0
      · rw [if_pos b]
        by_cases c : x.f3 = true
        · rw [if_pos c]; simp [a, b, c]
        · rw [if_neg c]
          by_cases e : x.f4 ≥ 0
          · rw [if_pos e]; simp [a, b, c, e]
          · rw [if_neg e]; simp [a, b, c, e]
      · rw [if_neg b]; simp [a, b]
    · rw [if_neg a]; simp [a]
  · by_cases h4 : x.f4 = 0
    · refine Ev.step (fun k => ?_) (rright_j2 p (x.f5 != 0) x h0 (by simp [h4]))
      simp only [variorumref09_Right.j1]; rw [if_neg h0, if_pos h4]
    · refine Ev.step (fun k => ?_) (rright_j2 p true x h0 (by simp [h4]))
      simp only [variorumref09_Right.j1]; rw [if_neg h0, if_neg h4]
theorem rright_j0 (p : Bool) (x : S47) : Ev (fun k => variorumref09_Right.j0 k p x.f0 x.f1.f0 x.f1.f1 x.f1.f2 x.f1.f3 x.f2 x.f3 x.f4 x.f5 x.f1.f0 x.f1.f1 x.f1.f2 x.f1.f3) (rj (p && (x.f1.f1 == 0 && (x.f1.f2 == 0 && x.f1.f3 == 0))) x) := by
  by_cases a : p = true
  · by_cases b : x.f1.f1 = 0
    · by_cases c : x.f1.f2 = 0
      · refine Ev.step (fun k => ?_) (rright_j1 _ x)
        simp only [variorumref09_Right.j0]; rw [if_pos a, if_pos b, if_pos c, a, b, c]; rfl
      · refine Ev.step (fun k => ?_) (rright_j1 _ x)
        simp only [variorumref09_Right.j0]; rw [if_pos a, if_pos b, if_neg c, a, b, (beq_eq_false_iff_ne.mpr c : (x.f1.f2 == 0) = false)]; rfl
    · refine Ev.step (fun k => ?_) (rright_j1 _ x)
      simp only [variorumref09_Right.j0]; rw [if_pos a, if_neg b, a, (beq_eq_false_iff_ne.mpr b : (x.f1.f1 == 0) = false)]; rfl
  · refine Ev.step (fun k => ?_) (rright_j1 _ x)
    simp only [variorumref09_Right.j0]; rw [if_neg a, Bool.eq_false_iff.mpr a]; rfl
theorem rright_ev (x : S47) : Ev (fun k => variorumref09_Right.f k x.f0 x.f1.f0 x.f1.f1 x.f1.f2 x.f1.f3 x.f2 x.f3 x.f4 x.f5) (ri x) := by
  unfold variorumref09_Right.f ri
  by_cases a : x.f1.f0 ≥ 0
  · simp only [if_pos a, rfits_f, Option.bind_some]
    have e : pl x = (fi x.f1.f0 && (x.f1.f1 == 0 && (x.f1.f2 == 0 && x.f1.f3 == 0))) := by
      unfold pl; rw [fi_am a]
      cases am x.f1.f0 <;> cases (x.f1.f1 == 0) <;> cases (x.f1.f2 == 0) <;> cases (x.f1.f3 == 0) <;> rfl
    rw [e]; exact rright_j0 _ x
  · simp only [if_neg a]
    have e : pl x = (false && (x.f1.f1 == 0 && (x.f1.f2 == 0 && x.f1.f3 == 0))) := by unfold pl; rw [neg_am (by omega)]; simp
    rw [e]; exact rright_j0 _ x

theorem glues_loop9 (l : List S47) (hl : l.length ≤ 2000) : ∀ (d i : Nat) (acc : List S45), i + d = l.length → acc.length ≤ i → Ev (fun k => variorumref09_Glues.l0 k l acc (i : Int)) (acc ++ gq l d i) := by
  intro d
  induction d with
  | zero =>
    intro i acc hi ha
    have g0 : ¬ (i : Int) < (l.length : Int) := by omega
    refine Ev.step (f := fun _ => some _) (fun k => ?_) (Ev.now _)
    simp only [variorumref09_Glues.l0]; rw [if_neg g0]; simp [gq]
  | succ d ih =>
    intro i acc hi ha
    have g1 : (i : Int) < (l.length : Int) := by omega
    have g2 : (0 : Int) ≤ (i : Int) := by omega
    have g3 : i ≤ 1000000000000000 := by omega
    have g4 : acc.length < 4398046511104 := by omega
    have e : acc ++ gq l (d + 1) i = (acc ++ [(rd_T47 l (i : Int)).f1]) ++ gq l d (i + 1) := by simp [gq]
    rw [e]
    refine Ev.step (fun k => ?_) (ih (i + 1) (acc ++ [(rd_T47 l (i : Int)).f1]) (by omega) (by simp; omega))
    simp only [variorumref09_Glues.l0]; rw [if_pos g1, if_pos g2, if_pos g4, succ_w i g3]
theorem rmay9_loop (l : List S47) (hl : l.length ≤ 1000000000000000) : ∀ (d i : Nat), i + d = l.length → Ev (fun k => variorumref09_May.l0 k l (i : Int)) (decide ((l.length : Int) ≤ 2000) && (ar l d i && my (gq l l.length 0))) := by
  intro d
  induction d with
  | zero =>
    intro i hi
    have g0 : ¬ (i : Int) < (l.length : Int) := by omega
    by_cases h : (l.length : Int) ≤ 2000
    · rw [decide_eq_true h]
      refine Ev.step (f := fun k => (variorumref09_Glues.f k l).bind fun t => (variorumref03_May.f k t).bind fun b => some b) (fun k => ?_) (Ev.bind (a := gq l l.length 0) ?_ (Ev.bind (rmay_ev _) (Ev.now _)))
      · simp only [variorumref09_May.l0]; rw [if_neg g0, if_pos h]
      · have := glues_loop9 l (by omega) l.length 0 [] (by omega) (by simp)
        simpa [variorumref09_Glues.f] using this
    · rw [decide_eq_false h]
      refine Ev.step (f := fun _ => some _) (fun k => ?_) (Ev.now _)
      simp only [variorumref09_May.l0]; rw [if_neg g0, if_neg h]; rfl
  | succ d ih =>
    intro i hi
    have g1 : (i : Int) < (l.length : Int) := by omega
    have g2 : (0 : Int) ≤ (i : Int) := by omega
    have g3 : i ≤ 1000000000000000 := by omega
    refine Ev.step (f := fun k => (variorumref09_Right.f k (rd_T47 l (i : Int)).f0 (rd_T47 l (i : Int)).f1.f0 (rd_T47 l (i : Int)).f1.f1 (rd_T47 l (i : Int)).f1.f2 (rd_T47 l (i : Int)).f1.f3 (rd_T47 l (i : Int)).f2 (rd_T47 l (i : Int)).f3 (rd_T47 l (i : Int)).f4 (rd_T47 l (i : Int)).f5).bind fun t => (if t = true then variorumref09_May.l0 k l (((i + 1 : Nat) : Int)) else some false)) (fun k => ?_) (Ev.bind (rright_ev _) ?_)
    · simp only [variorumref09_May.l0]; rw [if_pos g1, if_pos g2]; simp only [succ_w i g3]
    · by_cases a : ri (rd_T47 l (i : Int)) = true
      · simp only [if_pos a, ar, a, Bool.true_and]; exact ih (i + 1) (by omega)
      · simp only [if_neg a, ar, Bool.eq_false_iff.mpr a, Bool.false_and, Bool.and_false]; exact Ev.now _
theorem rmay9_ev (l : List S47) (hl : l.length ≤ 1000000000000000) : Ev (fun k => variorumref09_May.f k l) (mi l) := rmay9_loop l hl l.length 0 (by omega)


end Go.Proofs.Ytnkdopihaohimaa.Pure

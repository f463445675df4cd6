/- Items' plain lemmas: whether they may be; the document's boxes. -/
import Derived.Test.YtpfnfofaajpdmaaPLnx6
import Derived.Test.YtpfnfofaajpdmaaLGlue
namespace Go.Proofs.Ytpfnfofaajpdmaa.Pure
set_option linter.unusedVariables false
set_option linter.unusedSimpArgs false
open Go.RowKit Go.Proofs.Ytpfnfofaajpdmaa.PLn Go.Proofs.YtpfnfofaajpdmaaW.PrintWords Go.Proofs.YtpfnfofaajpdmaaW.PrintLast Go.Proofs.YtpfnfofaajpdmaaW.PrintMore

theorem fi_am {a : Int} (h : 0 ≤ a) : fi a = am a := by
  unfold fi am; exact decide_eq_decide.2 ⟨fun x => ⟨h, x.2⟩, fun x => ⟨by omega, x.2⟩⟩
theorem neg_am {a : Int} (h : a < 0) : am a = false := by unfold am; exact decide_eq_false (fun x => by omega)
/-! ## An item by itself -/
def rj (p : Bool) (x : S40) : Bool :=
  if x.f0 = 0 then (p && (x.f2 == 0 && (!x.f3 && (decide (x.f4 ≥ 0) && decide (x.f5 ≥ 0)))))
  else if x.f0 = 1 then (my [x.f1] && (decide (x.f1.f0 ≥ x.f1.f2) && (x.f2 == 0 && (!x.f3 && (x.f4 == 0 && x.f5 == 0)))))
  else if x.f0 = 2 then (p && (decide (x.f2 ≥ -10000) && (decide (x.f2 ≤ 10000) && (x.f4 == 0 && x.f5 == 0)))) else false
def pl (x : S40) : Bool := x.f1.f1 == 0 && (x.f1.f2 == 0 && (x.f1.f3 == 0 && am x.f1.f0))
def ri (x : S40) : Bool := rj (pl x) x
theorem right_j0 (p : Bool) (x : S40) : Ev (fun k => item_right.j0 k p x.f0 x.f1.f0 x.f1.f1 x.f1.f2 x.f1.f3 x.f2 x.f3 x.f4 x.f5) (rj p x) := by
  unfold rj
  by_cases h0 : x.f0 = 0
  · rw [if_pos h0]
    refine Ev.step (f := fun _ => some _) (fun k => ?_) (Ev.now _)
    simp only [item_right.j0]
    rw [if_pos h0]
    by_cases a : p = true
    · rw [if_pos a]
      by_cases b : x.f2 = 0
      · rw [if_pos b]
        by_cases c : x.f3 = true
        · rw [if_pos c]; simp [a, b, c]
        · rw [if_neg c]
          by_cases e : x.f4 ≥ 0
          · rw [if_pos e]; simp [a, b, c, e]
          · rw [if_neg e]; simp [a, b, c, e]
      · rw [if_neg b]; simp [a, b]
    · rw [if_neg a]; simp [a]
  · rw [if_neg h0]
    by_cases h1 : x.f0 = 1
    · rw [if_pos h1]
      refine Ev.step (f := fun k => (glue_May.f k [x.f1]).bind fun t116 => (if t116 = true then (if x.f1.f0 ≥ x.f1.f2 then (if x.f2 = 0 then (if x.f3 = true then (some false) else (if x.f2 ≥ (-10000) then (if x.f2 ≤ 10000 then (if x.f4 = 0 then (some (x.f5 == 0)) else (some false)) else (some false)) else (some false))) else (some false)) else (some false)) else (some false))) (fun k => ?_) (Ev.bind (gmay_ev [x.f1]) ?_)
      · simp only [item_right.j0]
        rw [if_neg h0, if_pos h1]
      · by_cases a : my [x.f1] = true
        · simp only [if_pos a]
          by_cases b : x.f1.f0 ≥ x.f1.f2
          · simp only [if_pos b]
            by_cases c : x.f2 = 0
            · simp only [if_pos c]
              by_cases e : x.f3 = true
              · simp only [if_pos e]; simp [e]; exact Ev.now _
              · have c1 : x.f2 ≥ -10000 := by omega
                have c2 : x.f2 ≤ 10000 := by omega
                simp only [if_neg e, if_pos c1, if_pos c2]
                by_cases f : x.f4 = 0
                · simp only [if_pos f]; simp [a, b, c, e, f]; exact Ev.now _
                · simp only [if_neg f]; rw [(beq_eq_false_iff_ne.mpr f : (x.f4 == 0) = false)]; simp only [Bool.false_and, Bool.and_false]; exact Ev.now _
            · simp only [if_neg c]; rw [(beq_eq_false_iff_ne.mpr c : (x.f2 == 0) = false)]; simp only [Bool.false_and, Bool.and_false]; exact Ev.now _
          · simp only [if_neg b]; rw [show decide (x.f1.f0 ≥ x.f1.f2) = false from decide_eq_false b]; simp only [Bool.false_and, Bool.and_false]; exact Ev.now _
        · simp only [if_neg a]; rw [Bool.eq_false_iff.mpr a]; simp only [Bool.false_and, Bool.and_false]; exact Ev.now _
    · rw [if_neg h1]
      refine Ev.step (f := fun _ => some _) (fun k => ?_) (Ev.now _)
      simp only [item_right.j0]
      rw [if_neg h0, if_neg h1]
      by_cases h2 : x.f0 = 2
      · rw [if_pos h2, if_pos h2]
        by_cases a : p = true
        · rw [if_pos a]
          by_cases b : x.f2 ≥ -10000
          · rw [if_pos b]
            by_cases c : x.f2 ≤ 10000
            · rw [if_pos c]
              by_cases e : x.f4 = 0
              · rw [if_pos e]; simp [a, b, c, e]
              · rw [if_neg e]; simp [e]
            · rw [if_neg c]; simp [c]
          · rw [if_neg b]; simp [b]
        · rw [if_neg a]; simp [a]
      · rw [if_neg h2, if_neg h2]
theorem right_ev (x : S40) : Ev (fun k => item_right.f k x.f0 x.f1.f0 x.f1.f1 x.f1.f2 x.f1.f3 x.f2 x.f3 x.f4 x.f5) (ri x) := by
  unfold item_right.f ri
  by_cases h : (x.f1.f1 == 0 && (x.f1.f2 == 0 && (x.f1.f3 == 0))) = true
  · simp only [if_pos h]
    by_cases a : x.f1.f0 ≥ 0
    · simp only [if_pos a, fits_f, Option.bind_some]
      have e : pl x = fi x.f1.f0 := by
        unfold pl; rw [fi_am a]
        simp only [Bool.and_eq_true] at h
        rw [h.1, h.2.1, h.2.2]; rfl
      rw [e]; exact right_j0 _ x
    · simp only [if_neg a]
      have e : pl x = false := by unfold pl; rw [neg_am (by omega)]; simp
      rw [e]; exact right_j0 _ x
  · simp only [if_neg h]
    have e : pl x = false := by
      cases q : pl x
      · rfl
      · exfalso; apply h; unfold pl at q; simp only [Bool.and_eq_true] at q ⊢; exact ⟨q.1, q.2.1, q.2.2.1⟩
    rw [e]; exact right_j0 _ x
/-! ## All items -/
def ar (l : List S40) : Nat → Nat → Bool
  | 0, _ => true
  | d + 1, i => ri (rd_T40 l (i : Int)) && ar l d (i + 1)
def gq (l : List S40) : Nat → Nat → List S38
  | 0, _ => []
  | d + 1, i => (rd_T40 l (i : Int)).f1 :: gq l d (i + 1)
def mi (l : List S40) : Bool := decide ((l.length : Int) ≤ 2000) && (ar l l.length 0 && my (gq l l.length 0))
theorem imay_loop (l : List S40) (hl : l.length ≤ 2000) : ∀ (d i : Nat) (acc : List S38), i + d = l.length → acc.length ≤ i → Ev (fun k => item_May.l0 k acc l (l.length : Int) (i : Int)) (ar l d i && my (acc ++ gq l d i)) := by
  intro d
  induction d with
  | zero =>
    intro i acc hi ha
    have g0 : ¬ (i : Int) < (l.length : Int) := by omega
    refine Ev.step (f := fun k => (glue_May.f k acc).bind fun t => some t) (fun k => ?_) (Ev.bind (gmay_ev acc) ?_)
    · simp only [item_May.l0]; rw [if_neg g0]
    · simp [ar, gq]; exact Ev.now _
  | succ d ih =>
    intro i acc hi ha
    have g1 : (i : Int) < (l.length : Int) := by omega
    have g2 : (0 : Int) ≤ (i : Int) := by omega
    have g3 : i ≤ 1000000000000000 := by omega
    have g4 : acc.length < 4398046511104 := by omega
    refine Ev.step (f := fun k => (item_right.f k (rd_T40 l (i : Int)).f0 (rd_T40 l (i : Int)).f1.f0 (rd_T40 l (i : Int)).f1.f1 (rd_T40 l (i : Int)).f1.f2 (rd_T40 l (i : Int)).f1.f3 (rd_T40 l (i : Int)).f2 (rd_T40 l (i : Int)).f3 (rd_T40 l (i : Int)).f4 (rd_T40 l (i : Int)).f5).bind fun t => (if t = true then item_May.l0 k (acc ++ [(rd_T40 l (i : Int)).f1]) l (l.length : Int) (((i + 1 : Nat) : Int)) else some false)) (fun k => ?_) (Ev.bind (right_ev _) ?_)
    · simp only [item_May.l0]; rw [if_pos g1, if_pos g2, if_pos g1]; simp only [if_pos g4, succ_w i g3]
    · by_cases a : ri (rd_T40 l (i : Int)) = true
      · simp only [if_pos a, ar, a, Bool.true_and]
        have := ih (i + 1) (acc ++ [(rd_T40 l (i : Int)).f1]) (by omega) (by simp; omega)
        simpa [gq] using this
      · simp only [if_neg a, ar, Bool.eq_false_iff.mpr a, Bool.false_and]; exact Ev.now _
theorem imay_ev (l : List S40) : Ev (fun k => item_May.f k l) (mi l) := by
  unfold item_May.f mi
  by_cases h : (l.length : Int) > 2000
  · simp only [if_pos h]
    rw [decide_eq_false (by omega)]; exact Ev.now _
  · simp only [if_neg h]
    rw [decide_eq_true (by omega)]
    have := imay_loop l (by omega) l.length 0 [] (by omega) (by simp)
    simpa using this

end Go.Proofs.Ytpfnfofaajpdmaa.Pure

/- Plain lemmas: where lines begin, their glue, how it is set, what a line costs; items, and parts of them. -/
import Derived.Test.YtpfnfofaajpdmaaPWix7
import Derived.Test.YtpfnfofaajpdmaaPWix9
import Derived.Test.YtpfnfofaajpdmaaPWix10
import Derived.Test.YtpfnfofaajpdmaaPWix6
namespace Go.Proofs.Ytpfnfofaajpdmaa.Pure
set_option linter.unusedVariables false
set_option linter.unusedSimpArgs false
open Go.RowKit Go.Proofs.Ytpfnfofaajpdmaa.PWi Go.Proofs.YtpfnfofaajpdmaaW.PrintWords Go.Proofs.YtpfnfofaajpdmaaW.PrintLast Go.Proofs.YtpfnfofaajpdmaaW.PrintMore


theorem wrap_small {x : Int} (h : -9223372036854775808 ≤ x ∧ x ≤ 9223372036854775807) : wrap64 x = x := by
  unfold wrap64
  omega
theorem succ_w (n : Nat) (h : n ≤ 1000000000000000) : wrap64 ((n : Int) + 1) = ((n + 1 : Nat) : Int) := by rw [wrap_small (by omega)]; omega
/-! ## Forced breaks, legal ones, and where a line starts -/
def fz (x : S40) : Bool := decide (x.f0 = 2) && (x.f2 == (-10000))
theorem forced_f (x : S40) : demerit_Forced.f x.f0 x.f1.f0 x.f1.f1 x.f1.f2 x.f1.f3 x.f2 x.f3 x.f4 x.f5 = some (fz x) := by
  unfold demerit_Forced.f fz
  by_cases h : x.f0 = 2
  · rw [if_pos h, decide_eq_true h]; rfl
  · rw [if_neg h, decide_eq_false h]; rfl

def lg (l : List S40) (b : Int) : Bool :=
  decide (0 ≤ b) && (decide (b < (l.length : Int)) && (if (rd_T40 l b).f0 = 2 then decide ((rd_T40 l b).f2 < 10000) else if (rd_T40 l b).f0 = 1 then (if b > 0 then ((rd_T40 l (b - 1)).f0 == 0) else false) else false))
theorem lg_in {l : List S40} {b : Int} (h : lg l b = true) : 0 ≤ b ∧ b < (l.length : Int) := by
  unfold lg at h
  simp only [Bool.and_eq_true, decide_eq_true_eq] at h
  exact ⟨h.1, h.2.1⟩
theorem legal_ev (l : List S40) (b : Int) (hl : l.length ≤ 2000) : Ev (fun k => demerit_Legal.f k l b) (lg l b) := by
  unfold demerit_Legal.f
  by_cases h1 : b < 0
  · simp only [if_pos h1]
    refine Ev.step (f := fun _ => some (lg l b)) (fun k => ?_) (Ev.now _)
    simp only [demerit_Legal.j0]
    rw [if_pos trivial]
    congr 1; unfold lg; rw [decide_eq_false (show ¬ 0 ≤ b by omega)]; rfl
  · simp only [if_neg h1]
    by_cases h2 : b ≥ (l.length : Int)
    · refine Ev.step (f := fun _ => some (lg l b)) (fun k => ?_) (Ev.now _)
      simp only [demerit_Legal.j0]
      rw [decide_eq_true h2, if_pos rfl]
      congr 1; unfold lg; rw [decide_eq_false (show ¬ b < (l.length : Int) by omega)]; simp
    · refine Ev.step (f := fun _ => some (lg l b)) (fun k => ?_) (Ev.now _)
      have g1 : 0 ≤ b := by omega
      have g2 : b < (l.length : Int) := by omega
      have g3 : b > 0 → 0 ≤ b - 1 := fun _ => by omega
      have g4 : b > 0 → b - 1 < (l.length : Int) := fun _ => by omega
      have g5 : wrap64 (b - 1) = b - 1 := wrap_small (by omega)
      simp only [demerit_Legal.j0]
      rw [decide_eq_false h2, if_neg (by decide), if_pos g1, if_pos g2, g5]
      unfold lg
      rw [decide_eq_true g1, decide_eq_true g2]
      simp only [Bool.true_and]
      by_cases k1 : (rd_T40 l b).f0 = 2
      · rw [if_pos k1, if_pos k1]
      · rw [if_neg k1, if_neg k1]
        by_cases k2 : (rd_T40 l b).f0 = 1
        · rw [if_pos k2, if_pos k2]
          by_cases k3 : b > 0
          · rw [if_pos k3, if_pos k3, if_pos (g3 k3), if_pos (g4 k3)]
          · rw [if_neg k3, if_neg k3]
        · rw [if_neg k2, if_neg k2]

def hit (x : S40) : Bool := decide (x.f0 = 0) || fz x
def sk (l : List S40) : Nat → Nat → Nat
  | 0, i => i
  | d + 1, i => if hit (rd_T40 l (i : Int)) = true then i else sk l d (i + 1)
def from_ (a : Int) : Nat := (mx a (-1) + 1).toNat
def st (l : List S40) (a : Int) : Nat := if a ≥ (l.length : Int) then l.length else sk l (l.length - from_ a) (from_ a)
theorem start_loop (l : List S40) (hl : l.length ≤ 2000) : ∀ (d i : Nat), i + d = l.length → Ev (fun k => demerit_Start.l0 k l (i : Int)) ((sk l d i : Nat) : Int) := by
  intro d
  induction d with
  | zero =>
    intro i hi
    have g : ¬ (i : Int) < (l.length : Int) := by omega
    refine Ev.step (f := fun _ => some _) (fun k => ?_) (Ev.now _)
    simp only [demerit_Start.l0]
    rw [if_neg g]; rfl
  | succ d ih =>
    intro i hi
    have g1 : (i : Int) < (l.length : Int) := by omega
    have g2 : (0 : Int) ≤ (i : Int) := by omega
    have g3 : i ≤ 1000000000000000 := by omega
    by_cases a1 : (rd_T40 l (i : Int)).f0 = 0
    · refine Ev.step (f := fun _ => some _) (fun k => ?_) (Ev.now _)
      simp only [demerit_Start.l0]
      rw [if_pos g1, if_pos g2, if_pos a1]
      simp [sk, hit, a1]
    · by_cases a2 : fz (rd_T40 l (i : Int)) = true
      · refine Ev.step (f := fun _ => some _) (fun k => ?_) (Ev.now _)
        simp only [demerit_Start.l0]
        rw [if_pos g1, if_pos g2, if_neg a1, forced_f]
        simp only [Option.bind_some]
        rw [if_pos a2]
        simp [sk, hit, a2]
      · have e : sk l (d + 1) i = sk l d (i + 1) := by simp [sk, hit, a1, a2]
        rw [e]
        refine Ev.step (fun k => ?_) (ih (i + 1) (by omega))
        simp only [demerit_Start.l0]
        rw [if_pos g1, if_pos g2, if_neg a1, forced_f]
        simp only [Option.bind_some]
        rw [if_neg a2, succ_w i g3]
theorem start_ev (l : List S40) (a : Int) (hl : l.length ≤ 2000) (ha : -9223372036854775808 ≤ a) : Ev (fun k => demerit_Start.f k l a) ((st l a : Nat) : Int) := by
  unfold demerit_Start.f st
  by_cases h : a ≥ (l.length : Int)
  · simp only [if_pos h]; exact Ev.now _
  · simp only [if_neg h]
    have e : wrap64 (mx a (-1) + 1) = ((from_ a : Nat) : Int) := by
      unfold from_
      rw [wrap_small (by unfold mx; split <;> omega)]
      unfold mx; split <;> omega
    have e2 : from_ a ≤ l.length := by unfold from_ mx; split <;> omega
    rw [e]
    exact start_loop l hl _ _ (by omega)

/-! ## A line's glues -/
def cl (l : List S40) : Nat → Nat → List S38
  | 0, _ => []
  | d + 1, i => (if (rd_T40 l (i : Int)).f0 = 0 then [(rd_T40 l (i : Int)).f1] else if (rd_T40 l (i : Int)).f0 = 1 then [(rd_T40 l (i : Int)).f1] else []) ++ cl l d (i + 1)
def gt (l : List S40) (b : Int) : List S38 := if (rd_T40 l b).f0 = 2 then [⟨(rd_T40 l b).f1.f0, 0, 0, 0⟩] else []
def gs (l : List S40) (a b : Int) : List S38 := cl l (b.toNat - st l a) (st l a) ++ gt l b
theorem glues_loop (l : List S40) (b : Nat) (hl : l.length ≤ 2000) (hb : b < l.length) : ∀ (d i : Nat) (acc : List S38), i + d = b → acc.length ≤ i → Ev (fun k => demerit_Glues.l0 k l (b : Int) acc (i : Int)) (acc ++ (cl l d i ++ gt l (b : Int))) := by
  intro d
  induction d with
  | zero =>
    intro i acc hi ha
    have g : ¬ (i : Int) < (b : Int) := by omega
    have g1 : (0 : Int) ≤ (b : Int) := by omega
    have g2 : (b : Int) < (l.length : Int) := by omega
    have g3 : acc.length < 4398046511104 := by omega
    refine Ev.step (f := fun _ => some _) (fun k => ?_) (Ev.now _)
    simp only [demerit_Glues.l0]
    rw [if_neg g, if_pos g1, if_pos g2]
    unfold gt
    by_cases c : (rd_T40 l (b : Int)).f0 = 2
    · rw [if_pos c, if_pos c, if_pos g3]; rfl
    · rw [if_neg c, if_neg c]; simp [cl]
  | succ d ih =>
    intro i acc hi ha
    have g1 : (i : Int) < (b : Int) := by omega
    have g2 : (0 : Int) ≤ (i : Int) := by omega
    have g3 : i ≤ 1000000000000000 := by omega
    have g4 : (i : Int) < (l.length : Int) := by omega
    have g5 : acc.length < 4398046511104 := by omega
    by_cases a1 : (rd_T40 l (i : Int)).f0 = 0
    · have e : acc ++ (cl l (d + 1) i ++ gt l (b : Int)) = (acc ++ [(rd_T40 l (i : Int)).f1]) ++ (cl l d (i + 1) ++ gt l (b : Int)) := by simp [cl, a1]
      rw [e]
      refine Ev.step (fun k => ?_) (ih (i + 1) (acc ++ [(rd_T40 l (i : Int)).f1]) (by omega) (by simp; omega))
      simp only [demerit_Glues.l0]
      rw [if_pos g1, if_pos g2, if_pos g4, if_pos a1, if_pos g5, succ_w i g3]
    · by_cases a2 : (rd_T40 l (i : Int)).f0 = 1
      · have e : acc ++ (cl l (d + 1) i ++ gt l (b : Int)) = (acc ++ [(rd_T40 l (i : Int)).f1]) ++ (cl l d (i + 1) ++ gt l (b : Int)) := by simp [cl, a2]
        rw [e]
        refine Ev.step (fun k => ?_) (ih (i + 1) (acc ++ [(rd_T40 l (i : Int)).f1]) (by omega) (by simp; omega))
        simp only [demerit_Glues.l0]
        rw [if_pos g1, if_pos g2, if_pos g4, if_neg a1, if_pos a2, if_pos g5, succ_w i g3]
      · have e : acc ++ (cl l (d + 1) i ++ gt l (b : Int)) = acc ++ (cl l d (i + 1) ++ gt l (b : Int)) := by simp [cl, a1, a2]
        rw [e]
        refine Ev.step (fun k => ?_) (ih (i + 1) acc (by omega) (by omega))
        simp only [demerit_Glues.l0]
        rw [if_pos g1, if_pos g2, if_pos g4, if_neg a1, if_neg a2, succ_w i g3]
theorem glues_ev (l : List S40) (a b : Int) (hl : l.length ≤ 2000) (ha : -9223372036854775808 ≤ a) (hb : 0 ≤ b) (hb2 : b < (l.length : Int)) (hs : (st l a : Int) ≤ b) : Ev (fun k => demerit_Glues.f k l a b) (gs l a b) := by
  obtain ⟨b, rfl⟩ : ∃ n : Nat, b = n := ⟨b.toNat, by omega⟩
  have g1 : ¬ (b : Int) < 0 := by omega
  have g2 : ¬ (b : Int) ≥ (l.length : Int) := by omega
  unfold demerit_Glues.f
  simp only [if_neg g1, decide_eq_false g2]
  refine Ev.step (f := fun k => (demerit_Start.f k l a).bind fun t => demerit_Glues.l0 k l (b : Int) [] t) (fun k => ?_) (Ev.bind (start_ev l a hl ha) ?_)
  · simp only [demerit_Glues.j0]; rw [if_neg (by decide)]
  · have := glues_loop l b hl (by omega) (b - st l a) (st l a) [] (by omega) (by simp)
    simpa [gs] using this

/-! ## Whether there may be a line -/
def nf (l : List S40) : Nat → Nat → Bool
  | 0, _ => true
  | d + 1, i => !(fz (rd_T40 l (i : Int))) && nf l d (i + 1)
theorem may_loop (l : List S40) (b : Nat) (hl : l.length ≤ 2000) (hb : b < l.length) : ∀ (d i : Nat), i + d = b → Ev (fun k => demerit_may.l0 k l (b : Int) (i : Int)) (nf l d i) := by
  intro d
  induction d with
  | zero =>
    intro i hi
    have g : ¬ (i : Int) < (b : Int) := by omega
    refine Ev.step (f := fun _ => some _) (fun k => ?_) (Ev.now _)
    simp only [demerit_may.l0]
    rw [if_neg g]; rfl
  | succ d ih =>
    intro i hi
    have g1 : (i : Int) < (b : Int) := by omega
    have g2 : (0 : Int) ≤ (i : Int) := by omega
    have g3 : i ≤ 1000000000000000 := by omega
    have g4 : (i : Int) < (l.length : Int) := by omega
    by_cases a2 : fz (rd_T40 l (i : Int)) = true
    · refine Ev.step (f := fun _ => some _) (fun k => ?_) (Ev.now _)
      simp only [demerit_may.l0]
      rw [if_pos g1, if_pos g2, if_pos g4, forced_f]
      simp only [Option.bind_some]
      rw [if_pos a2]; simp [nf, a2]
    · have e : nf l (d + 1) i = nf l d (i + 1) := by simp [nf, a2]
      rw [e]
      refine Ev.step (fun k => ?_) (ih (i + 1) (by omega))
      simp only [demerit_may.l0]
      rw [if_pos g1, if_pos g2, if_pos g4, forced_f]
      simp only [Option.bind_some]
      rw [if_neg a2, succ_w i g3]
def mb (l : List S40) (a b : Int) : Bool := (decide (a = -1) || lg l a) && (lg l b && (decide (a < b) && (decide ((st l a : Int) ≤ b) && nf l (b.toNat - (a + 1).toNat) (a + 1).toNat)))
theorem mb_in {l : List S40} {a b : Int} (h : mb l a b = true) : -1 ≤ a ∧ a < b ∧ 0 ≤ b ∧ b < (l.length : Int) ∧ (st l a : Int) ≤ b := by
  unfold mb at h
  simp only [Bool.and_eq_true, Bool.or_eq_true, decide_eq_true_eq] at h
  obtain ⟨h1, h2, h3, h4, _⟩ := h
  have := lg_in h2
  refine ⟨?_, h3, this.1, this.2, h4⟩
  rcases h1 with h1 | h1
  · omega
  · have := lg_in h1; omega
theorem may_no (l : List S40) (a b : Int) : Ev (fun k => demerit_may.j0 k l a b true) false :=
  Ev.step (f := fun _ => some false) (fun k => by simp only [demerit_may.j0]; rw [if_pos trivial]) (Ev.now _)
theorem may_rest (l : List S40) (a b : Int) (hl : l.length ≤ 2000) (ha : -1 ≤ a) (hA : (decide (a = -1) || lg l a) = true) : Ev (fun k => (demerit_Legal.f k l b).bind fun t124 => (if t124 = true then (if a ≥ b then (demerit_may.j0 k l a b true) else ((demerit_Start.f k l a).bind fun t125 => (demerit_may.j0 k l a b (decide (t125 > b))))) else (demerit_may.j0 k l a b true))) (mb l a b) := by
  refine Ev.bind (legal_ev l b hl) ?_
  by_cases h1 : lg l b = true
  · simp only [if_pos h1]
    by_cases h2 : a ≥ b
    · simp only [if_pos h2]
      have : mb l a b = false := by unfold mb; rw [decide_eq_false (show ¬ a < b by omega)]; simp
      rw [this]; exact may_no l a b
    · simp only [if_neg h2]
      refine Ev.bind (start_ev l a hl (by omega)) ?_
      by_cases h3 : (st l a : Int) > b
      · rw [decide_eq_true h3]
        have : mb l a b = false := by unfold mb; rw [decide_eq_false (show ¬ (st l a : Int) ≤ b by omega)]; simp
        rw [this]; exact may_no l a b
      · rw [decide_eq_false h3]
        have hb := lg_in h1
        have e : mb l a b = nf l (b.toNat - (a + 1).toNat) (a + 1).toNat := by
          unfold mb; rw [hA, h1, decide_eq_true (show a < b by omega), decide_eq_true (show (st l a : Int) ≤ b by omega)]; simp
        rw [e]
        have g1 : a + 1 = (((a + 1).toNat : Nat) : Int) := by omega
        have g2 : b = ((b.toNat : Nat) : Int) := by omega
        have g3 : b.toNat < l.length := by omega
        have g4 : (a + 1).toNat + (b.toNat - (a + 1).toNat) = b.toNat := by omega
        have g5 : wrap64 (a + 1) = (((a + 1).toNat : Nat) : Int) := by rw [wrap_small (by omega)]; exact g1
        have L := may_loop l b.toNat hl g3 _ _ g4
        rw [← g2] at L
        refine Ev.step (fun k => ?_) L
        simp only [demerit_may.j0]
        rw [if_neg (by decide), g5]
  · simp only [if_neg h1]
    have : mb l a b = false := by unfold mb; rw [Bool.eq_false_iff.mpr h1]; simp
    rw [this]; exact may_no l a b
theorem may_ev (l : List S40) (a b : Int) (hl : l.length ≤ 2000) : Ev (fun k => demerit_may.f k l a b) (mb l a b) := by
  unfold demerit_may.f
  by_cases h : a = -1
  · simp only [if_pos h]
    exact may_rest l a b hl (by omega) (by rw [decide_eq_true h]; rfl)
  · simp only [if_neg h]
    refine Ev.bind (legal_ev l a hl) ?_
    by_cases h1 : lg l a = true
    · simp only [if_pos h1]
      exact may_rest l a b hl (by have := lg_in h1; omega) (by rw [h1]; simp)
    · simp only [if_neg h1]
      have : mb l a b = false := by unfold mb; rw [Bool.eq_false_iff.mpr h1, decide_eq_false h]; rfl
      rw [this]; exact may_no l a b

end Go.Proofs.Ytpfnfofaajpdmaa.Pure

namespace Go.Proofs.Ytpfnfofaajpdmaa.Pure
set_option linter.unusedVariables false
set_option linter.unusedSimpArgs false
open Go.RowKit Go.Proofs.Ytpfnfofaajpdmaa.PWi Go.Proofs.YtpfnfofaajpdmaaW.PrintWords Go.Proofs.YtpfnfofaajpdmaaW.PrintLast Go.Proofs.YtpfnfofaajpdmaaW.PrintMore


def fi (a : Int) : Bool := decide (-1073741823 ≤ a ∧ a ≤ 1073741823)
theorem fi_iff {a : Int} : fi a = true ↔ -1073741823 ≤ a ∧ a ≤ 1073741823 := by unfold fi; exact decide_eq_true_iff
theorem fits_f (a : Int) : scaled_Fits.f a = some (fi a) := by
  unfold scaled_Fits.f fi
  by_cases h : a ≥ -1073741823
  · rw [if_pos h]; congr 1; exact decide_eq_decide.2 ⟨fun x => ⟨h, x⟩, fun x => x.2⟩
  · rw [if_neg h]; congr 1; symm; exact decide_eq_false (fun x => h x.1)
def am (a : Int) : Bool := decide (0 ≤ a ∧ a ≤ 1073741823)
theorem am_iff {a : Int} : am a = true ↔ 0 ≤ a ∧ a ≤ 1073741823 := by unfold am; exact decide_eq_true_iff
theorem amount_f (a : Int) : glue_amount.f a = some (am a) := by
  unfold glue_amount.f am
  by_cases h : a ≥ 0
  · rw [if_pos h, fits_f]; simp only [Option.bind_some]; congr 1; unfold fi; exact decide_eq_decide.2 ⟨fun x => ⟨h, x.2⟩, fun x => ⟨by omega, x.2⟩⟩
  · rw [if_neg h]; congr 1; symm; exact decide_eq_false (fun x => h x.1)

/-! ## May -/
def mv (g : List S38) : Nat → Nat → Int → Int → Int → Bool
  | 0, _, w, s, h => am w && (am s && am h)
  | d + 1, i, w, s, h => if fi (rd_T38 g (i : Int)).f0 = true then (if am (rd_T38 g (i : Int)).f1 = true then (if am (rd_T38 g (i : Int)).f2 = true then (if (rd_T38 g (i : Int)).f3 < 0 then false else if (rd_T38 g (i : Int)).f3 > 3 then false else mv g d (i + 1) (w + mx (rd_T38 g (i : Int)).f0 (-(rd_T38 g (i : Int)).f0)) (s + (rd_T38 g (i : Int)).f1) (h + (rd_T38 g (i : Int)).f2)) else false) else false) else false
def my (g : List S38) : Bool := if (g.length : Int) > 2000 then false else mv g g.length 0 0 0 0
theorem mv_all (g : List S38) : ∀ d i w s h, mv g d i w s h = true → ∀ j, i ≤ j → j < i + d → (fi (rd_T38 g (j : Int)).f0 = true ∧ am (rd_T38 g (j : Int)).f1 = true ∧ 0 ≤ (rd_T38 g (j : Int)).f3 ∧ (rd_T38 g (j : Int)).f3 ≤ 3)
  | 0, i, w, s, h => fun _ j h1 h2 => by omega
  | d + 1, i, w, s, h => fun hm j h1 h2 => by
    simp only [mv] at hm
    split at hm
    · split at hm
      · split at hm
        · split at hm
          · exact absurd hm (by simp)
          · split at hm
            · exact absurd hm (by simp)
            · rename_i a1 a2 a3 a4 a5
              by_cases e : j = i
              · subst e; exact ⟨a1, a2, by omega, by omega⟩
              · exact mv_all g d (i + 1) _ _ _ hm j (by omega) (by omega)
        · exact absurd hm (by simp)
      · exact absurd hm (by simp)
    · exact absurd hm (by simp)
theorem my_all {g : List S38} (h : my g = true) : g.length ≤ 2000 ∧ ∀ j : Nat, j < g.length → (fi (rd_T38 g (j : Int)).f0 = true ∧ am (rd_T38 g (j : Int)).f1 = true ∧ 0 ≤ (rd_T38 g (j : Int)).f3 ∧ (rd_T38 g (j : Int)).f3 ≤ 3) := by
  unfold my at h
  split at h
  · exact absurd h (by simp)
  · exact ⟨by omega, fun j hj => mv_all g _ _ _ _ _ h j (by omega) (by omega)⟩
theorem may2_loop (g : List S38) (hl : g.length ≤ 2000) : ∀ (d i : Nat) (w s h : Int), i + d = g.length → (0 ≤ w ∧ w ≤ (i : Int) * 1073741823) → (0 ≤ s ∧ s ≤ (i : Int) * 1073741823) → (0 ≤ h ∧ h ≤ (i : Int) * 1073741823) → Ev (fun k => glue_May.l0 k g (g.length : Int) (i : Int) w s h) (mv g d i w s h) := by
  intro d
  induction d with
  | zero =>
    intro i w s h hi hw hs hh
    have g0 : ¬ (i : Int) < (g.length : Int) := by omega
    refine Ev.step (f := fun _ => some _) (fun k => ?_) (Ev.now _)
    simp only [glue_May.l0]
    rw [if_neg g0, amount_f, amount_f, amount_f]
    simp only [Option.bind_some, mv]
    cases am w <;> cases am s <;> rfl
  | succ d ih =>
    intro i w s h hi hw hs hh
    have g1 : (i : Int) < (g.length : Int) := by omega
    have g2 : (0 : Int) ≤ (i : Int) := by omega
    have g3 : i ≤ 1000000000000000 := by omega
    by_cases a1 : fi (rd_T38 g (i : Int)).f0 = true
    · by_cases a2 : am (rd_T38 g (i : Int)).f1 = true
      · by_cases a3 : am (rd_T38 g (i : Int)).f2 = true
        · by_cases a4 : (rd_T38 g (i : Int)).f3 < 0
          · refine Ev.step (f := fun _ => some _) (fun k => ?_) (Ev.now _)
            simp only [glue_May.l0]
            rw [if_pos g1, if_pos g2, if_pos g1, fits_f]
            simp only [Option.bind_some]
            rw [if_pos a1, amount_f]; simp only [Option.bind_some]
            rw [if_pos a2, amount_f]; simp only [Option.bind_some]
            rw [if_pos a3, if_pos a4]
            simp [mv, a1, a2, a3, a4]
          · by_cases a5 : (rd_T38 g (i : Int)).f3 > 3
            · refine Ev.step (f := fun _ => some _) (fun k => ?_) (Ev.now _)
              simp only [glue_May.l0]
              rw [if_pos g1, if_pos g2, if_pos g1, fits_f]
              simp only [Option.bind_some]
              rw [if_pos a1, amount_f]; simp only [Option.bind_some]
              rw [if_pos a2, amount_f]; simp only [Option.bind_some]
              rw [if_pos a3, if_neg a4, if_pos a5]
              simp [mv, a1, a2, a3, a4, a5]
            · have b1 := fi_iff.1 a1
              have b2 := am_iff.1 a2
              have b3 := am_iff.1 a3
              have e0 : wrap64 (-(rd_T38 g (i : Int)).f0) = -(rd_T38 g (i : Int)).f0 := wrap_small (by omega)
              have m1 : 0 ≤ mx (rd_T38 g (i : Int)).f0 (-(rd_T38 g (i : Int)).f0) ∧ mx (rd_T38 g (i : Int)).f0 (-(rd_T38 g (i : Int)).f0) ≤ 1073741823 := by unfold mx; split <;> omega
              have e1 : wrap64 (w + mx (rd_T38 g (i : Int)).f0 (-(rd_T38 g (i : Int)).f0)) = w + mx (rd_T38 g (i : Int)).f0 (-(rd_T38 g (i : Int)).f0) := wrap_small (by omega)
              have e2 : wrap64 (s + (rd_T38 g (i : Int)).f1) = s + (rd_T38 g (i : Int)).f1 := wrap_small (by omega)
              have e3 : wrap64 (h + (rd_T38 g (i : Int)).f2) = h + (rd_T38 g (i : Int)).f2 := wrap_small (by omega)
              have hv : mv g (d + 1) i w s h = mv g d (i + 1) (w + mx (rd_T38 g (i : Int)).f0 (-(rd_T38 g (i : Int)).f0)) (s + (rd_T38 g (i : Int)).f1) (h + (rd_T38 g (i : Int)).f2) := by
                simp only [mv]; rw [if_pos a1, if_pos a2, if_pos a3, if_neg a4, if_neg a5]
              rw [hv]
              refine Ev.step (fun k => ?_) (ih (i + 1) (w + mx (rd_T38 g (i : Int)).f0 (-(rd_T38 g (i : Int)).f0)) (s + (rd_T38 g (i : Int)).f1) (h + (rd_T38 g (i : Int)).f2) (by omega) (by omega) (by omega) (by omega))
              simp only [glue_May.l0]
              rw [if_pos g1, if_pos g2, if_pos g1, fits_f]
              simp only [Option.bind_some]
              rw [if_pos a1, amount_f]; simp only [Option.bind_some]
              rw [if_pos a2, amount_f]; simp only [Option.bind_some]
              rw [if_pos a3, if_neg a4, if_neg a5, e0, e1, e2, e3, succ_w i g3]
        · refine Ev.step (f := fun _ => some _) (fun k => ?_) (Ev.now _)
          simp only [glue_May.l0]
          rw [if_pos g1, if_pos g2, if_pos g1, fits_f]
          simp only [Option.bind_some]
          rw [if_pos a1, amount_f]; simp only [Option.bind_some]
          rw [if_pos a2, amount_f]; simp only [Option.bind_some]
          rw [if_neg a3]
          simp [mv, a1, a2, a3]
      · refine Ev.step (f := fun _ => some _) (fun k => ?_) (Ev.now _)
        simp only [glue_May.l0]
        rw [if_pos g1, if_pos g2, if_pos g1, fits_f]
        simp only [Option.bind_some]
        rw [if_pos a1, amount_f]; simp only [Option.bind_some]
        rw [if_neg a2]
        simp [mv, a1, a2]
    · refine Ev.step (f := fun _ => some _) (fun k => ?_) (Ev.now _)
      simp only [glue_May.l0]
      rw [if_pos g1, if_pos g2, if_pos g1, fits_f]
      simp only [Option.bind_some]
      rw [if_neg a1]
      simp [mv, a1]
theorem gmay_ev (g : List S38) : Ev (fun k => glue_May.f k g) (my g) := by
  unfold glue_May.f my
  by_cases h : (g.length : Int) > 2000
  · simp only [if_pos h]; exact Ev.now _
  · simp only [if_neg h]
    have := may2_loop g (by omega) g.length 0 0 0 0 (by omega) (by omega) (by omega) (by omega)
    simpa using this

/-! ## Total -/
abbrev T6 := Int × Int × Int × Int × Int × Int
def tv (g : List S38) : Nat → Nat → Int → Int → Int → Int → Int → Int → T6
  | 0, _, w, h, s0, s1, s2, s3 => (w, h, s0, s1, s2, s3)
  | d + 1, i, w, h, s0, s1, s2, s3 =>
    if (rd_T38 g (i : Int)).f3 = 0 then tv g d (i + 1) (wrap64 (w + (rd_T38 g (i : Int)).f0)) (wrap64 (h + (rd_T38 g (i : Int)).f2)) (wrap64 (s0 + (rd_T38 g (i : Int)).f1)) s1 s2 s3
    else if (rd_T38 g (i : Int)).f3 = 1 then tv g d (i + 1) (wrap64 (w + (rd_T38 g (i : Int)).f0)) (wrap64 (h + (rd_T38 g (i : Int)).f2)) s0 (wrap64 (s1 + (rd_T38 g (i : Int)).f1)) s2 s3
    else if (rd_T38 g (i : Int)).f3 = 2 then tv g d (i + 1) (wrap64 (w + (rd_T38 g (i : Int)).f0)) (wrap64 (h + (rd_T38 g (i : Int)).f2)) s0 s1 (wrap64 (s2 + (rd_T38 g (i : Int)).f1)) s3
    else tv g d (i + 1) (wrap64 (w + (rd_T38 g (i : Int)).f0)) (wrap64 (h + (rd_T38 g (i : Int)).f2)) s0 s1 s2 (wrap64 (s3 + (rd_T38 g (i : Int)).f1))
def tt (g : List S38) : T6 := if my g = true then tv g g.length 0 0 0 0 0 0 0 else (0, 0, 0, 0, 0, 0)
theorem tv_pos (g : List S38) (hl : g.length ≤ 2000) (hg : ∀ j : Nat, j < g.length → (fi (rd_T38 g (j : Int)).f0 = true ∧ am (rd_T38 g (j : Int)).f1 = true ∧ 0 ≤ (rd_T38 g (j : Int)).f3 ∧ (rd_T38 g (j : Int)).f3 ≤ 3)) :
    ∀ d i w h s0 s1 s2 s3, i + d = g.length → (0 ≤ s0 ∧ s0 ≤ (i : Int) * 1073741823) → (0 ≤ s1 ∧ s1 ≤ (i : Int) * 1073741823) → (0 ≤ s2 ∧ s2 ≤ (i : Int) * 1073741823) → (0 ≤ s3 ∧ s3 ≤ (i : Int) * 1073741823) →
      0 ≤ (tv g d i w h s0 s1 s2 s3).2.2.1 ∧ 0 ≤ (tv g d i w h s0 s1 s2 s3).2.2.2.1 ∧ 0 ≤ (tv g d i w h s0 s1 s2 s3).2.2.2.2.1 ∧ 0 ≤ (tv g d i w h s0 s1 s2 s3).2.2.2.2.2
  | 0, i, w, h, s0, s1, s2, s3 => fun _ h0 h1 h2 h3 => ⟨h0.1, h1.1, h2.1, h3.1⟩
  | d + 1, i, w, h, s0, s1, s2, s3 => fun hi h0 h1 h2 h3 => by
    have b2 := am_iff.1 (hg i (by omega)).2.1
    have e0 : wrap64 (s0 + (rd_T38 g (i : Int)).f1) = s0 + (rd_T38 g (i : Int)).f1 := wrap_small (by omega)
    have e1 : wrap64 (s1 + (rd_T38 g (i : Int)).f1) = s1 + (rd_T38 g (i : Int)).f1 := wrap_small (by omega)
    have e2 : wrap64 (s2 + (rd_T38 g (i : Int)).f1) = s2 + (rd_T38 g (i : Int)).f1 := wrap_small (by omega)
    have e3 : wrap64 (s3 + (rd_T38 g (i : Int)).f1) = s3 + (rd_T38 g (i : Int)).f1 := wrap_small (by omega)
    simp only [tv]
    rw [e0, e1, e2, e3]
    split
    · exact tv_pos g hl hg d (i + 1) _ _ _ _ _ _ (by omega) (by omega) (by omega) (by omega) (by omega)
    · split
      · exact tv_pos g hl hg d (i + 1) _ _ _ _ _ _ (by omega) (by omega) (by omega) (by omega) (by omega)
      · split
        · exact tv_pos g hl hg d (i + 1) _ _ _ _ _ _ (by omega) (by omega) (by omega) (by omega) (by omega)
        · exact tv_pos g hl hg d (i + 1) _ _ _ _ _ _ (by omega) (by omega) (by omega) (by omega) (by omega)
theorem tt_pos (g : List S38) : 0 ≤ (tt g).2.2.1 ∧ 0 ≤ (tt g).2.2.2.1 ∧ 0 ≤ (tt g).2.2.2.2.1 ∧ 0 ≤ (tt g).2.2.2.2.2 := by
  unfold tt
  split
  · rename_i h
    have := my_all h
    exact tv_pos g this.1 this.2 _ _ _ _ _ _ _ _ (by omega) (by omega) (by omega) (by omega) (by omega)
  · simp
def t7 (t : T6) (b : Bool) : Int × Int × Int × Int × Int × Int × Bool := (t.1, t.2.1, t.2.2.1, t.2.2.2.1, t.2.2.2.2.1, t.2.2.2.2.2, b)
theorem total_loop (g : List S38) (hl : g.length ≤ 2000) (hg : ∀ j : Nat, j < g.length → (0 ≤ (rd_T38 g (j : Int)).f3 ∧ (rd_T38 g (j : Int)).f3 ≤ 3)) : ∀ (d i : Nat) (w h s0 s1 s2 s3 : Int), i + d = g.length → Ev (fun k => glue_Total.l0 k g w h s0 s1 s2 s3 (i : Int)) (t7 (tv g d i w h s0 s1 s2 s3) true) := by
  intro d
  induction d with
  | zero =>
    intro i w h s0 s1 s2 s3 hi
    have g0 : ¬ (i : Int) < (g.length : Int) := by omega
    refine Ev.step (f := fun _ => some _) (fun k => ?_) (Ev.now _)
    simp only [glue_Total.l0]
    rw [if_neg g0]; rfl
  | succ d ih =>
    intro i w h s0 s1 s2 s3 hi
    have g1 : (i : Int) < (g.length : Int) := by omega
    have g2 : (0 : Int) ≤ (i : Int) := by omega
    have g3 : i ≤ 1000000000000000 := by omega
    have g4 := hg i (by omega)
    by_cases a0 : (rd_T38 g (i : Int)).f3 = 0
    · simp only [tv]
      rw [if_pos a0]
      refine Ev.step (fun k => ?_) (ih (i + 1) _ _ _ _ _ _ (by omega))
      simp only [glue_Total.l0]
      rw [if_pos g1, if_pos g2, if_pos a0, succ_w i g3]
    · by_cases a1 : (rd_T38 g (i : Int)).f3 = 1
      · simp only [tv]
        rw [if_neg a0, if_pos a1]
        refine Ev.step (fun k => ?_) (ih (i + 1) _ _ _ _ _ _ (by omega))
        simp only [glue_Total.l0]
        rw [if_pos g1, if_pos g2, if_neg a0, if_pos a1, succ_w i g3]
      · by_cases a2 : (rd_T38 g (i : Int)).f3 = 2
        · simp only [tv]
          rw [if_neg a0, if_neg a1, if_pos a2]
          refine Ev.step (fun k => ?_) (ih (i + 1) _ _ _ _ _ _ (by omega))
          simp only [glue_Total.l0]
          rw [if_pos g1, if_pos g2, if_neg a0, if_neg a1, if_pos a2, succ_w i g3]
        · have a3 : (rd_T38 g (i : Int)).f3 = 3 := by omega
          simp only [tv]
          rw [if_neg a0, if_neg a1, if_neg a2]
          refine Ev.step (fun k => ?_) (ih (i + 1) _ _ _ _ _ _ (by omega))
          simp only [glue_Total.l0]
          rw [if_pos g1, if_pos g2, if_neg a0, if_neg a1, if_neg a2, if_pos a3, succ_w i g3]
theorem total_ev (g : List S38) : Ev (fun k => glue_Total.f k g) (t7 (tt g) (my g)) := by
  unfold glue_Total.f tt
  refine Ev.bind (gmay_ev g) ?_
  by_cases h : my g = true
  · have a := my_all h
    rw [h]; simp only [if_pos]
    exact total_loop g a.1 (fun j hj => (a.2 j hj).2.2) g.length 0 _ _ _ _ _ _ (by omega)
  · simp only [if_neg h]
    rw [Bool.eq_false_iff.mpr h]; exact Ev.now _

/-! ## Sub, badness, and how a line is set -/
def sb (a b : Int) : Int × Bool := if fi a = true then (if fi b = true then (if fi (wrap64 (a - b)) = true then (wrap64 (a - b), true) else (0, false)) else (0, false)) else (0, false)
theorem fitted_f (a : Int) (b : Bool) : scaled_fitted.f a b = some (if b = true then (if fi a = true then (a, true) else (0, false)) else (0, false)) := by
  unfold scaled_fitted.f
  cases b
  · rfl
  · simp only [if_true, fits_f, Option.bind_some]; split <;> rfl
theorem sub_f (a b : Int) : scaled_Sub.f a b = some (sb a b) := by
  unfold scaled_Sub.f sb
  rw [fits_f]; simp only [Option.bind_some]
  by_cases h : fi a = true
  · rw [if_pos h, if_pos h, fits_f]; simp only [Option.bind_some, fitted_f]
  · rw [if_neg h, if_neg h]; simp only [fitted_f, Option.bind_some]; rfl
def fin (r : Int) : Int := if r > 1290 then 10000 else wrap64 (Int.tdiv (wrap64 ((wrap64 ((wrap64 (r * r)) * r)) + 131072)) 262144)
def bd (t s : Int) : Int := if am t = true then (if am s = true then (if t = 0 then 0 else if s = 0 then 10000 else if t ≤ 7230584 then fin (wrap64 (Int.tdiv (wrap64 (t * 297)) s)) else if s ≥ 1663497 then fin (wrap64 (Int.tdiv t (wrap64 (Int.tdiv s 297)))) else fin t) else -1) else -1
theorem quot_ne (s : Int) (h : s ≥ 1663497) (h2 : s ≤ 1073741823) : ¬ wrap64 (Int.tdiv s 297) = 0 := by
  have e : Int.tdiv s 297 = s / 297 := Int.tdiv_eq_ediv_of_nonneg (by omega)
  rw [e, wrap_small (by omega)]; omega
theorem bad_j (t s : Int) (b : Bool) (hb : b = false → (0 ≤ t ∧ t ≤ 1073741823) ∧ (0 ≤ s ∧ s ≤ 1073741823)) : Ev (fun k => glue_Badness.j0 k t s b) (if b = true then -1 else bd t s) := by
  refine Ev.step (f := fun _ => some _) (fun k => ?_) (Ev.now _)
  simp only [glue_Badness.j0]
  cases b
  · obtain ⟨h1, h2⟩ := hb rfl
    have q := fun h => quot_ne s h h2.2
    simp only [Bool.false_eq_true, if_false]
    unfold bd
    rw [if_pos (am_iff.2 h1), if_pos (am_iff.2 h2)]
    by_cases c1 : t = 0
    · rw [if_pos c1, if_pos c1]
    · rw [if_neg c1, if_neg c1]
      by_cases c2 : s = 0
      · rw [if_pos c2, if_pos c2]
      · rw [if_neg c2, if_neg c2]
        by_cases c3 : t ≤ 7230584
        · rw [if_pos c3, if_pos c3]; unfold fin; split <;> rfl
        · rw [if_neg c3, if_neg c3]
          by_cases c4 : s ≥ 1663497
          · rw [if_pos c4, if_pos c4, if_neg (q c4)]; unfold fin; split <;> rfl
          · rw [if_neg c4, if_neg c4]; unfold fin; split <;> rfl
  · rfl
theorem bad_ev (t s : Int) : Ev (fun k => glue_Badness.f k t s) (bd t s) := by
  unfold glue_Badness.f
  refine Ev.bind (a := am t) (by rw [amount_f]; exact Ev.now _) ?_
  by_cases h1 : am t = true
  · simp only [if_pos h1]
    refine Ev.bind (a := am s) (by rw [amount_f]; exact Ev.now _) ?_
    by_cases h2 : am s = true
    · rw [h2]
      exact bad_j t s false (fun _ => ⟨am_iff.1 h1, am_iff.1 h2⟩)
    · have e : bd t s = -1 := by unfold bd; rw [if_pos h1, if_neg h2]
      rw [Bool.eq_false_iff.mpr h2, e]
      exact bad_j t s true (fun h => absurd h (by decide))
  · simp only [if_neg h1]
    have e : bd t s = -1 := by unfold bd; rw [if_neg h1]
    rw [e]
    exact bad_j t s true (fun h => absurd h (by decide))

abbrev T5 := Int × Int × Int × Int × Bool
def sw (e : Int) (x : T6) : T5 :=
  if e < 0 then (-1, 0, e, (if wrap64 (-e) > x.2.1 then 1000000 else bd (wrap64 (-e)) x.2.1), true)
  else if e > 0 then (if x.2.2.2.2.2 = 0 then (if x.2.2.2.2.1 = 0 then (if x.2.2.2.1 = 0 then (if x.2.2.1 = 0 then (0, 0, e, 10000, true) else (1, 0, e, bd e x.2.2.1, true)) else (1, 1, e, 0, true)) else (1, 2, e, 0, true)) else (1, 3, e, 0, true))
  else (0, 0, e, 0, true)
def sv (g : List S38) (target : Int) : T5 := if my g = true then (if (sb target (tt g).1).2 = true then sw (sb target (tt g).1).1 (tt g) else (0, 0, 0, 0, false)) else (0, 0, 0, 0, false)
theorem set_j2 (x0 x1 x2 x3 x4 x5 y0 y1 y2 y3 : Int) : Ev (fun k => glue_Set.j2 k x0 x1 x2 x3 x4 x5 y0 y1 y2 y3) (if x5 = 0 then (if x4 = 0 then (y0, y1, y2, y3, true) else (1, 2, y2, 0, true)) else (1, 3, y2, 0, true)) := by
  refine Ev.step (f := fun _ => some _) (fun k => ?_) (Ev.now _)
  simp only [glue_Set.j2]
  by_cases c4 : x4 = 0
  · rw [if_pos c4, if_pos c4]; split <;> rfl
  · rw [if_neg c4, if_neg c4]; split <;> rfl
theorem set_j1 (x0 x1 x2 x3 x4 x5 y0 y1 y2 y3 : Int) : Ev (fun k => glue_Set.j1 k x0 x1 x2 x3 x4 x5 y0 y1 y2 y3) (if x5 = 0 then (if x4 = 0 then (if x3 = 0 then (y0, y1, y2, y3, true) else (1, 1, y2, 0, true)) else (1, 2, y2, 0, true)) else (1, 3, y2, 0, true)) := by
  by_cases c3 : x3 = 0
  · refine Ev.step (f := fun k => glue_Set.j2 k x0 x1 x2 x3 x4 x5 y0 y1 y2 y3) (fun k => by simp only [glue_Set.j1]; rw [if_pos c3]) ?_
    rw [if_pos c3]; exact set_j2 ..
  · refine Ev.step (f := fun k => glue_Set.j2 k x0 x1 x2 x3 x4 x5 1 1 y2 0) (fun k => by simp only [glue_Set.j1]; rw [if_neg c3]) ?_
    rw [if_neg c3]; exact set_j2 ..
theorem set_no (e : Int) (x0 x1 x2 x3 x4 x5 : Int) : Ev (fun k => glue_Set.j0 k e true x0 x1 x2 x3 x4 x5) (0, 0, 0, 0, false) :=
  Ev.step (f := fun _ => some _) (fun k => by simp only [glue_Set.j0]; rw [if_pos trivial]) (Ev.now _)
theorem set_yes (e : Int) (x0 x1 x2 x3 x4 x5 : Int) : Ev (fun k => glue_Set.j0 k e false x0 x1 x2 x3 x4 x5) (sw e (x0, x1, x2, x3, x4, x5)) := by
  unfold sw
  by_cases c1 : e < 0
  · rw [if_pos c1]
    refine Ev.step (f := fun k => (glue_Badness.f k (wrap64 (-e)) x1).bind fun t => (if (wrap64 (-e)) > x1 then (some ((-1), 0, e, 1000000, true)) else (some ((-1), 0, e, t, true)))) (fun k => by simp only [glue_Set.j0]; rw [if_neg (by decide), if_pos c1]) (Ev.bind (bad_ev _ _) ?_)
    by_cases c2 : wrap64 (-e) > x1
    · simp only [if_pos c2]; exact Ev.now _
    · simp only [if_neg c2]; exact Ev.now _
  · rw [if_neg c1]
    by_cases c2 : e > 0
    · rw [if_pos c2]
      by_cases c3 : x2 = 0
      · refine Ev.step (f := fun k => glue_Set.j1 k x0 x1 x2 x3 x4 x5 0 0 e 10000) (fun k => by simp only [glue_Set.j0]; rw [if_neg (by decide), if_neg c1, if_pos c2, if_pos c3]) ?_
        simp only [if_pos c3]; exact set_j1 ..
      · refine Ev.step (f := fun k => (glue_Badness.f k e x2).bind fun t => glue_Set.j1 k x0 x1 x2 x3 x4 x5 1 0 e t) (fun k => by simp only [glue_Set.j0]; rw [if_neg (by decide), if_neg c1, if_pos c2, if_neg c3]) (Ev.bind (bad_ev _ _) ?_)
        simp only [if_neg c3]; exact set_j1 ..
    · rw [if_neg c2]
      exact Ev.step (f := fun _ => some _) (fun k => by simp only [glue_Set.j0]; rw [if_neg (by decide), if_neg c1, if_neg c2]) (Ev.now _)
theorem set_ev (g : List S38) (target : Int) : Ev (fun k => glue_Set.f k g target) (sv g target) := by
  unfold glue_Set.f sv
  refine Ev.bind (total_ev g) ?_
  refine Ev.bind (a := sb target (tt g).1) (by rw [show (t7 (tt g) (my g)).1 = (tt g).1 from rfl, sub_f]; exact Ev.now _) ?_
  by_cases h : my g = true
  · rw [h]; simp only [t7, if_true]
    by_cases h2 : (sb target (tt g).1).2 = true
    · rw [if_pos h2, h2]; exact set_yes ..
    · rw [if_neg h2, Bool.eq_false_iff.mpr h2]; exact set_no ..
  · rw [Bool.eq_false_iff.mpr h]; simp only [t7, if_neg (by decide : ¬ (false = true))]
    exact set_no ..
theorem sv_sign (g : List S38) (t : Int) : (sv g t).1 = -1 ∨ (sv g t).1 = 0 ∨ (sv g t).1 = 1 := by
  unfold sv sw; repeat' split
  all_goals simp

end Go.Proofs.Ytpfnfofaajpdmaa.Pure

namespace Go.Proofs.Ytpfnfofaajpdmaa.Pure
set_option linter.unusedVariables false
set_option linter.unusedSimpArgs false
open Go.RowKit Go.Proofs.Ytpfnfofaajpdmaa.PWi Go.Proofs.YtpfnfofaajpdmaaW.PrintWords Go.Proofs.YtpfnfofaajpdmaaW.PrintLast Go.Proofs.YtpfnfofaajpdmaaW.PrintMore

def lv (l : List S40) (a b w : Int) : T5 := if mb l a b = true then sv (gs l a b) w else (0, 0, 0, 0, false)
theorem line_ev (l : List S40) (a b w : Int) (hl : l.length ≤ 2000) : Ev (fun k => demerit_Line.f k l a b w) (lv l a b w) := by
  unfold demerit_Line.f lv
  refine Ev.bind (may_ev l a b hl) ?_
  by_cases h : mb l a b = true
  · have i := mb_in h
    simp only [if_pos h]
    exact Ev.bind (glues_ev l a b hl (by omega) i.2.2.1 i.2.2.2.1 i.2.2.2.2) (Ev.bind (set_ev _ _) (Ev.now _))
  · simp only [if_neg h]; exact Ev.now _

def d0 (bad : Int) : Int := wrap64 ((wrap64 (bad + 10)) * (wrap64 (bad + 10)))
def d1 (bad : Int) (x : S40) : Int := if x.f0 = 2 then (if x.f2 > 0 then wrap64 (d0 bad + wrap64 (x.f2 * x.f2)) else if fz x = true then d0 bad else wrap64 (d0 bad - wrap64 (x.f2 * x.f2))) else d0 bad
def dm (bad : Int) (bh : Bool) (x : S40) : Int := if bh = true then (if x.f3 = true then wrap64 (d1 bad x + 10000) else d1 bad x) else d1 bad x
def cs (sign bad : Int) : Int := if bad ≤ 12 then 2 else if sign < 0 then 3 else if bad < 100 then 1 else 0
theorem cs_in (s b : Int) : 0 ≤ cs s b ∧ cs s b ≤ 3 := by unfold cs; repeat' split
                                                          all_goals omega

def cv (l : List S40) (a b w tol : Int) : Int × Int × Bool :=
  if (lv l a b w).2.2.2.2 = true then (if (lv l a b w).2.2.2.1 > mn tol 10000 then (0, 0, false) else (dm (lv l a b w).2.2.2.1 (if a ≥ 0 then (rd_T40 l (mx a 0)).f3 else false) (rd_T40 l b), cs (lv l a b w).1 (lv l a b w).2.2.2.1, true)) else (0, 0, false)
theorem lv_ok {l : List S40} {a b w : Int} (h : (lv l a b w).2.2.2.2 = true) : mb l a b = true := by
  unfold lv at h
  by_cases c : mb l a b = true
  · exact c
  · rw [if_neg c] at h; exact absurd h (by decide)
theorem cv_ok {l : List S40} {a b w tol : Int} (h : (cv l a b w tol).2.2 = true) : mb l a b = true ∧ (cv l a b w tol).1 = dm (lv l a b w).2.2.2.1 (if a ≥ 0 then (rd_T40 l (mx a 0)).f3 else false) (rd_T40 l b) ∧ (cv l a b w tol).2.1 = cs (lv l a b w).1 (lv l a b w).2.2.2.1 ∧ (lv l a b w).2.2.2.2 = true ∧ (lv l a b w).2.2.2.1 ≤ mn tol 10000 := by
  unfold cv at h ⊢
  by_cases c : (lv l a b w).2.2.2.2 = true
  · rw [if_pos c] at h ⊢
    by_cases c2 : (lv l a b w).2.2.2.1 > mn tol 10000
    · rw [if_pos c2] at h; exact absurd h (by decide)
    · rw [if_neg c2]; exact ⟨lv_ok c, rfl, rfl, c, by omega⟩
  · rw [if_neg c] at h; exact absurd h (by decide)
end Go.Proofs.Ytpfnfofaajpdmaa.Pure

namespace Go.Proofs.Ytpfnfofaajpdmaa.Pure
set_option linter.unusedVariables false
set_option linter.unusedSimpArgs false
open Go.RowKit Go.Proofs.Ytpfnfofaajpdmaa.PWi Go.Proofs.YtpfnfofaajpdmaaW.PrintWords Go.Proofs.YtpfnfofaajpdmaaW.PrintLast Go.Proofs.YtpfnfofaajpdmaaW.PrintMore

theorem fi_am {a : Int} (h : 0 ≤ a) : fi a = am a := by
  unfold fi am; exact decide_eq_decide.2 ⟨fun x => ⟨h, x.2⟩, fun x => ⟨by omega, x.2⟩⟩
theorem neg_am {a : Int} (h : a < 0) : am a = false := by unfold am; exact decide_eq_false (fun x => by omega)
/-! ## An item by itself -/
def rj (p : Bool) (x : S40) : Bool :=
  if x.f0 = 0 then (p && (x.f2 == 0 && (!x.f3 && (decide (x.f4 ≥ 0) && decide (x.f5 ≥ 0)))))
  else if x.f0 = 1 then (my [x.f1] && (decide (x.f1.f0 ≥ x.f1.f2) && (x.f2 == 0 && (!x.f3 && (x.f4 == 0 && x.f5 == 0)))))
  else if x.f0 = 2 then (p && (decide (x.f2 ≥ -10000) && (decide (x.f2 ≤ 10000) && (x.f4 == 0 && x.f5 == 0)))) else false
def pl (x : S40) : Bool := x.f1.f1 == 0 && (x.f1.f2 == 0 && (x.f1.f3 == 0 && am x.f1.f0))
def ri (x : S40) : Bool := rj (pl x) x
theorem right_j0 (p : Bool) (x : S40) : Ev (fun k => item_right.j0 k p x.f0 x.f1.f0 x.f1.f1 x.f1.f2 x.f1.f3 x.f2 x.f3 x.f4 x.f5) (rj p x) := by
  unfold rj
  by_cases h0 : x.f0 = 0
  · rw [if_pos h0]
    refine Ev.step (f := fun _ => some _) (fun k => ?_) (Ev.now _)
    simp only [item_right.j0]
    rw [if_pos h0]
    by_cases a : p = true
    · rw [if_pos a]
      by_cases b : x.f2 = 0
      · rw [if_pos b]
        by_cases c : x.f3 = true
        · rw [if_pos c]; simp [a, b, c]
        · rw [if_neg c]
          by_cases e : x.f4 ≥ 0
          · rw [if_pos e]; simp [a, b, c, e]
          · rw [if_neg e]; simp [a, b, c, e]
      · rw [if_neg b]; simp [a, b]
    · rw [if_neg a]; simp [a]
  · rw [if_neg h0]
    by_cases h1 : x.f0 = 1
    · rw [if_pos h1]
      refine Ev.step (f := fun k => (glue_May.f k [x.f1]).bind fun t116 => (if t116 = true then (if x.f1.f0 ≥ x.f1.f2 then (if x.f2 = 0 then (if x.f3 = true then (some false) else (if x.f2 ≥ (-10000) then (if x.f2 ≤ 10000 then (if x.f4 = 0 then (some (x.f5 == 0)) else (some false)) else (some false)) else (some false))) else (some false)) else (some false)) else (some false))) (fun k => ?_) (Ev.bind (gmay_ev [x.f1]) ?_)
      · simp only [item_right.j0]
        rw [if_neg h0, if_pos h1]
      · by_cases a : my [x.f1] = true
        · simp only [if_pos a]
          by_cases b : x.f1.f0 ≥ x.f1.f2
          · simp only [if_pos b]
            by_cases c : x.f2 = 0
            · simp only [if_pos c]
              by_cases e : x.f3 = true
              · simp only [if_pos e]; simp [e]; exact Ev.now _
              · have c1 : x.f2 ≥ -10000 := by omega
                have c2 : x.f2 ≤ 10000 := by omega
                simp only [if_neg e, if_pos c1, if_pos c2]
                by_cases f : x.f4 = 0
                · simp only [if_pos f]; simp [a, b, c, e, f]; exact Ev.now _
                · simp only [if_neg f]; rw [(beq_eq_false_iff_ne.mpr f : (x.f4 == 0) = false)]; simp only [Bool.false_and, Bool.and_false]; exact Ev.now _
            · simp only [if_neg c]; rw [(beq_eq_false_iff_ne.mpr c : (x.f2 == 0) = false)]; simp only [Bool.false_and, Bool.and_false]; exact Ev.now _
          · simp only [if_neg b]; rw [show decide (x.f1.f0 ≥ x.f1.f2) = false from decide_eq_false b]; simp only [Bool.false_and, Bool.and_false]; exact Ev.now _
        · simp only [if_neg a]; rw [Bool.eq_false_iff.mpr a]; simp only [Bool.false_and, Bool.and_false]; exact Ev.now _
    · rw [if_neg h1]
      refine Ev.step (f := fun _ => some _) (fun k => ?_) (Ev.now _)
      simp only [item_right.j0]
      rw [if_neg h0, if_neg h1]
      by_cases h2 : x.f0 = 2
      · rw [if_pos h2, if_pos h2]
        by_cases a : p = true
        · rw [if_pos a]
          by_cases b : x.f2 ≥ -10000
          · rw [if_pos b]
            by_cases c : x.f2 ≤ 10000
            · rw [if_pos c]
              by_cases e : x.f4 = 0
              · rw [if_pos e]; simp [a, b, c, e]
              · rw [if_neg e]; simp [e]
            · rw [if_neg c]; simp [c]
          · rw [if_neg b]; simp [b]
        · rw [if_neg a]; simp [a]
      · rw [if_neg h2, if_neg h2]
theorem right_ev (x : S40) : Ev (fun k => item_right.f k x.f0 x.f1.f0 x.f1.f1 x.f1.f2 x.f1.f3 x.f2 x.f3 x.f4 x.f5) (ri x) := by
  unfold item_right.f ri
  by_cases h : (x.f1.f1 == 0 && (x.f1.f2 == 0 && (x.f1.f3 == 0))) = true
  · simp only [if_pos h]
    by_cases a : x.f1.f0 ≥ 0
    · simp only [if_pos a, fits_f, Option.bind_some]
      have e : pl x = fi x.f1.f0 := by
        unfold pl; rw [fi_am a]
        simp only [Bool.and_eq_true] at h
        rw [h.1, h.2.1, h.2.2]; rfl
      rw [e]; exact right_j0 _ x
    · simp only [if_neg a]
      have e : pl x = false := by unfold pl; rw [neg_am (by omega)]; simp
      rw [e]; exact right_j0 _ x
  · simp only [if_neg h]
    have e : pl x = false := by
      cases q : pl x
      · rfl
      · exfalso; apply h; unfold pl at q; simp only [Bool.and_eq_true] at q ⊢; exact ⟨q.1, q.2.1, q.2.2.1⟩
    rw [e]; exact right_j0 _ x
/-! ## All items -/
def ar (l : List S40) : Nat → Nat → Bool
  | 0, _ => true
  | d + 1, i => ri (rd_T40 l (i : Int)) && ar l d (i + 1)
def gq (l : List S40) : Nat → Nat → List S38
  | 0, _ => []
  | d + 1, i => (rd_T40 l (i : Int)).f1 :: gq l d (i + 1)
def mi (l : List S40) : Bool := decide ((l.length : Int) ≤ 2000) && (ar l l.length 0 && my (gq l l.length 0))
theorem imay_loop (l : List S40) (hl : l.length ≤ 2000) : ∀ (d i : Nat) (acc : List S38), i + d = l.length → acc.length ≤ i → Ev (fun k => item_May.l0 k acc l (l.length : Int) (i : Int)) (ar l d i && my (acc ++ gq l d i)) := by
  intro d
  induction d with
  | zero =>
    intro i acc hi ha
    have g0 : ¬ (i : Int) < (l.length : Int) := by omega
    refine Ev.step (f := fun k => (glue_May.f k acc).bind fun t => some t) (fun k => ?_) (Ev.bind (gmay_ev acc) ?_)
    · simp only [item_May.l0]; rw [if_neg g0]
    · simp [ar, gq]; exact Ev.now _
  | succ d ih =>
    intro i acc hi ha
    have g1 : (i : Int) < (l.length : Int) := by omega
    have g2 : (0 : Int) ≤ (i : Int) := by omega
    have g3 : i ≤ 1000000000000000 := by omega
    have g4 : acc.length < 4398046511104 := by omega
    refine Ev.step (f := fun k => (item_right.f k (rd_T40 l (i : Int)).f0 (rd_T40 l (i : Int)).f1.f0 (rd_T40 l (i : Int)).f1.f1 (rd_T40 l (i : Int)).f1.f2 (rd_T40 l (i : Int)).f1.f3 (rd_T40 l (i : Int)).f2 (rd_T40 l (i : Int)).f3 (rd_T40 l (i : Int)).f4 (rd_T40 l (i : Int)).f5).bind fun t => (if t = true then item_May.l0 k (acc ++ [(rd_T40 l (i : Int)).f1]) l (l.length : Int) (((i + 1 : Nat) : Int)) else some false)) (fun k => ?_) (Ev.bind (right_ev _) ?_)
    · simp only [item_May.l0]; rw [if_pos g1, if_pos g2, if_pos g1]; simp only [if_pos g4, succ_w i g3]
    · by_cases a : ri (rd_T40 l (i : Int)) = true
      · simp only [if_pos a, ar, a, Bool.true_and]
        have := ih (i + 1) (acc ++ [(rd_T40 l (i : Int)).f1]) (by omega) (by simp; omega)
        simpa [gq] using this
      · simp only [if_neg a, ar, Bool.eq_false_iff.mpr a, Bool.false_and]; exact Ev.now _
theorem imay_ev (l : List S40) : Ev (fun k => item_May.f k l) (mi l) := by
  unfold item_May.f mi
  by_cases h : (l.length : Int) > 2000
  · simp only [if_pos h]
    rw [decide_eq_false (by omega)]; exact Ev.now _
  · simp only [if_neg h]
    rw [decide_eq_true (by omega)]
    have := imay_loop l (by omega) l.length 0 [] (by omega) (by simp)
    simpa using this

end Go.Proofs.Ytpfnfofaajpdmaa.Pure

namespace Go.Proofs.Ytpfnfofaajpdmaa.Pure
set_option linter.unusedVariables false
set_option linter.unusedSimpArgs false
open Go.RowKit Go.Proofs.Ytpfnfofaajpdmaa.PWi Go.Proofs.YtpfnfofaajpdmaaW.PrintWords Go.Proofs.YtpfnfofaajpdmaaW.PrintLast Go.Proofs.YtpfnfofaajpdmaaW.PrintMore

def gd (x : S38) : Prop := fi x.f0 = true ∧ am x.f1 = true ∧ am x.f2 = true ∧ 0 ≤ x.f3 ∧ x.f3 ≤ 3
def qw : List S38 → Int
  | [] => 0
  | x :: r => mx x.f0 (-x.f0) + qw r
def qs : List S38 → Int
  | [] => 0
  | x :: r => x.f1 + qs r
def qh : List S38 → Int
  | [] => 0
  | x :: r => x.f2 + qh r
theorem mv_iff (g : List S38) : ∀ d i w s h, i + d = g.length → (mv g d i w s h = true ↔ (∀ x ∈ g.drop i, gd x) ∧ am (w + qw (g.drop i)) = true ∧ am (s + qs (g.drop i)) = true ∧ am (h + qh (g.drop i)) = true)
  | 0, i, w, s, h => fun e => by
    rw [List.drop_eq_nil_of_le (by omega)]
    simp [mv, qw, qs, qh, gd]
  | d + 1, i, w, s, h => fun e => by
    have hlt : i < g.length := by omega
    have hr : rd_T38 g (i : Int) = g[i] := by
      unfold rd_T38
      rw [Int.toNat_natCast, List.getD_eq_getElem?_getD, List.getElem?_eq_getElem hlt]; rfl
    have ih := mv_iff g d (i + 1) (w + mx g[i].f0 (-g[i].f0)) (s + g[i].f1) (h + g[i].f2) (by omega)
    rw [List.drop_eq_getElem_cons hlt]
    simp only [mv, hr, qw, qs, qh, List.mem_cons, forall_eq_or_imp]
    rw [← Int.add_assoc, ← Int.add_assoc, ← Int.add_assoc]
    unfold gd at ih ⊢
    by_cases a1 : fi g[i].f0 = true
    · by_cases a2 : am g[i].f1 = true
      · by_cases a3 : am g[i].f2 = true
        · by_cases a4 : g[i].f3 < 0
          · rw [if_pos a1, if_pos a2, if_pos a3, if_pos a4]
            exact ⟨fun h => (by cases h), fun h => (by have := h.1.1.2.2.2.1; omega)⟩
          · by_cases a5 : g[i].f3 > 3
            · rw [if_pos a1, if_pos a2, if_pos a3, if_neg a4, if_pos a5]
              exact ⟨fun h => (by cases h), fun h => (by have := h.1.1.2.2.2.2; omega)⟩
            · rw [if_pos a1, if_pos a2, if_pos a3, if_neg a4, if_neg a5, ih]
              exact ⟨fun h => ⟨⟨⟨a1, a2, a3, by omega, by omega⟩, h.1⟩, h.2⟩, fun h => ⟨h.1.2, h.2⟩⟩
        · rw [if_pos a1, if_pos a2, if_neg a3]; exact ⟨fun h => (by cases h), fun h => absurd h.1.1.2.2.1 a3⟩
      · rw [if_pos a1, if_neg a2]; exact ⟨fun h => (by cases h), fun h => absurd h.1.1.2.1 a2⟩
    · rw [if_neg a1]; exact ⟨fun h => (by cases h), fun h => absurd h.1.1.1 a1⟩
theorem my_iff (g : List S38) : my g = true ↔ g.length ≤ 2000 ∧ (∀ x ∈ g, gd x) ∧ am (qw g) = true ∧ am (qs g) = true ∧ am (qh g) = true := by
  have h := mv_iff g g.length 0 0 0 0 (by omega)
  rw [List.drop_zero, Int.zero_add, Int.zero_add, Int.zero_add] at h
  unfold my
  by_cases c : (g.length : Int) > 2000
  · rw [if_pos c]; exact ⟨fun h => (by cases h), fun h => (by omega)⟩
  · rw [if_neg c, h]; exact ⟨fun h => ⟨by omega, h⟩, fun h => h.2⟩
end Go.Proofs.Ytpfnfofaajpdmaa.Pure

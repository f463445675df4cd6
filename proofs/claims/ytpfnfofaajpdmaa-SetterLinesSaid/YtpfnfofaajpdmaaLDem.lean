/- Demerit's plain lemmas: where a line begins, its glue, whether it may be. -/
import Derived.Test.YtpfnfofaajpdmaaPLnx7
namespace Go.Proofs.Ytpfnfofaajpdmaa.Pure
set_option linter.unusedVariables false
set_option linter.unusedSimpArgs false
open Go.RowKit Go.Proofs.Ytpfnfofaajpdmaa.PLn Go.Proofs.YtpfnfofaajpdmaaW.PrintWords Go.Proofs.YtpfnfofaajpdmaaW.PrintLast Go.Proofs.YtpfnfofaajpdmaaW.PrintMore


theorem wrap_small {x : Int} (h : -9223372036854775808 ≤ x ∧ x ≤ 9223372036854775807) : wrap64 x = x := by
  unfold wrap64
  omega
theorem succ_w (n : Nat) (h : n ≤ 1000000000000000) : wrap64 ((n : Int) + 1) = ((n + 1 : Nat) : Int) := by rw [wrap_small (by omega)]; omega
theorem wf_high {x : Int} (h : (Lit.int .i64 x).wf = true) : x ≤ 9223372036854775807 := by
  simp [Lit.wf] at h
  exact h.2
theorem wf_low {x : Int} (h : (Lit.int .i64 x).wf = true) : -9223372036854775808 ≤ x := by
  simp [Lit.wf] at h
  exact h.1

/-! ## Forced breaks, legal ones, and where a line starts -/
def fz (x : S40) : Bool := decide (x.f0 = 2) && (x.f2 == (-10000))
theorem forced_f (x : S40) : demerit_Forced.f x.f0 x.f1.f0 x.f1.f1 x.f1.f2 x.f1.f3 x.f2 x.f3 x.f4 x.f5 = some (fz x) := by
  unfold demerit_Forced.f fz
  by_cases h : x.f0 = 2
  · rw [if_pos h, decide_eq_true h]; rfl
  · rw [if_neg h, decide_eq_false h]; rfl

def lg (l : List S40) (b : Int) : Bool :=
  decide (0 ≤ b) && (decide (b < (l.length : Int)) && (if (rd_T40 l b).f0 = 2 then decide ((rd_T40 l b).f2 < 10000) else if (rd_T40 l b).f0 = 1 then (if b > 0 then ((rd_T40 l (b - 1)).f0 == 0) else false) else false))
theorem lg_in {l : List S40} {b : Int} (h : lg l b = true) : 0 ≤ b ∧ b < (l.length : Int) := by
  unfold lg at h
  simp only [Bool.and_eq_true, decide_eq_true_eq] at h
  exact ⟨h.1, h.2.1⟩
theorem legal_ev (l : List S40) (b : Int) (hl : l.length ≤ 2000) : Ev (fun k => demerit_Legal.f k l b) (lg l b) := by
  unfold demerit_Legal.f
  by_cases h1 : b < 0
  · simp only [if_pos h1]
    refine Ev.step (f := fun _ => some (lg l b)) (fun k => ?_) (Ev.now _)
    simp only [demerit_Legal.j0]
    rw [if_pos trivial]
    congr 1; unfold lg; rw [decide_eq_false (show ¬ 0 ≤ b by omega)]; rfl
  · simp only [if_neg h1]
    by_cases h2 : b ≥ (l.length : Int)
    · refine Ev.step (f := fun _ => some (lg l b)) (fun k => ?_) (Ev.now _)
      simp only [demerit_Legal.j0]
      rw [decide_eq_true h2, if_pos rfl]
      congr 1; unfold lg; rw [decide_eq_false (show ¬ b < (l.length : Int) by omega)]; simp
    · refine Ev.step (f := fun _ => some (lg l b)) (fun k => ?_) (Ev.now _)
      have g1 : 0 ≤ b := by omega
      have g2 : b < (l.length : Int) := by omega
      have g3 : b > 0 → 0 ≤ b - 1 := fun _ => by omega
      have g4 : b > 0 → b - 1 < (l.length : Int) := fun _ => by omega
      have g5 : wrap64 (b - 1) = b - 1 := wrap_small (by omega)
      simp only [demerit_Legal.j0]
      rw [decide_eq_false h2, if_neg (by decide), if_pos g1, if_pos g2, g5]
      unfold lg
      rw [decide_eq_true g1, decide_eq_true g2]
      simp only [Bool.true_and]
      by_cases k1 : (rd_T40 l b).f0 = 2
      · rw [if_pos k1, if_pos k1]
      · rw [if_neg k1, if_neg k1]
        by_cases k2 : (rd_T40 l b).f0 = 1
        · rw [if_pos k2, if_pos k2]
          by_cases k3 : b > 0
          · rw [if_pos k3, if_pos k3, if_pos (g3 k3), if_pos (g4 k3)]
          · rw [if_neg k3, if_neg k3]
        · rw [if_neg k2, if_neg k2]

def hit (x : S40) : Bool := decide (x.f0 = 0) || fz x
def sk (l : List S40) : Nat → Nat → Nat
  | 0, i => i
  | d + 1, i => if hit (rd_T40 l (i : Int)) = true then i else sk l d (i + 1)
theorem sk_le (l : List S40) : ∀ d i, sk l d i ≤ i + d
  | 0, i => Nat.le_refl _
  | d + 1, i => by
    have := sk_le l d (i + 1)
    simp only [sk]; split <;> omega
theorem le_sk (l : List S40) : ∀ d i, i ≤ sk l d i
  | 0, i => Nat.le_refl _
  | d + 1, i => by
    have := le_sk l d (i + 1)
    simp only [sk]; split <;> omega
def from_ (a : Int) : Nat := (mx a (-1) + 1).toNat
def st (l : List S40) (a : Int) : Nat := if a ≥ (l.length : Int) then l.length else sk l (l.length - from_ a) (from_ a)
theorem start_loop (l : List S40) (hl : l.length ≤ 2000) : ∀ (d i : Nat), i + d = l.length → Ev (fun k => demerit_Start.l0 k l (i : Int)) ((sk l d i : Nat) : Int) := by
  intro d
  induction d with
  | zero =>
    intro i hi
    have g : ¬ (i : Int) < (l.length : Int) := by omega
    refine Ev.step (f := fun _ => some _) (fun k => ?_) (Ev.now _)
    simp only [demerit_Start.l0]
    rw [if_neg g]; rfl
  | succ d ih =>
    intro i hi
    have g1 : (i : Int) < (l.length : Int) := by omega
    have g2 : (0 : Int) ≤ (i : Int) := by omega
    have g3 : i ≤ 1000000000000000 := by omega
    by_cases a1 : (rd_T40 l (i : Int)).f0 = 0
    · refine Ev.step (f := fun _ => some _) (fun k => ?_) (Ev.now _)
      simp only [demerit_Start.l0]
      rw [if_pos g1, if_pos g2, if_pos a1]
      simp [sk, hit, a1]
    · by_cases a2 : fz (rd_T40 l (i : Int)) = true
      · refine Ev.step (f := fun _ => some _) (fun k => ?_) (Ev.now _)
        simp only [demerit_Start.l0]
        rw [if_pos g1, if_pos g2, if_neg a1, forced_f]
        simp only [Option.bind_some]
        rw [if_pos a2]
        simp [sk, hit, a2]
      · have e : sk l (d + 1) i = sk l d (i + 1) := by simp [sk, hit, a1, a2]
        rw [e]
        refine Ev.step (fun k => ?_) (ih (i + 1) (by omega))
        simp only [demerit_Start.l0]
        rw [if_pos g1, if_pos g2, if_neg a1, forced_f]
        simp only [Option.bind_some]
        rw [if_neg a2, succ_w i g3]
theorem start_ev (l : List S40) (a : Int) (hl : l.length ≤ 2000) (ha : -9223372036854775808 ≤ a) : Ev (fun k => demerit_Start.f k l a) ((st l a : Nat) : Int) := by
  unfold demerit_Start.f st
  by_cases h : a ≥ (l.length : Int)
  · simp only [if_pos h]; exact Ev.now _
  · simp only [if_neg h]
    have e : wrap64 (mx a (-1) + 1) = ((from_ a : Nat) : Int) := by
      unfold from_
      rw [wrap_small (by unfold mx; split <;> omega)]
      unfold mx; split <;> omega
    have e2 : from_ a ≤ l.length := by unfold from_ mx; split <;> omega
    rw [e]
    exact start_loop l hl _ _ (by omega)

/-! ## A line's glues -/
def cl (l : List S40) : Nat → Nat → List S38
  | 0, _ => []
  | d + 1, i => (if (rd_T40 l (i : Int)).f0 = 0 then [(rd_T40 l (i : Int)).f1] else if (rd_T40 l (i : Int)).f0 = 1 then [(rd_T40 l (i : Int)).f1] else []) ++ cl l d (i + 1)
theorem cl_len (l : List S40) : ∀ d i, (cl l d i).length ≤ d
  | 0, i => Nat.le_refl _
  | d + 1, i => by
    have := cl_len l d (i + 1)
    simp only [cl, List.length_append]
    split
    · simp; omega
    · split <;> simp <;> omega
def gt (l : List S40) (b : Int) : List S38 := if (rd_T40 l b).f0 = 2 then [⟨(rd_T40 l b).f1.f0, 0, 0, 0⟩] else []
def gs (l : List S40) (a b : Int) : List S38 := cl l (b.toNat - st l a) (st l a) ++ gt l b
theorem glues_loop (l : List S40) (b : Nat) (hl : l.length ≤ 2000) (hb : b < l.length) : ∀ (d i : Nat) (acc : List S38), i + d = b → acc.length ≤ i → Ev (fun k => demerit_Glues.l0 k l (b : Int) acc (i : Int)) (acc ++ (cl l d i ++ gt l (b : Int))) := by
  intro d
  induction d with
  | zero =>
    intro i acc hi ha
    have g : ¬ (i : Int) < (b : Int) := by omega
    have g1 : (0 : Int) ≤ (b : Int) := by omega
    have g2 : (b : Int) < (l.length : Int) := by omega
    have g3 : acc.length < 4398046511104 := by omega
    refine Ev.step (f := fun _ => some _) (fun k => ?_) (Ev.now _)
    simp only [demerit_Glues.l0]
    rw [if_neg g, if_pos g1, if_pos g2]
    unfold gt
    by_cases c : (rd_T40 l (b : Int)).f0 = 2
    · rw [if_pos c, if_pos c, if_pos g3]; rfl
    · rw [if_neg c, if_neg c]; simp [cl]
  | succ d ih =>
    intro i acc hi ha
    have g1 : (i : Int) < (b : Int) := by omega
    have g2 : (0 : Int) ≤ (i : Int) := by omega
    have g3 : i ≤ 1000000000000000 := by omega
    have g4 : (i : Int) < (l.length : Int) := by omega
    have g5 : acc.length < 4398046511104 := by omega
    by_cases a1 : (rd_T40 l (i : Int)).f0 = 0
    · have e : acc ++ (cl l (d + 1) i ++ gt l (b : Int)) = (acc ++ [(rd_T40 l (i : Int)).f1]) ++ (cl l d (i + 1) ++ gt l (b : Int)) := by simp [cl, a1]
      rw [e]
      refine Ev.step (fun k => ?_) (ih (i + 1) (acc ++ [(rd_T40 l (i : Int)).f1]) (by omega) (by simp; omega))
      simp only [demerit_Glues.l0]
      rw [if_pos g1, if_pos g2, if_pos g4, if_pos a1, if_pos g5, succ_w i g3]
    · by_cases a2 : (rd_T40 l (i : Int)).f0 = 1
      · have e : acc ++ (cl l (d + 1) i ++ gt l (b : Int)) = (acc ++ [(rd_T40 l (i : Int)).f1]) ++ (cl l d (i + 1) ++ gt l (b : Int)) := by simp [cl, a2]
        rw [e]
        refine Ev.step (fun k => ?_) (ih (i + 1) (acc ++ [(rd_T40 l (i : Int)).f1]) (by omega) (by simp; omega))
        simp only [demerit_Glues.l0]
        rw [if_pos g1, if_pos g2, if_pos g4, if_neg a1, if_pos a2, if_pos g5, succ_w i g3]
      · have e : acc ++ (cl l (d + 1) i ++ gt l (b : Int)) = acc ++ (cl l d (i + 1) ++ gt l (b : Int)) := by simp [cl, a1, a2]
        rw [e]
        refine Ev.step (fun k => ?_) (ih (i + 1) acc (by omega) (by omega))
        simp only [demerit_Glues.l0]
        rw [if_pos g1, if_pos g2, if_pos g4, if_neg a1, if_neg a2, succ_w i g3]
theorem glues_ev (l : List S40) (a b : Int) (hl : l.length ≤ 2000) (ha : -9223372036854775808 ≤ a) (hb : 0 ≤ b) (hb2 : b < (l.length : Int)) (hs : (st l a : Int) ≤ b) : Ev (fun k => demerit_Glues.f k l a b) (gs l a b) := by
  obtain ⟨b, rfl⟩ : ∃ n : Nat, b = n := ⟨b.toNat, by omega⟩
  have g1 : ¬ (b : Int) < 0 := by omega
  have g2 : ¬ (b : Int) ≥ (l.length : Int) := by omega
  unfold demerit_Glues.f
  simp only [if_neg g1, decide_eq_false g2]
  refine Ev.step (f := fun k => (demerit_Start.f k l a).bind fun t => demerit_Glues.l0 k l (b : Int) [] t) (fun k => ?_) (Ev.bind (start_ev l a hl ha) ?_)
  · simp only [demerit_Glues.j0]; rw [if_neg (by decide)]
  · have := glues_loop l b hl (by omega) (b - st l a) (st l a) [] (by omega) (by simp)
    simpa [gs] using this

/-! ## Whether there may be a line -/
def nf (l : List S40) : Nat → Nat → Bool
  | 0, _ => true
  | d + 1, i => !(fz (rd_T40 l (i : Int))) && nf l d (i + 1)
theorem may_loop (l : List S40) (b : Nat) (hl : l.length ≤ 2000) (hb : b < l.length) : ∀ (d i : Nat), i + d = b → Ev (fun k => demerit_may.l0 k l (b : Int) (i : Int)) (nf l d i) := by
  intro d
  induction d with
  | zero =>
    intro i hi
    have g : ¬ (i : Int) < (b : Int) := by omega
    refine Ev.step (f := fun _ => some _) (fun k => ?_) (Ev.now _)
    simp only [demerit_may.l0]
    rw [if_neg g]; rfl
  | succ d ih =>
    intro i hi
    have g1 : (i : Int) < (b : Int) := by omega
    have g2 : (0 : Int) ≤ (i : Int) := by omega
    have g3 : i ≤ 1000000000000000 := by omega
    have g4 : (i : Int) < (l.length : Int) := by omega
    by_cases a2 : fz (rd_T40 l (i : Int)) = true
    · refine Ev.step (f := fun _ => some _) (fun k => ?_) (Ev.now _)
      simp only [demerit_may.l0]
      rw [if_pos g1, if_pos g2, if_pos g4, forced_f]
      simp only [Option.bind_some]
      rw [if_pos a2]; simp [nf, a2]
    · have e : nf l (d + 1) i = nf l d (i + 1) := by simp [nf, a2]
      rw [e]
      refine Ev.step (fun k => ?_) (ih (i + 1) (by omega))
      simp only [demerit_may.l0]
      rw [if_pos g1, if_pos g2, if_pos g4, forced_f]
      simp only [Option.bind_some]
      rw [if_neg a2, succ_w i g3]
def mb (l : List S40) (a b : Int) : Bool := (decide (a = -1) || lg l a) && (lg l b && (decide (a < b) && (decide ((st l a : Int) ≤ b) && nf l (b.toNat - (a + 1).toNat) (a + 1).toNat)))
theorem mb_in {l : List S40} {a b : Int} (h : mb l a b = true) : -1 ≤ a ∧ a < b ∧ 0 ≤ b ∧ b < (l.length : Int) ∧ (st l a : Int) ≤ b := by
  unfold mb at h
  simp only [Bool.and_eq_true, Bool.or_eq_true, decide_eq_true_eq] at h
  obtain ⟨h1, h2, h3, h4, _⟩ := h
  have := lg_in h2
  refine ⟨?_, h3, this.1, this.2, h4⟩
  rcases h1 with h1 | h1
  · omega
  · have := lg_in h1; omega
theorem may_no (l : List S40) (a b : Int) : Ev (fun k => demerit_may.j0 k l a b true) false :=
  Ev.step (f := fun _ => some false) (fun k => by simp only [demerit_may.j0]; rw [if_pos trivial]) (Ev.now _)
theorem may_rest (l : List S40) (a b : Int) (hl : l.length ≤ 2000) (ha : -1 ≤ a) (hA : (decide (a = -1) || lg l a) = true) : Ev (fun k => (demerit_Legal.f k l b).bind fun t124 => (if t124 = true then (if a ≥ b then (demerit_may.j0 k l a b true) else ((demerit_Start.f k l a).bind fun t125 => (demerit_may.j0 k l a b (decide (t125 > b))))) else (demerit_may.j0 k l a b true))) (mb l a b) := by
  refine Ev.bind (legal_ev l b hl) ?_
  by_cases h1 : lg l b = true
  · simp only [if_pos h1]
    by_cases h2 : a ≥ b
    · simp only [if_pos h2]
      have : mb l a b = false := by unfold mb; rw [decide_eq_false (show ¬ a < b by omega)]; simp
      rw [this]; exact may_no l a b
    · simp only [if_neg h2]
      refine Ev.bind (start_ev l a hl (by omega)) ?_
      by_cases h3 : (st l a : Int) > b
      · rw [decide_eq_true h3]
        have : mb l a b = false := by unfold mb; rw [decide_eq_false (show ¬ (st l a : Int) ≤ b by omega)]; simp
        rw [this]; exact may_no l a b
      · rw [decide_eq_false h3]
        have hb := lg_in h1
        have e : mb l a b = nf l (b.toNat - (a + 1).toNat) (a + 1).toNat := by
          unfold mb; rw [hA, h1, decide_eq_true (show a < b by omega), decide_eq_true (show (st l a : Int) ≤ b by omega)]; simp
        rw [e]
        have g1 : a + 1 = (((a + 1).toNat : Nat) : Int) := by omega
        have g2 : b = ((b.toNat : Nat) : Int) := by omega
        have g3 : b.toNat < l.length := by omega
        have g4 : (a + 1).toNat + (b.toNat - (a + 1).toNat) = b.toNat := by omega
        have g5 : wrap64 (a + 1) = (((a + 1).toNat : Nat) : Int) := by rw [wrap_small (by omega)]; exact g1
        have L := may_loop l b.toNat hl g3 _ _ g4
        rw [← g2] at L
        refine Ev.step (fun k => ?_) L
        simp only [demerit_may.j0]
        rw [if_neg (by decide), g5]
  · simp only [if_neg h1]
    have : mb l a b = false := by unfold mb; rw [Bool.eq_false_iff.mpr h1]; simp
    rw [this]; exact may_no l a b
theorem may_ev (l : List S40) (a b : Int) (hl : l.length ≤ 2000) : Ev (fun k => demerit_may.f k l a b) (mb l a b) := by
  unfold demerit_may.f
  by_cases h : a = -1
  · simp only [if_pos h]
    exact may_rest l a b hl (by omega) (by rw [decide_eq_true h]; rfl)
  · simp only [if_neg h]
    refine Ev.bind (legal_ev l a hl) ?_
    by_cases h1 : lg l a = true
    · simp only [if_pos h1]
      exact may_rest l a b hl (by have := lg_in h1; omega) (by rw [h1]; simp)
    · simp only [if_neg h1]
      have : mb l a b = false := by unfold mb; rw [Bool.eq_false_iff.mpr h1, decide_eq_false h]; rfl
      rw [this]; exact may_no l a b

end Go.Proofs.Ytpfnfofaajpdmaa.Pure

/- LinenoCounts: without Set, Skip, Lock and Sub a unit's lines are 1, 2, 3 and so on; a row of Skip has no number, and no other row is without one; numbers are not below 0. For every input. -/
import Derived.Test.YtbpomibholcpfaaPAllx9
import Derived.Test.YtbpomibholcpfaaPLib
namespace Go.Proofs.Ytbpomibholcpfaa.Pure
set_option linter.unusedVariables false
set_option linter.unusedSimpArgs false
open Go.RowKit Go.Proofs.Ytbpomibholcpfaa.PAll Go.Proofs.YtbpomibholcpfaaW.PrintWords Go.Proofs.YtbpomibholcpfaaW.PrintLast Go.Proofs.YtbpomibholcpfaaW.PrintMore

theorem rd29' (a : List S29) (i : Nat) (h : i < a.length) : rd_T29 a i = a[i] := by
  unfold rd_T29
  rw [Int.toNat_natCast, List.getD_eq_getElem?_getD, List.getElem?_eq_getElem h]
  rfl

/-- The state behind the first rows. -/
def stateAt (by_ : Int) (l : List S29) : Nat → S31
  | 0 => ⟨0, 0⟩
  | i + 1 => let r := rd_T29 l i; let n := startN by_ (ahead by_ l i) (stateAt by_ l i) r; if r.f5 = true then n else nextN n r
theorem nums_at (by_ : Int) (l : List S29) (d : Nat) : ∀ (i : Nat), i + d = l.length → ∀ j, j < d →
    (nums by_ (ahead by_ l i) (stateAt by_ l i) (l.drop i))[j]? = some (if (rd_T29 l ((i + j : Nat) : Int)).f5 = true then ⟨0, 0⟩ else stateAt by_ l (i + j + 1)) := by
  induction d with
  | zero => intro i _ j hj; omega
  | succ d ih =>
    intro i hi j hj
    have hdr := drop_rd l i (by omega)
    have hnext : ahead by_ l (i + 1) = some (unit by_ (rd_T29 l i)) := by
      unfold ahead
      rw [if_neg (by omega), Nat.add_sub_cancel]
    have ih := ih (i + 1) (by omega)
    rw [hnext] at ih
    have hs : stateAt by_ l (i + 1) = if (rd_T29 l i).f5 = true then startN by_ (ahead by_ l i) (stateAt by_ l i) (rd_T29 l i) else nextN (startN by_ (ahead by_ l i) (stateAt by_ l i) (rd_T29 l i)) (rd_T29 l i) := rfl
    rw [hdr]
    unfold nums
    cases j with
    | zero =>
      simp only [Nat.add_zero]
      by_cases h5 : (rd_T29 l i).f5 = true
      · rw [if_pos h5, if_pos h5]; rfl
      · rw [if_neg h5, if_neg h5, hs, if_neg h5]; rfl
    | succ j =>
      have h := ih j (by omega)
      rw [show i + 1 + j = i + (j + 1) by omega] at h
      by_cases h5 : (rd_T29 l i).f5 = true
      · rw [if_pos h5]
        rw [hs, if_pos h5] at h
        rw [List.getElem?_cons_succ]
        exact h
      · rw [if_neg h5]
        rw [hs, if_neg h5] at h
        rw [List.getElem?_cons_succ]
        exact h
theorem number_at (by_ : Int) (l : List S29) (i : Nat) (hi : i < l.length) : rd_T31 (number by_ l) i = if (rd_T29 l i).f5 = true then ⟨0, 0⟩ else stateAt by_ l (i + 1) := by
  have h := nums_at by_ l l.length 0 (by omega) i hi
  rw [Nat.zero_add] at h
  have hl : i < (number by_ l).length := by rw [show (number by_ l).length = l.length from nums_length by_ l none ⟨0, 0⟩]; exact hi
  rw [rd31 _ _ hl]
  have h2 : (number by_ l)[i]? = some (if (rd_T29 l i).f5 = true then ⟨0, 0⟩ else stateAt by_ l (i + 1)) := h
  rw [List.getElem?_eq_getElem hl] at h2
  exact Option.some.inj h2

theorem state_bound (by_ : Int) (l : List S29) (hn : l.length ≤ 1000) (i : Nat) : i ≤ l.length → (∀ j : Nat, j < i → (rd_T29 l j).f3 ≤ 9999) →
    0 ≤ (stateAt by_ l i).f0 ∧ (stateAt by_ l i).f0 ≤ 9999 + i ∧ 0 ≤ (stateAt by_ l i).f1 ∧ (stateAt by_ l i).f1 ≤ i := by
  induction i with
  | zero => intro _ _; simp [stateAt]
  | succ i ih =>
    intro hi hs
    obtain ⟨h1, h2, h3, h4⟩ := ih (by omega) (fun j hj => hs j (by omega))
    have hset := hs i (by omega)
    have e : stateAt by_ l (i + 1) = if (rd_T29 l i).f5 = true then startN by_ (ahead by_ l i) (stateAt by_ l i) (rd_T29 l i) else nextN (startN by_ (ahead by_ l i) (stateAt by_ l i) (rd_T29 l i)) (rd_T29 l i) := rfl
    generalize stateAt by_ l i = n at *
    have hst : 0 ≤ (startN by_ (ahead by_ l i) n (rd_T29 l i)).f0 ∧ (startN by_ (ahead by_ l i) n (rd_T29 l i)).f0 ≤ 9999 + i ∧ 0 ≤ (startN by_ (ahead by_ l i) n (rd_T29 l i)).f1 ∧ (startN by_ (ahead by_ l i) n (rd_T29 l i)).f1 ≤ i := by
      unfold startN
      split
      · simp; omega
      · exact ⟨h1, h2, h3, h4⟩
    generalize startN by_ (ahead by_ l i) n (rd_T29 l i) = m at *
    rw [e]
    obtain ⟨g1, g2, g3, g4⟩ := hst
    split
    · omega
    · unfold nextN mx
      split
      · dsimp only; omega
      · split
        · dsimp only; split <;> omega
        · split
          · dsimp only; rw [wrap_small (by omega)]; split <;> omega
          · dsimp only; rw [wrap_small (by omega)]; omega

theorem state_pos (by_ : Int) (l : List S29) (hn : l.length ≤ 1000) (i : Nat) (hi : i < l.length) (hs : ∀ j : Nat, j ≤ i → (rd_T29 l j).f3 ≤ 9999) (h5 : ¬ (rd_T29 l i).f5 = true) : 1 ≤ (stateAt by_ l (i + 1)).f0 := by
  obtain ⟨h1, h2, h3, h4⟩ := state_bound by_ l hn i (by omega) (fun j hj => hs j (by omega))
  have e : stateAt by_ l (i + 1) = if (rd_T29 l i).f5 = true then startN by_ (ahead by_ l i) (stateAt by_ l i) (rd_T29 l i) else nextN (startN by_ (ahead by_ l i) (stateAt by_ l i) (rd_T29 l i)) (rd_T29 l i) := rfl
  rw [e, if_neg h5]
  have hst : 0 ≤ (startN by_ (ahead by_ l i) (stateAt by_ l i) (rd_T29 l i)).f0 ∧ (startN by_ (ahead by_ l i) (stateAt by_ l i) (rd_T29 l i)).f0 ≤ 9999 + i := by
    unfold startN
    split
    · simp; omega
    · exact ⟨h1, h2⟩
  generalize startN by_ (ahead by_ l i) (stateAt by_ l i) (rd_T29 l i) = m at *
  unfold nextN mx
  split
  · dsimp only; omega
  · split
    · dsimp only; split <;> omega
    · split
      · dsimp only; split <;> omega
      · dsimp only; rw [wrap_small (by omega)]; omega

/-- A plain row of the same unit. -/
def plain (r : S29) : S29 := ⟨r.f0, r.f1, r.f2, 0, false, false, false⟩
theorem plain_unit (by_ : Int) (r : S29) : unit by_ (plain r) = unit by_ r := rfl
/-- How many rows of the unit there are up to a row. -/
def countAt (by_ : Int) (l : List S29) : Nat → Nat
  | 0 => 0
  | i + 1 => (if i > 0 ∧ unit by_ (rd_T29 l i) ≠ unit by_ (rd_T29 l ((i - 1 : Nat) : Int)) then 0 else countAt by_ l i) + 1
theorem countAt_succ (by_ : Int) (l : List S29) (i : Nat) : countAt by_ l (i + 1) = (if i > 0 ∧ unit by_ (rd_T29 l i) ≠ unit by_ (rd_T29 l ((i - 1 : Nat) : Int)) then 0 else countAt by_ l i) + 1 := rfl
theorem countAt_le (by_ : Int) (l : List S29) (i : Nat) : countAt by_ l i ≤ i := by
  induction i with
  | zero => exact Nat.le_refl _
  | succ i ih => unfold countAt; split <;> omega
def wants (by_ : Int) (l : List S29) (i : Nat) : List S31 := (List.range i).map fun j : Nat => (⟨(countAt by_ l (j + 1) : Int), 0⟩ : S31)
theorem wants_succ (by_ : Int) (l : List S29) (i : Nat) : wants by_ l (i + 1) = wants by_ l i ++ [⟨(countAt by_ l (i + 1) : Int), 0⟩] := by simp [wants, List.range_succ]
theorem wants_length (by_ : Int) (l : List S29) (i : Nat) : (wants by_ l i).length = i := by simp [wants]

theorem plain_nums (by_ : Int) (l : List S29) (hn : l.length ≤ 1000) (d : Nat) : ∀ (i : Nat), i + d = l.length →
    nums by_ (ahead by_ l i) ⟨(countAt by_ l i : Int), 0⟩ ((l.map plain).drop i) = (wants by_ l l.length).drop i := by
  induction d with
  | zero =>
    intro i hi
    rw [List.drop_of_length_le (by simp; omega), List.drop_of_length_le (by rw [wants_length]; omega)]
    rfl
  | succ d ih =>
    intro i hi
    have hc := countAt_le by_ l i
    have hdr : (l.map plain).drop i = plain (rd_T29 l i) :: (l.map plain).drop (i + 1) := by
      rw [List.drop_eq_getElem_cons (by simp; omega), rd29' l i (by omega)]
      simp
    have hnext : ahead by_ l (i + 1) = some (unit by_ (rd_T29 l i)) := by
      unfold ahead
      rw [if_neg (by omega), Nat.add_sub_cancel]
    have ih := ih (i + 1) (by omega)
    rw [hnext] at ih
    have hw : (wants by_ l l.length).drop i = ⟨(countAt by_ l (i + 1) : Int), 0⟩ :: (wants by_ l l.length).drop (i + 1) := by
      rw [List.drop_eq_getElem_cons (by rw [wants_length]; omega)]
      simp [wants]
    rw [hdr, hw]
    unfold nums
    rw [if_neg (by simp [plain]), plain_unit]
    have hst : nextN (startN by_ (ahead by_ l i) ⟨(countAt by_ l i : Int), 0⟩ (plain (rd_T29 l i))) (plain (rd_T29 l i)) = ⟨(countAt by_ l (i + 1) : Int), 0⟩ := by
      have hsn : startN by_ (ahead by_ l i) ⟨(countAt by_ l i : Int), 0⟩ (plain (rd_T29 l i)) = ⟨((if i > 0 ∧ unit by_ (rd_T29 l i) ≠ unit by_ (rd_T29 l ((i - 1 : Nat) : Int)) then 0 else countAt by_ l i : Nat) : Int), 0⟩ := by
        unfold startN ahead
        rw [plain_unit]
        by_cases h0 : i = 0
        · rw [if_pos h0, if_neg (by simp), if_neg (by omega)]
        · rw [if_neg h0]
          by_cases hu : unit by_ (rd_T29 l i) = unit by_ (rd_T29 l ((i - 1 : Nat) : Int))
          · rw [if_neg (fun h => h.2 (by rw [hu])), if_neg (fun h => h.2 hu)]
          · rw [if_pos ⟨by simp, fun h => hu (Option.some.inj h).symm⟩, if_pos ⟨by omega, hu⟩]
            rfl
      rw [hsn]
      unfold nextN
      rw [if_neg (by simp [plain]), if_neg (by simp [plain]), if_neg (by simp [plain])]
      rw [countAt_succ]
      have : (if i > 0 ∧ unit by_ (rd_T29 l i) ≠ unit by_ (rd_T29 l ((i - 1 : Nat) : Int)) then 0 else countAt by_ l i) ≤ i := by split <;> omega
      rw [wrap_small (by dsimp only; omega)]
      rfl
    rw [hst, ih]

theorem counts_step (by_ : Int) (l : List S29) (hn : l.length ≤ 1000) (d : Nat) : ∀ (i : Nat), i + d = l.length → (∀ j : Nat, j < i → (rd_T29 l j).f3 ≤ 9999) →
    Ev (fun k => variorumlaw16_LinenoCounts.l0 k l by_ (number by_ l) (countAt by_ l i) ((l.take i).map plain) (wants by_ l i) i) true := by
  have hlen : (number by_ l).length = l.length := nums_length by_ l none ⟨0, 0⟩
  induction d with
  | zero =>
    intro i hi hs
    have e : i = l.length := by omega
    subst e
    have hp : number by_ (l.map plain) = wants by_ l l.length := by
      have h := plain_nums by_ l hn l.length 0 (by omega)
      exact h
    rw [List.take_of_length_le (Nat.le_refl _)]
    refine Ev.step (f := fun k => (lineno_Number.f k (l.map plain) by_).bind fun t228 => ((variorumref16_Nums.f k t228 (wants by_ l l.length)).bind fun t231 => (some t231))) (fun k => ?_) (Ev.bind (number_ev by_ (l.map plain) (by simp; omega)) ?_)
    · simp only [variorumlaw16_LinenoCounts.l0]
      rw [if_neg (by omega)]
    · rw [hp]
      exact Ev.bind (nums_same _ (by rw [wants_length]; omega)) (Ev.now true)
  | succ d ih =>
    intro i hi hs
    have hc := countAt_le by_ l i
    by_cases h9 : (rd_T29 l i).f3 > 9999
    · refine Ev.step (f := fun _ => some true) (fun k => ?_) (Ev.now true)
      simp only [variorumlaw16_LinenoCounts.l0]
      rw [if_pos (by omega), if_pos (by omega), if_pos h9]
    · have hs' : ∀ j : Nat, j ≤ i → (rd_T29 l j).f3 ≤ 9999 := by
        intro j hj
        by_cases e : j = i
        · subst e; omega
        · exact hs j (by omega)
      have ih := ih (i + 1) (by omega) (fun j hj => hs' j (by omega))
      have hat := number_at by_ l i (by omega)
      have hmp : (l.take (i + 1)).map plain = (l.take i).map plain ++ [plain (rd_T29 l i)] := by
        rw [List.take_succ_eq_append_getElem (by omega), List.map_append, rd29' l i (by omega)]
        rfl
      rw [hmp, wants_succ] at ih
      have j4 : Ev (fun k => variorumlaw16_LinenoCounts.j4 k l by_ (number by_ l) (countAt by_ l (i + 1)) ((l.take i).map plain ++ [plain (rd_T29 l i)]) (wants by_ l i ++ [⟨(countAt by_ l (i + 1) : Int), 0⟩]) i false) true := by
        refine Ev.step (f := fun k => variorumlaw16_LinenoCounts.l0 k l by_ (number by_ l) (countAt by_ l (i + 1)) ((l.take i).map plain ++ [plain (rd_T29 l i)]) (wants by_ l i ++ [⟨(countAt by_ l (i + 1) : Int), 0⟩]) ((i + 1 : Nat) : Int)) (fun k => ?_) ih
        simp only [variorumlaw16_LinenoCounts.j4]
        rw [if_neg (by decide), wrap_small (by omega)]
        rfl
      have j3 : ∀ n : Nat, n + 1 = countAt by_ l (i + 1) → Ev (fun k => variorumlaw16_LinenoCounts.j3 k l by_ (number by_ l) n ((l.take i).map plain) (wants by_ l i) i) true := by
        intro n hnn
        have hcn := countAt_le by_ l (i + 1)
        refine Ev.step (f := fun k => variorumlaw16_LinenoCounts.j4 k l by_ (number by_ l) (countAt by_ l (i + 1)) ((l.take i).map plain ++ [plain (rd_T29 l i)]) (wants by_ l i ++ [⟨(countAt by_ l (i + 1) : Int), 0⟩]) i false) (fun k => ?_) j4
        have ew : wrap64 ((n : Int) + 1) = (countAt by_ l (i + 1) : Int) := by rw [wrap_small (by omega)]; omega
        simp only [variorumlaw16_LinenoCounts.j3]
        rw [if_pos (by omega), if_pos (by omega), if_pos (by simp; omega)]
        simp only [Option.bind_some]
        rw [if_pos (by rw [wants_length]; omega), hlen, if_pos (by omega), ew, hat]
        have hpos : ¬ (rd_T29 l i).f5 = true → 1 ≤ (stateAt by_ l (i + 1)).f0 := state_pos by_ l hn i (by omega) hs'
        obtain ⟨b1, _, b3, _⟩ := state_bound by_ l hn (i + 1) (by omega) (fun j hj => hs' j (by omega))
        by_cases h5 : (rd_T29 l i).f5 = true
        · rw [if_pos h5]
          rw [if_neg (by decide), if_neg (by decide), h5]
          rfl
        · have := hpos h5
          rw [if_neg h5, if_neg (by omega), if_neg (by omega)]
          have e5 : (rd_T29 l i).f5 = false := by simpa using h5
          have e0 : ((stateAt by_ l (i + 1)).f0 == 0) = false := beq_eq_false_iff_ne.2 (by omega)
          rw [e5, e0]
          rfl
      have j2 : ∀ b : Bool, (b = true ↔ (i > 0 ∧ unit by_ (rd_T29 l i) ≠ unit by_ (rd_T29 l ((i - 1 : Nat) : Int)))) → Ev (fun k => variorumlaw16_LinenoCounts.j2 k l by_ (number by_ l) (countAt by_ l i) ((l.take i).map plain) (wants by_ l i) i b) true := by
        intro b hb
        cases b with
        | true =>
          have h := j3 0 (by rw [countAt_succ, if_pos (hb.1 rfl)])
          refine Ev.step (f := fun k => variorumlaw16_LinenoCounts.j3 k l by_ (number by_ l) 0 ((l.take i).map plain) (wants by_ l i) i) (fun k => ?_) h
          simp [variorumlaw16_LinenoCounts.j2]
        | false =>
          have h := j3 (countAt by_ l i) (by rw [countAt_succ, if_neg (fun h => by have := hb.2 h; cases this)])
          refine Ev.step (f := fun k => variorumlaw16_LinenoCounts.j3 k l by_ (number by_ l) (countAt by_ l i) ((l.take i).map plain) (wants by_ l i) i) (fun k => ?_) h
          simp [variorumlaw16_LinenoCounts.j2]
      by_cases h0 : i = 0
      · refine Ev.step (f := fun k => variorumlaw16_LinenoCounts.j2 k l by_ (number by_ l) (countAt by_ l i) ((l.take i).map plain) (wants by_ l i) i false) (fun k => ?_) (j2 false (by simp; omega))
        simp only [variorumlaw16_LinenoCounts.l0]
        rw [if_pos (by omega), if_pos (by omega), if_neg h9, if_neg (by omega)]
      · have e1 : wrap64 ((i : Int) - 1) = ((i - 1 : Nat) : Int) := by rw [wrap_small (by omega)]; omega
        refine Ev.step (f := fun k => variorumlaw16_LinenoCounts.j2 k l by_ (number by_ l) (countAt by_ l i) ((l.take i).map plain) (wants by_ l i) i (decide (unit by_ (rd_T29 l i) ≠ unit by_ (rd_T29 l ((i - 1 : Nat) : Int))))) (fun k => ?_) (j2 _ (by
          rw [decide_eq_true_iff]
          exact ⟨fun h => ⟨by omega, h⟩, fun h => h.2⟩))
        simp only [variorumlaw16_LinenoCounts.l0]
        rw [if_pos (by omega), if_pos (by omega), if_neg h9, if_pos (by omega), unit_f]
        simp only [Option.bind_some]
        rw [e1, if_pos (by omega), if_pos (by omega), unit_f]
        simp only [Option.bind_some]
        congr 1
        generalize unit by_ (rd_T29 l i) = u
        generalize unit by_ (rd_T29 l ((i - 1 : Nat) : Int)) = v
        obtain ⟨u1, u2, u3⟩ := u
        obtain ⟨v1, v2, v3⟩ := v
        rw [Bool.eq_iff_iff]
        simp [Prod.ext_iff]

theorem LinenoCounts : variorumlaw16_LinenoCounts.Pure := by
  intro l by_ hl _
  have hl1 : (l.length : Int) * 40 ≤ 140737488351232 := by have := hl.1; omega
  have hlen : (number by_ l).length = l.length := nums_length by_ l none ⟨0, 0⟩
  refine Ev.rounds (g := fun k => variorumlaw16_LinenoCounts.f k l by_) ?_
  unfold variorumlaw16_LinenoCounts.f
  refine Ev.bind (number_ev by_ l hl1) (Ev.bind fixed_ev ?_)
  simp only [if_true, hlen]
  by_cases h1 : (l.length : Int) > 1000
  · simp only [decide_eq_true h1]
    refine Ev.step (f := fun k => (variorumlaw16_fixed.f k).bind fun t198 => (if t198 = true then (some true) else (some false))) (fun k => ?_) (Ev.bind fixed_ev (by simp only [if_true]; exact Ev.now true))
    simp [variorumlaw16_LinenoCounts.j0, hlen]
  · simp only [decide_eq_false h1]
    have h := counts_step by_ l (by omega) l.length 0 (by omega) (fun j hj => by omega)
    refine Ev.step (f := fun k => variorumlaw16_LinenoCounts.l0 k l by_ (number by_ l) 0 [] [] 0) (fun k => ?_) h
    simp [variorumlaw16_LinenoCounts.j0]

end Go.Proofs.Ytbpomibholcpfaa.Pure

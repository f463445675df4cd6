/- LinenoMargins: of a unit's lines 1, 2, 3 and so on those stand at the margin that are first, first and step, first and twice step, and so on. For every input. -/
import Derived.Test.YtbpomibholcpfaaPAllx10
import Derived.Test.YtbpomibholcpfaaPLib
namespace Go.Proofs.Ytbpomibholcpfaa.Pure
set_option linter.unusedVariables false
set_option linter.unusedSimpArgs false
open Go.RowKit Go.Proofs.Ytbpomibholcpfaa.PAll Go.Proofs.YtbpomibholcpfaaW.PrintWords Go.Proofs.YtbpomibholcpfaaW.PrintLast Go.Proofs.YtbpomibholcpfaaW.PrintMore

/-- The lines from 1 on. -/
def lines (n : Nat) : List S31 := (List.range n).map fun i : Nat => (⟨(i : Int) + 1, 0⟩ : S31)
theorem lines_length (n : Nat) : (lines n).length = n := by simp [lines]
theorem lines_succ (n : Nat) : lines (n + 1) = lines n ++ [⟨(n : Int) + 1, 0⟩] := by simp [lines, List.range_succ]
theorem lines_rd (n i : Nat) (h : i < n) : rd_T31 (lines n) (i : Int) = ⟨(i : Int) + 1, 0⟩ := by
  rw [rd31 _ _ (by rw [lines_length]; exact h)]
  simp [lines]
/-- Does line i + 1 stand at the margin? -/
def due (first step : Int) (i : Nat) : Bool := decide (first ≤ (i : Int) + 1) && decide (((i : Int) + 1 - first) % step = 0)
def marks (first step : Int) (n : Nat) : List Bool := (List.range n).map (due first step)
theorem marks_length (first step : Int) (n : Nat) : (marks first step n).length = n := by simp [marks]
theorem marks_succ (first step : Int) (n : Nat) : marks first step (n + 1) = marks first step n ++ [due first step n] := by simp [marks, List.range_succ]
theorem marks_rd (first step : Int) (n i : Nat) (h : i < n) : rdOf false (marks first step n) (i : Int) = due first step i := by
  unfold rdOf
  rw [Int.toNat_natCast, List.getD_eq_getElem?_getD, marks, List.getElem?_map, List.getElem?_range h]
  rfl

theorem margin_step (first step : Int) (n : Nat) (hn : n ≤ 300) (h1 : 1 ≤ first ∧ first ≤ 1000) (h2 : 1 ≤ step ∧ step ≤ 1000) (d : Nat) : ∀ (i : Nat), i + d = n →
    Ev (fun k => lineno_Margin.l0 k (lines n) first step (marks first step i ++ List.replicate d false) (lines n) (n : Int) i) (marks first step n) := by
  induction d with
  | zero =>
    intro i hi
    have e : i = n := by omega
    subst e
    refine Ev.step (f := fun _ => some _) (fun k => ?_) (Ev.now _)
    simp only [lineno_Margin.l0]
    rw [if_neg (by omega)]
    simp
  | succ d ih =>
    intro i hi
    have h := ih (i + 1) (by omega)
    have hset : ∀ b : Bool, b = due first step i → (marks first step i ++ List.replicate (d + 1) false).set (i : Int).toNat b = marks first step (i + 1) ++ List.replicate d false := by
      intro b hb
      rw [Int.toNat_natCast, List.set_append_right _ _ (by rw [marks_length]; omega), marks_length, Nat.sub_self, List.replicate_succ, List.set_cons_zero, marks_succ, List.append_assoc, hb]
      rfl
    refine Ev.step (f := fun k => lineno_Margin.l0 k (lines n) first step (marks first step (i + 1) ++ List.replicate d false) (lines n) (n : Int) ((i + 1 : Nat) : Int)) (fun k => ?_) h
    have hlen : (((marks first step i ++ List.replicate (d + 1) false).length : Nat) : Int) = n := by simp [marks_length]; omega
    simp only [lineno_Margin.l0]
    rw [hlen, lines_length, lines_rd n i (by omega), if_pos (by omega), if_pos (by omega), if_pos (by omega), if_pos (by omega)]
    dsimp only
    rw [if_pos rfl, if_pos (by omega), wrap_small (x := (i : Int) + 1) (by omega)]
    by_cases hf : (i : Int) + 1 ≥ first
    · rw [if_pos hf, if_neg (by omega), wrap_small (x := (i : Int) + 1 - first) (by omega), Int.tmod_eq_emod_of_nonneg (by omega)]
      by_cases hm : ((i : Int) + 1 - first) % step = 0
      · have hd : due first step i = true := by unfold due; simp [hm]; omega
        rw [if_pos hm]
        by_cases h0 : (i : Int) = 0
        · rw [if_pos h0, if_pos (by omega), hset true hd.symm]
          rfl
        · have e1 : wrap64 ((i : Int) - 1) = ((i - 1 : Nat) : Int) := by rw [wrap_small (by omega)]; omega
          rw [if_neg h0, e1, if_pos (by omega), if_pos (by omega), if_pos (by omega), lines_rd n (i - 1) (by omega)]
          dsimp only
          rw [hset _ (by rw [hd]; simp; omega)]
          rfl
      · have hd : due first step i = false := by unfold due; simp [hm]
        rw [if_neg hm, if_pos (by omega), hset false hd.symm]
        rfl
    · have hd : due first step i = false := by unfold due; simp; intro; omega
      rw [if_neg hf, if_pos (by omega), hset false hd.symm]
      rfl

theorem margin_ev (first step : Int) (n : Nat) (hn : n ≤ 300) (h1 : 1 ≤ first ∧ first ≤ 1000) (h2 : 1 ≤ step ∧ step ≤ 1000) : Ev (fun k => lineno_Margin.f k (lines n) first step) (marks first step n) := by
  have h := margin_step first step n hn h1 h2 n 0 (by omega)
  refine Ev.congr (fun k => ?_) h
  unfold lineno_Margin.f
  rw [lines_length, if_pos (by omega), if_pos (by omega), Int.toNat_natCast]
  rfl

theorem check_step (first step : Int) (n : Nat) (hn : n ≤ 300) (h1 : 1 ≤ first ∧ first ≤ 1000) (h2 : 1 ≤ step ∧ step ≤ 1000) (d : Nat) : ∀ (i : Nat) (u : Int), i + d = n → u ≥ i + 1 → u ≤ 2001 → u ≥ first → (u - first) % step = 0 → (u = first ∨ u - step ≤ i) →
    Ev (fun k => variorumlaw16_LinenoMargins.l1 k n step (marks first step n) u i) true := by
  induction d with
  | zero =>
    intro i u hi _ _ _ _ _
    refine Ev.step (f := fun _ => some true) (fun k => ?_) (Ev.now _)
    simp only [variorumlaw16_LinenoMargins.l1]
    rw [if_neg (by omega)]
  | succ d ih =>
    intro i u hi hu1 hu0 hu2 hu3 hu4
    have hb : due first step i = ((i : Int) + 1 == u) := by
      unfold due
      by_cases e : (i : Int) + 1 = u
      · rw [beq_iff_eq.2 e, e, decide_eq_true hu3, decide_eq_true hu2]; rfl
      · rw [beq_eq_false_iff_ne.2 e]
        by_cases hf : first ≤ (i : Int) + 1
        · have hm : ¬ ((i : Int) + 1 - first) % step = 0 := by
            intro hm
            have d1 := Int.dvd_of_emod_eq_zero hm
            have d2 := Int.dvd_of_emod_eq_zero hu3
            have d3 : step ∣ (u - first) - ((i : Int) + 1 - first) := Int.dvd_sub d2 d1
            have d4 := Int.emod_eq_zero_of_dvd d3
            rw [Int.emod_eq_of_lt (by omega) (by omega)] at d4
            omega
          simp [hm]
        · simp; intro; omega
    by_cases e : (i : Int) + 1 = u
    · have h := ih (i + 1) (u + step) (by omega) (by omega) (by omega) (by omega) (by rw [show u + step - first = (u - first) + step by omega, Int.add_emod_right]; exact hu3) (by omega)
      refine Ev.step (f := fun k => variorumlaw16_LinenoMargins.l1 k n step (marks first step n) (u + step) ((i + 1 : Nat) : Int)) (fun k => ?_) h
      simp only [variorumlaw16_LinenoMargins.l1]
      rw [marks_rd first step n i (by omega), marks_length, if_pos (by omega), if_pos (by omega), if_pos (by omega), wrap_small (x := (i : Int) + 1) (by omega), hb]
      rw [if_neg (by simp), if_pos (by simpa using e), wrap_small (by omega)]
      rfl
    · have h := ih (i + 1) u (by omega) (by omega) hu0 hu2 hu3 (by omega)
      refine Ev.step (f := fun k => variorumlaw16_LinenoMargins.l1 k n step (marks first step n) u ((i + 1 : Nat) : Int)) (fun k => ?_) h
      simp only [variorumlaw16_LinenoMargins.l1]
      rw [marks_rd first step n i (by omega), marks_length, if_pos (by omega), if_pos (by omega), if_pos (by omega), wrap_small (x := (i : Int) + 1) (by omega), hb]
      rw [if_neg (by simp), if_neg (by simpa using e)]
      rfl

theorem build_step (first step : Int) (n : Nat) (hn : n ≤ 300) (h1 : 1 ≤ first ∧ first ≤ 1000) (h2 : 1 ≤ step ∧ step ≤ 1000) (d : Nat) : ∀ (i : Nat), i + d = n →
    Ev (fun k => variorumlaw16_LinenoMargins.l0 k n first step (lines i) ((i : Int) + 1)) true := by
  induction d with
  | zero =>
    intro i hi
    have e : i = n := by omega
    subst e
    refine Ev.step (f := fun k => (lineno_Margin.f k (lines i) first step).bind fun t240 => (if (t240.length : Int) = (i : Int) then (variorumlaw16_LinenoMargins.l1 k i step t240 first 0) else (some false))) (fun k => ?_) (Ev.bind (margin_ev first step i hn h1 h2) ?_)
    · simp only [variorumlaw16_LinenoMargins.l0]
      rw [if_neg (by omega)]
    · simp only [marks_length, if_true]
      exact check_step first step i hn h1 h2 i 0 first (by omega) (by omega) (by omega) (by omega) (by simp) (by omega)
  | succ d ih =>
    intro i hi
    have h := ih (i + 1) (by omega)
    refine Ev.step (f := fun k => variorumlaw16_LinenoMargins.l0 k n first step (lines (i + 1)) (((i + 1 : Nat) : Int) + 1)) (fun k => ?_) h
    simp only [variorumlaw16_LinenoMargins.l0]
    rw [if_pos (by omega), if_pos (by rw [lines_length]; omega), wrap_small (by omega), ← lines_succ]
    rfl

theorem LinenoMargins : variorumlaw16_LinenoMargins.Pure := by
  intro n first step _ _ _
  refine Ev.rounds (g := fun k => variorumlaw16_LinenoMargins.f k n first step) ?_
  unfold variorumlaw16_LinenoMargins.f
  refine Ev.bind fixed_ev ?_
  simp only [if_true]
  have triv : Ev (fun k => variorumlaw16_LinenoMargins.j0 k n first step true) true := by
    refine Ev.step (f := fun k => (variorumlaw16_fixed.f k).bind fun t => some t) (fun k => ?_) (Ev.bind fixed_ev (Ev.now true))
    simp [variorumlaw16_LinenoMargins.j0]
  by_cases a1 : n < 0
  · simp only [if_pos a1]; exact triv
  by_cases a2 : n > 300
  · simp only [if_neg a1, if_pos a2]; exact triv
  by_cases a3 : first < 1
  · simp only [if_neg a1, if_neg a2, if_pos a3]; exact triv
  by_cases a4 : first > 1000
  · simp only [if_neg a1, if_neg a2, if_neg a3, if_pos a4]; exact triv
  by_cases a5 : step < 1
  · simp only [if_neg a1, if_neg a2, if_neg a3, if_neg a4, if_pos a5]; exact triv
  simp only [if_neg a1, if_neg a2, if_neg a3, if_neg a4, if_neg a5]
  by_cases a6 : step > 1000
  · simp only [decide_eq_true a6]; exact triv
  simp only [decide_eq_false a6]
  obtain ⟨m, rfl⟩ : ∃ m : Nat, n = m := ⟨n.toNat, by omega⟩
  have h := build_step first step m (by omega) (by omega) (by omega) m 0 (by omega)
  refine Ev.step (f := fun k => variorumlaw16_LinenoMargins.l0 k m first step (lines 0) (((0 : Nat) : Int) + 1)) (fun k => ?_) h
  simp [variorumlaw16_LinenoMargins.j0, lines]

end Go.Proofs.Ytbpomibholcpfaa.Pure

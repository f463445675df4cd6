/- PassesCircle: with as many passes as there are states (at most 200), Fix fails only where the way comes to a state twice, or leaves what is there. For every input. -/
import Derived.Test.YtnfbdjlpdbacgaaPAllx7
import Derived.Test.YtnfbdjlpdbacgaaPLib
namespace Go.Proofs.Ytnfbdjlpdbacgaa.Pure
open Go.RowKit Go.Proofs.Ytnfbdjlpdbacgaa.PAll Go.Proofs.YtnfbdjlpdbacgaaW.PrintWords Go.Proofs.YtnfbdjlpdbacgaaW.PrintLast Go.Proofs.YtnfbdjlpdbacgaaW.PrintMore

theorem rd_way' (l : List Int) (a : Int) (n i : Nat) (h : i < n) : rd ((List.range n).map (it l a)) (i : Int) = it l a i := by
  unfold rd
  rw [Int.toNat_natCast, List.getD_eq_getElem?_getD, List.getElem?_map, List.getElem?_range h]
  rfl

/-- Of more numbers below n than there are, two are the same. -/
theorem twice (n : Nat) : ∀ (f : Nat → Nat), (∀ i, i ≤ n → f i < n) → ∃ i j, i < j ∧ j ≤ n ∧ f i = f j := by
  induction n with
  | zero => intro f h; exact absurd (h 0 (Nat.le_refl _)) (by omega)
  | succ n ih =>
    intro f h
    by_cases hx : ∃ i, i ≤ n ∧ f i = f (n + 1)
    · obtain ⟨i, hi, e⟩ := hx
      exact ⟨i, n + 1, by omega, Nat.le_refl _, e⟩
    · have hne : ∀ i, i ≤ n → f i ≠ f (n + 1) := fun i hi e => hx ⟨i, hi, e⟩
      obtain ⟨i, j, h1, h2, h3⟩ := ih (fun i => if f i < f (n + 1) then f i else f i - 1) (fun i hi => by
        have a := h i (by omega)
        have b := h (n + 1) (Nat.le_refl _)
        have c := hne i hi
        split <;> omega)
      refine ⟨i, j, h1, by omega, ?_⟩
      have a := hne i (by omega)
      have b := hne j (by omega)
      split at h3 <;> split at h3 <;> omega

theorem circle_loop {l : List Int} {a : Int} {n : Nat} (hn : n ≤ 1000) (hall : ∀ i : Nat, i ≤ n → inb l (it l a i)) (hgo : ∀ i : Nat, i ≤ n → rd l (it l a i) ≠ it l a i)
    (htw : ∃ i j, i < j ∧ j ≤ n ∧ it l a i = it l a j) : Ev (fun k => variorumlaw24_PassesCircle.l0 k l ((List.range (n + 1)).map (it l a)) 0) true := by
  obtain ⟨i0, j0, h1, h2, h3⟩ := htw
  have inner : ∀ (d j i : Nat), i ≤ j → j ≤ n → j - i = d → (Ev (fun k => variorumlaw24_PassesCircle.l1 k l ((List.range (n + 1)).map (it l a)) j i) true) ∨ ((∀ q, i ≤ q → q < j → it l a j ≠ it l a q) ∧ (Ev (fun k => variorumlaw24_PassesCircle.l0 k l ((List.range (n + 1)).map (it l a)) ((j + 1 : Nat) : Int)) true → Ev (fun k => variorumlaw24_PassesCircle.l1 k l ((List.range (n + 1)).map (it l a)) j i) true)) := by
    intro d
    induction d with
    | zero =>
      intro j i hi hj hd
      refine .inr ⟨fun q _ _ => by omega, fun hx => ?_⟩
      refine Ev.step (f := fun k => variorumlaw24_PassesCircle.l0 k l ((List.range (n + 1)).map (it l a)) ((j + 1 : Nat) : Int)) (fun k => ?_) hx
      simp only [variorumlaw24_PassesCircle.l1]
      rw [if_neg (by omega), wrap_small (by omega)]
      rfl
    | succ d ih =>
      intro j i hi hj hd
      have e1 := rd_way' l a (n + 1) i (by omega)
      have e2 := rd_way' l a (n + 1) j (by omega)
      by_cases e : it l a j = it l a i
      · refine .inl (Ev.step (f := fun _ => some true) (fun k => ?_) (Ev.now true))
        simp only [variorumlaw24_PassesCircle.l1]
        rw [if_pos (by omega), if_pos (by omega), if_pos (by simp; omega), if_pos (by omega), if_pos (by simp; omega), e1, e2, if_pos e, if_pos (hall j hj).1, if_pos (hall j hj).2, bne_iff_ne.2 (hgo j hj)]
      · have stp : ∀ k, variorumlaw24_PassesCircle.l1 (k + 1) l ((List.range (n + 1)).map (it l a)) j i = variorumlaw24_PassesCircle.l1 k l ((List.range (n + 1)).map (it l a)) j ((i + 1 : Nat) : Int) := by
          intro k
          simp only [variorumlaw24_PassesCircle.l1]
          rw [if_pos (by omega), if_pos (by omega), if_pos (by simp; omega), if_pos (by omega), if_pos (by simp; omega), e1, e2, if_neg e, wrap_small (by omega)]
          rfl
        rcases ih j (i + 1) (by omega) hj (by omega) with h | ⟨h, g⟩
        · exact .inl (Ev.step stp h)
        · refine .inr ⟨fun q hq hq2 => ?_, fun hx => Ev.step stp (g hx)⟩
          by_cases hqi : q = i
          · subst hqi; exact e
          · exact h q (by omega) hq2
  have outer : ∀ (d j : Nat), j ≤ j0 → j0 - j = d → Ev (fun k => variorumlaw24_PassesCircle.l0 k l ((List.range (n + 1)).map (it l a)) j) true := by
    intro d
    induction d with
    | zero =>
      intro j hj hd
      have e : j = j0 := by omega
      subst e
      refine Ev.step (f := fun k => variorumlaw24_PassesCircle.l1 k l ((List.range (n + 1)).map (it l a)) j 0) (fun k => ?_) ?_
      · simp only [variorumlaw24_PassesCircle.l0]
        rw [if_pos (by simp; omega)]
      · rcases inner j j 0 (by omega) h2 (by omega) with h | ⟨h, _⟩
        · exact h
        · exact absurd h3.symm (h i0 (by omega) h1)
    | succ d ih =>
      intro j hj hd
      refine Ev.step (f := fun k => variorumlaw24_PassesCircle.l1 k l ((List.range (n + 1)).map (it l a)) j 0) (fun k => ?_) ?_
      · simp only [variorumlaw24_PassesCircle.l0]
        rw [if_pos (by simp; omega)]
      · rcases inner j j 0 (by omega) (by omega) (by omega) with h | ⟨_, g⟩
        · exact h
        · exact g (ih (j + 1) (by omega) (by omega))
  exact outer j0 0 (by omega) (by omega)

theorem PassesCircle : variorumlaw24_PassesCircle.Pure := by
  intro l a _ _ _ _
  refine Ev.rounds (g := fun k => variorumlaw24_PassesCircle.f k l a) ?_
  unfold variorumlaw24_PassesCircle.f
  refine Ev.bind fixed_ev ?_
  simp only [if_true]
  by_cases hl : (l.length : Int) > 200
  · simp only [decide_eq_true hl]
    refine Ev.step (f := fun k => (variorumlaw24_fixed.f k).bind fun t => some t) (fun k => ?_) (Ev.bind fixed_ev (Ev.now true))
    simp [variorumlaw24_PassesCircle.j0]
  · simp only [decide_eq_false hl]
    obtain ⟨m, r, hr, p, _⟩ := fix_ev l a (l.length : Int)
    refine Ev.step (f := fun k => (passes_Fix.f k l a (l.length : Int)).bind fun bt206 => (if bt206.2.2.1 = 0 then (some true) else ((passes_Way.f k l a (l.length : Int)).bind fun bt211 => (if bt206.2.2.1 = 1 then (some (bt211.2.1 == bt206.2.2.1 && (bt211.2.2 == bt206.2.2.2))) else (if bt211.2.1 = 0 then (variorumlaw24_PassesCircle.l0 k l bt211.1 0) else (some false)))))) (fun k => ?_) (Ev.bind p ?_)
    · simp [variorumlaw24_PassesCircle.j0]
    have hgo := hr.1
    have hmn : mn (l.length : Int) 1000 = (l.length : Int) := by unfold mn; rw [if_neg (by omega)]
    have hml : (m : Int) ≤ (l.length : Int) := by
      cases m with
      | zero => omega
      | succ m =>
        have := (hgo m (by omega)).2.2
        rw [hmn] at this
        omega
    rcases hr.2 with ⟨hin, hfix, rfl⟩ | ⟨hin, hfix, hmost, rfl⟩ | ⟨hout, rfl⟩
    · simp only [if_true]; exact Ev.now true
    · have em : m = l.length := by rw [hmn] at hmost; omega
      subst em
      have hall : ∀ j : Nat, (j : Int) ≤ (l.length : Int) → inb l (it l a j) := by
        intro j hj
        by_cases e : j = l.length
        · rw [e]; exact hin
        · exact (hgo j (by omega)).1
      have hne : ∀ j : Nat, j ≤ l.length → rd l (it l a j) ≠ it l a j := by
        intro j hj
        by_cases e : j = l.length
        · rw [e]; exact hfix
        · exact (hgo j (by omega)).2.1
      have hw : ways l a (l.length : Int) ((List.range (l.length + 1)).map (it l a), 0, 0) := .inr (.inl ⟨by omega, by omega, hall, by simp⟩)
      simp only [if_neg (show ¬ ((240 : Int) = 0) by decide), if_neg (show ¬ ((240 : Int) = 1) by decide)]
      refine Ev.bind (way_of_ways hw).1 ?_
      simp only [if_true]
      refine circle_loop (by omega) (fun i hi => hall i (by omega)) hne ?_
      obtain ⟨i, j, h1, h2, h3⟩ := twice l.length (fun i => (it l a i).toNat) (fun i hi => by
        have := hall i (by omega)
        unfold inb at this
        omega)
      refine ⟨i, j, h1, h2, ?_⟩
      have a1 := hall i (by omega)
      have a2 := hall j (by omega)
      unfold inb at a1 a2
      omega
    · have hw : ways l a (l.length : Int) ([], 1, it l a m) := .inr (.inr ⟨by omega, by omega, m, hml, fun j hj => (hgo j hj).1, hout, rfl⟩)
      simp only [if_neg (show ¬ ((1 : Int) = 0) by decide), if_true]
      refine Ev.bind (way_of_ways hw).1 ?_
      simp only [beq_self_eq_true, Bool.and_self]
      exact Ev.now true

end Go.Proofs.Ytnfbdjlpdbacgaa.Pure

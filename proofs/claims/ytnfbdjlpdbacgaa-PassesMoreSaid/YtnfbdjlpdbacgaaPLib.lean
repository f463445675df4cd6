/- Plain lemmas on the printed functions of the package passes: what Fix and Way come to, by the way's own states. -/
import Derived.Test.YtnfbdjlpdbacgaaPAllx4
namespace Go.Proofs.Ytnfbdjlpdbacgaa.Pure
open Go.RowKit Go.Proofs.Ytnfbdjlpdbacgaa.PAll Go.Proofs.YtnfbdjlpdbacgaaW.PrintWords Go.Proofs.YtnfbdjlpdbacgaaW.PrintLast Go.Proofs.YtnfbdjlpdbacgaaW.PrintMore

theorem Ev.unique {α : Type} {g : Nat → Option α} {r r' : α} (h : Ev g r) (h' : Ev g r') : r = r' := by
  obtain ⟨K, h⟩ := h
  obtain ⟨K', h'⟩ := h'
  have a := h (max K K') (by omega)
  have b := h' (max K K') (by omega)
  rw [a] at b
  exact Option.some.inj b

theorem wrap_small {x : Int} (h : -9223372036854775808 ≤ x ∧ x ≤ 9223372036854775807) : wrap64 x = x := by
  unfold wrap64
  omega

/-- The i-th state of the way from a. -/
def it (l : List Int) (a : Int) : Nat → Int
  | 0 => a
  | i + 1 => it l (rd l a) i
theorem it_succ (l : List Int) (a : Int) (i : Nat) : it l a (i + 1) = rd l (it l a i) := by
  induction i generalizing a with
  | zero => rfl
  | succ i ih => exact ih (rd l a)
theorem it_add (l : List Int) (a : Int) (i j : Nat) : it l a (i + j) = it l (it l a i) j := by
  induction i generalizing a with
  | zero => simp [it]
  | succ i ih => rw [Nat.succ_add_eq_add_succ, Nat.add_succ]; exact ih (rd l a)

def inb (l : List Int) (a : Int) : Prop := 0 ≤ a ∧ a < (l.length : Int)
instance (l : List Int) (a : Int) : Decidable (inb l a) := inferInstanceAs (Decidable (0 ≤ a ∧ a < (l.length : Int)))
theorem fix_l0 (k : Nat) (l : List Int) (a most n : Int) : passes_Fix.l0 (k + 1) l a most n = if inb l a then (if rd l a = a then some (a, n, 0, 0) else if n ≥ mn most 1000 then some (0, 0, 240, a) else passes_Fix.l0 k l (rd l a) most (wrap64 (n + 1))) else some (0, 0, 1, a) := rfl
theorem way_l0 (k : Nat) (x0 : List Int) (x1 x2 : Int) (x9 : List Int) : passes_Way.l0 (k + 1) x0 x1 x2 x9 = if inb x0 x1 then (if x9.length < 17592186044416 then (if ((x9 ++ [x1]).length : Int) > x2 then some (x9 ++ [x1], 0, 0) else passes_Way.l0 k x0 (rd x0 x1) x2 (x9 ++ [x1])) else none) else some (([] : List Int), 1, x1) := rfl

/-- A state from which a pass is made: there, not left as it is, passes left. -/
def goes (l : List Int) (most : Int) (n : Int) (a : Int) : Prop := inb l a ∧ rd l a ≠ a ∧ n < mn most 1000

theorem mn_le (a b : Int) : mn a b ≤ b := by unfold mn; split <;> omega

theorem fix_step {l : List Int} {a most n : Int} {r : Int × Int × Int × Int} (h0 : 0 ≤ n) (hg : goes l most n a)
    (h : Ev (fun k => passes_Fix.l0 k l (rd l a) most (n + 1)) r) : Ev (fun k => passes_Fix.l0 k l a most n) r := by
  obtain ⟨h1, h2, h3⟩ := hg
  have hb := mn_le most 1000
  refine Ev.step (f := fun k => passes_Fix.l0 k l (rd l a) most (n + 1)) (fun k => ?_) h
  rw [fix_l0]
  rw [if_pos h1, if_neg h2, if_neg (by omega), wrap_small (by omega)]

theorem ref_there {l : List Int} {a : Int} : variorumref24_There.f l a = some (decide (inb l a)) := by
  unfold variorumref24_There.f inb
  by_cases h : a ≥ 0
  · rw [if_pos h]; congr 1; exact decide_eq_decide.2 ⟨fun x => ⟨h, x⟩, fun x => x.2⟩
  · rw [if_neg h]; congr 1; symm; exact decide_eq_false (fun x => h x.1)

theorem ref_step {l : List Int} {a most n : Int} {r : Int × Int × Int × Int} (h0 : 0 ≤ n) (hg : goes l most n a)
    (h : Ev (fun k => variorumref24_Fix.l0 k l (rd l a) most (n + 1)) r) : Ev (fun k => variorumref24_Fix.l0 k l a most n) r := by
  obtain ⟨h1, h2, h3⟩ := hg
  have hb := mn_le most 1000
  have hm : mn most 1000 ≤ most := by unfold mn; split <;> omega
  refine Ev.step (f := fun k => variorumref24_Fix.j1 k l a most n true) (fun k => ?_) (Ev.step (f := fun k => variorumref24_Fix.l0 k l (rd l a) most (n + 1)) (fun k => ?_) h)
  · simp only [variorumref24_Fix.l0]
    rw [ref_there, decide_eq_true h1]
    simp only [Option.bind_some, if_true]
    rw [if_pos h1.1, if_pos h1.2, bne_iff_ne.2 h2]
  · simp only [variorumref24_Fix.j1]
    rw [if_pos trivial, if_neg (by omega), if_neg (by omega), if_pos h1.1, if_pos h1.2, wrap_small (by omega)]

/-- Where the way stops, and what is told there. -/
def stops (l : List Int) (most n a : Int) (r : Int × Int × Int × Int) : Prop :=
  (inb l a ∧ rd l a = a ∧ r = (a, n, 0, 0)) ∨ (inb l a ∧ rd l a ≠ a ∧ mn most 1000 ≤ n ∧ r = (0, 0, 240, a)) ∨ (¬ inb l a ∧ r = (0, 0, 1, a))

theorem fix_stops {l : List Int} {a most n : Int} {r : Int × Int × Int × Int} (h : stops l most n a r) : Ev (fun k => passes_Fix.l0 k l a most n) r := by
  refine Ev.step (f := fun _ => some r) (fun k => ?_) (Ev.now r)
  rw [fix_l0]
  rcases h with ⟨h1, h2, rfl⟩ | ⟨h1, h2, h3, rfl⟩ | ⟨h1, rfl⟩
  · rw [if_pos h1, if_pos h2]
  · rw [if_pos h1, if_neg h2, if_pos (by omega)]
  · rw [if_neg h1]

theorem ref_stops {l : List Int} {a most n : Int} {r : Int × Int × Int × Int} (h : stops l most n a r) : Ev (fun k => variorumref24_Fix.l0 k l a most n) r := by
  rcases h with ⟨h1, h2, rfl⟩ | ⟨h1, h2, h3, rfl⟩ | ⟨h1, rfl⟩
  · refine Ev.step (f := fun k => variorumref24_Fix.j1 k l a most n false) (fun k => ?_) (Ev.step (f := fun _ => some _) (fun k => ?_) (Ev.now _))
    · simp only [variorumref24_Fix.l0]
      rw [ref_there, decide_eq_true h1]
      simp only [Option.bind_some, if_true]
      rw [if_pos h1.1, if_pos h1.2, bne_eq_false_iff_eq.2 h2]
    · simp only [variorumref24_Fix.j1]
      rw [ref_there, decide_eq_true h1]
      simp
  · refine Ev.step (f := fun k => variorumref24_Fix.j1 k l a most n true) (fun k => ?_) (Ev.step (f := fun _ => some _) (fun k => ?_) (Ev.now _))
    · simp only [variorumref24_Fix.l0]
      rw [ref_there, decide_eq_true h1]
      simp only [Option.bind_some, if_true]
      rw [if_pos h1.1, if_pos h1.2, bne_iff_ne.2 h2]
    · simp only [variorumref24_Fix.j1]
      rw [if_pos trivial]
      have : n ≥ most ∨ n ≥ 1000 := by unfold mn at h3; split at h3 <;> omega
      by_cases h4 : n ≥ most
      · rw [if_pos h4]
      · rw [if_neg h4, if_pos (by omega)]
  · refine Ev.step (f := fun k => variorumref24_Fix.j1 k l a most n false) (fun k => ?_) (Ev.step (f := fun _ => some _) (fun k => ?_) (Ev.now _))
    · simp only [variorumref24_Fix.l0]
      rw [ref_there, decide_eq_false h1]
      simp
    · simp only [variorumref24_Fix.j1]
      rw [ref_there, decide_eq_false h1]
      simp

/-- m passes are made, and there the way stops. -/
def runs (l : List Int) (most n a : Int) (m : Nat) (r : Int × Int × Int × Int) : Prop :=
  (∀ i, i < m → goes l most (n + i) (it l a i)) ∧ stops l most (n + m) (it l a m) r

theorem fix_runs {l : List Int} {most : Int} {r : Int × Int × Int × Int} (m : Nat) : ∀ (n a : Int), 0 ≤ n → runs l most n a m r →
    Ev (fun k => passes_Fix.l0 k l a most n) r ∧ Ev (fun k => variorumref24_Fix.l0 k l a most n) r := by
  induction m with
  | zero =>
    intro n a h0 h
    have hs : stops l most n a r := by have := h.2; simpa [it] using this
    exact ⟨fix_stops hs, ref_stops hs⟩
  | succ m ih =>
    intro n a h0 h
    have hg : goes l most n a := by have := h.1 0 (by omega); simpa [it] using this
    have hr : runs l most (n + 1) (rd l a) m r := by
      refine ⟨fun i hi => ?_, ?_⟩
      · have := h.1 (i + 1) (by omega)
        have e : n + 1 + (i : Int) = n + ((i + 1 : Nat) : Int) := by omega
        rw [e]; exact this
      · have := h.2
        have e : n + 1 + (m : Int) = n + ((m + 1 : Nat) : Int) := by omega
        rw [e]; exact this
    obtain ⟨p, q⟩ := ih (n + 1) (rd l a) (by omega) hr
    exact ⟨fix_step h0 hg p, ref_step h0 hg q⟩

theorem some_runs (l : List Int) (most : Int) (d : Nat) : ∀ (n a : Int), 0 ≤ n → (mn most 1000 - n).toNat ≤ d → ∃ m r, runs l most n a m r := by
  induction d with
  | zero =>
    intro n a h0 hd
    by_cases h1 : inb l a
    · by_cases h2 : rd l a = a
      · exact ⟨0, _, ⟨fun i hi => by omega, .inl ⟨by simpa [it] using h1, by simpa [it] using h2, rfl⟩⟩⟩
      · exact ⟨0, _, ⟨fun i hi => by omega, .inr (.inl ⟨by simpa [it] using h1, by simpa [it] using h2, by omega, rfl⟩)⟩⟩
    · exact ⟨0, _, ⟨fun i hi => by omega, .inr (.inr ⟨by simpa [it] using h1, rfl⟩)⟩⟩
  | succ d ih =>
    intro n a h0 hd
    by_cases hg : goes l most n a
    · obtain ⟨m, r, hr⟩ := ih (n + 1) (rd l a) (by omega) (by omega)
      refine ⟨m + 1, r, ⟨fun i hi => ?_, ?_⟩⟩
      · cases i with
        | zero => simpa [it] using hg
        | succ i =>
          have := hr.1 i (by omega)
          have e : n + 1 + (i : Int) = n + ((i + 1 : Nat) : Int) := by omega
          rw [e] at this; exact this
      · have := hr.2
        have e : n + 1 + (m : Int) = n + ((m + 1 : Nat) : Int) := by omega
        rw [e] at this; exact this
    · by_cases h1 : inb l a
      · by_cases h2 : rd l a = a
        · exact ⟨0, _, ⟨fun i hi => by omega, .inl ⟨by simpa [it] using h1, by simpa [it] using h2, rfl⟩⟩⟩
        · have : ¬ n < mn most 1000 := fun h3 => hg ⟨h1, h2, h3⟩
          exact ⟨0, _, ⟨fun i hi => by omega, .inr (.inl ⟨by simpa [it] using h1, by simpa [it] using h2, by simpa using (by omega : mn most 1000 ≤ n), rfl⟩)⟩⟩
      · exact ⟨0, _, ⟨fun i hi => by omega, .inr (.inr ⟨by simpa [it] using h1, rfl⟩)⟩⟩

/-- Fix, from the first state on: by how many passes, and what it tells. -/
theorem fix_ev (l : List Int) (a most : Int) : ∃ m r, runs l most 0 a m r ∧ Ev (fun k => passes_Fix.f k l a most) r ∧ Ev (fun k => variorumref24_Fix.f k l a most) r := by
  obtain ⟨m, r, h⟩ := some_runs l most (mn most 1000 - 0).toNat 0 a (Int.le_refl _) (Nat.le_refl _)
  obtain ⟨p, q⟩ := fix_runs m 0 a (Int.le_refl _) h
  exact ⟨m, r, h, p, q⟩

theorem fix_of_runs {l : List Int} {a most : Int} {m : Nat} {r : Int × Int × Int × Int} (h : runs l most 0 a m r) : Ev (fun k => passes_Fix.f k l a most) r :=
  (fix_runs m 0 a (Int.le_refl _) h).1

theorem fixed_ev : Ev (fun k => variorumlaw24_fixed.f k) true := Ev.of variorumlaw24_fixed.mono (k := 30) (by decide +kernel)

/-! Way -/
theorem list_it_succ (l : List Int) (a : Int) (n : Nat) : (List.range (n + 1)).map (it l a) = (List.range n).map (it l a) ++ [it l a n] := by
  rw [List.range_succ, List.map_append]; rfl

/-- All states up to the last one are there. -/
theorem way_goes {l : List Int} {a s : Int} (d : Nat) : ∀ (i : Nat), (s - i).toNat = d → (i : Int) ≤ s → s ≤ 1000 → (∀ j : Nat, (j : Int) ≤ s → inb l (it l a j)) →
    Ev (fun k => passes_Way.l0 k l (it l a i) s ((List.range i).map (it l a))) ((List.range (s.toNat + 1)).map (it l a), 0, 0) ∧
    Ev (fun k => variorumref24_Way.l0 k l (it l a i) s ((List.range i).map (it l a)) i) ((List.range (s.toNat + 1)).map (it l a), 0, 0) := by
  induction d with
  | zero =>
    intro i hd hi hs hall
    have hin := hall i hi
    have e : i = s.toNat := by omega
    constructor
    · refine Ev.step (f := fun _ => some _) (fun k => ?_) (Ev.now _)
      rw [way_l0]
      rw [if_pos hin, if_pos (by simp; omega), if_pos (by simp; omega), ← list_it_succ, e]
    · refine Ev.step (f := fun k => variorumref24_Way.l0 k l (rd l (it l a i)) s ((List.range (i + 1)).map (it l a)) ((i : Int) + 1)) (fun k => ?_) (Ev.step (f := fun _ => some _) (fun k => ?_) (Ev.now _))
      · simp only [variorumref24_Way.l0]
        rw [if_pos (by omega), ref_there, decide_eq_true hin]
        simp only [Option.bind_some, if_true]
        rw [if_pos (by simp; omega), if_pos hin.1, if_pos hin.2, ← list_it_succ, wrap_small (by omega)]
      · simp only [variorumref24_Way.l0]
        rw [if_neg (by omega), e]
  | succ d ih =>
    intro i hd hi hs hall
    have hin := hall i hi
    obtain ⟨p, q⟩ := ih (i + 1) (by omega) (by omega) hs hall
    rw [it_succ] at p q
    constructor
    · refine Ev.step (f := fun k => passes_Way.l0 k l (rd l (it l a i)) s ((List.range (i + 1)).map (it l a))) (fun k => ?_) p
      rw [way_l0]
      rw [if_pos hin, if_pos (by simp; omega), if_neg (by simp; omega), ← list_it_succ]
    · refine Ev.step (f := fun k => variorumref24_Way.l0 k l (rd l (it l a i)) s ((List.range (i + 1)).map (it l a)) ((i + 1 : Nat) : Int)) (fun k => ?_) q
      simp only [variorumref24_Way.l0]
      rw [if_pos (by omega), ref_there, decide_eq_true hin]
      simp only [Option.bind_some, if_true]
      rw [if_pos (by simp; omega), if_pos hin.1, if_pos hin.2, ← list_it_succ, wrap_small (by omega)]
      rfl

/-- A state is not there. -/
theorem way_leaves {l : List Int} {a s : Int} (m : Nat) (hm : (m : Int) ≤ s) (hs : s ≤ 1000) (hall : ∀ j, j < m → inb l (it l a j)) (hout : ¬ inb l (it l a m)) (d : Nat) : ∀ (i : Nat), i ≤ m → m - i = d →
    Ev (fun k => passes_Way.l0 k l (it l a i) s ((List.range i).map (it l a))) ([], 1, it l a m) ∧
    Ev (fun k => variorumref24_Way.l0 k l (it l a i) s ((List.range i).map (it l a)) i) ([], 1, it l a m) := by
  induction d with
  | zero =>
    intro i hi hd
    have e : i = m := by omega
    subst e
    constructor
    · refine Ev.step (f := fun _ => some _) (fun k => ?_) (Ev.now _)
      rw [way_l0]
      rw [if_neg hout]
    · refine Ev.step (f := fun _ => some _) (fun k => ?_) (Ev.now _)
      simp only [variorumref24_Way.l0]
      rw [if_pos (by omega), ref_there, decide_eq_false hout]
      simp
  | succ d ih =>
    intro i hi hd
    have hin := hall i (by omega)
    obtain ⟨p, q⟩ := ih (i + 1) (by omega) (by omega)
    rw [it_succ] at p q
    constructor
    · refine Ev.step (f := fun k => passes_Way.l0 k l (rd l (it l a i)) s ((List.range (i + 1)).map (it l a))) (fun k => ?_) p
      rw [way_l0]
      rw [if_pos hin, if_pos (by simp; omega), if_neg (by simp; omega), ← list_it_succ]
    · refine Ev.step (f := fun k => variorumref24_Way.l0 k l (rd l (it l a i)) s ((List.range (i + 1)).map (it l a)) ((i + 1 : Nat) : Int)) (fun k => ?_) q
      simp only [variorumref24_Way.l0]
      rw [if_pos (by omega), ref_there, decide_eq_true hin]
      simp only [Option.bind_some, if_true]
      rw [if_pos (by simp; omega), if_pos hin.1, if_pos hin.2, ← list_it_succ, wrap_small (by omega)]
      rfl

/-- What Way tells: its own kinds of answers. -/
def ways (l : List Int) (a s : Int) (r : List Int × Int × Int) : Prop :=
  ((s < 0 ∨ s > 1000) ∧ r = ([], 1, -1)) ∨ (0 ≤ s ∧ s ≤ 1000 ∧ (∀ j : Nat, (j : Int) ≤ s → inb l (it l a j)) ∧ r = ((List.range (s.toNat + 1)).map (it l a), 0, 0)) ∨
  (0 ≤ s ∧ s ≤ 1000 ∧ ∃ m : Nat, (m : Int) ≤ s ∧ (∀ j : Nat, j < m → inb l (it l a j)) ∧ ¬ inb l (it l a m) ∧ r = ([], 1, it l a m))

theorem way_of_ways {l : List Int} {a s : Int} {r : List Int × Int × Int} (h : ways l a s r) : Ev (fun k => passes_Way.f k l a s) r ∧ Ev (fun k => variorumref24_Way.f k l a s) r := by
  rcases h with ⟨h, rfl⟩ | ⟨h0, h1, h2, rfl⟩ | ⟨h0, h1, m, h2, h3, h4, rfl⟩
  · constructor
    · refine ⟨0, fun k _ => ?_⟩
      show passes_Way.f k l a s = _
      unfold passes_Way.f
      by_cases h1 : s < 0
      · rw [if_pos h1]
      · rw [if_neg h1, if_pos (by omega)]
    · refine ⟨1, fun k hk => ?_⟩
      obtain ⟨k, rfl⟩ : ∃ m, k = m + 1 := ⟨k - 1, by omega⟩
      show variorumref24_Way.f (k + 1) l a s = _
      unfold variorumref24_Way.f
      by_cases h1 : s < 0
      · rw [if_pos h1]; simp [variorumref24_Way.j0]
      · rw [if_neg h1, decide_eq_true (by omega : s > 1000)]; simp [variorumref24_Way.j0]
  all_goals
    obtain ⟨p, q⟩ := (by first | exact way_goes (a := a) (s - (0 : Nat)).toNat 0 rfl (by omega) h1 h2 | exact way_leaves (a := a) m h2 h1 h3 h4 m 0 (by omega) (by omega) : Ev (fun k => passes_Way.l0 k l (it l a 0) s ((List.range 0).map (it l a))) _ ∧ Ev (fun k => variorumref24_Way.l0 k l (it l a 0) s ((List.range 0).map (it l a)) ((0 : Nat) : Int)) _)
    constructor
    · refine Ev.congr (fun k => ?_) p
      unfold passes_Way.f
      rw [if_neg (by omega), if_neg (by omega)]
      rfl
    · refine Ev.step (f := fun k => variorumref24_Way.l0 k l a s [] 0) (fun k => ?_) q
      unfold variorumref24_Way.f
      rw [if_neg (by omega), decide_eq_false (by omega : ¬ s > 1000)]
      simp [variorumref24_Way.j0]

theorem first_out (P : Nat → Prop) [DecidablePred P] (n : Nat) : (∀ j, j ≤ n → P j) ∨ ∃ m, m ≤ n ∧ (∀ j, j < m → P j) ∧ ¬ P m := by
  induction n with
  | zero =>
    by_cases h : P 0
    · exact .inl (fun j hj => by have : j = 0 := by omega
                                 subst this; exact h)
    · exact .inr ⟨0, Nat.le_refl _, fun j hj => by omega, h⟩
  | succ n ih =>
    rcases ih with h | ⟨m, h1, h2, h3⟩
    · by_cases hn : P (n + 1)
      · refine .inl (fun j hj => ?_)
        by_cases e : j = n + 1
        · subst e; exact hn
        · exact h j (by omega)
      · exact .inr ⟨n + 1, Nat.le_refl _, fun j hj => h j (by omega), hn⟩
    · exact .inr ⟨m, by omega, h2, h3⟩

theorem some_ways (l : List Int) (a s : Int) : ∃ r, ways l a s r := by
  by_cases h : s < 0 ∨ s > 1000
  · exact ⟨_, .inl ⟨h, rfl⟩⟩
  · rcases first_out (fun j => inb l (it l a j)) s.toNat with h1 | ⟨m, h1, h2, h3⟩
    · exact ⟨_, .inr (.inl ⟨by omega, by omega, fun j hj => h1 j (by omega), rfl⟩)⟩
    · exact ⟨_, .inr (.inr ⟨by omega, by omega, m, by omega, h2, h3, rfl⟩)⟩

theorem way_ev (l : List Int) (a s : Int) : ∃ r, ways l a s r ∧ Ev (fun k => passes_Way.f k l a s) r ∧ Ev (fun k => variorumref24_Way.f k l a s) r := by
  obtain ⟨r, h⟩ := some_ways l a s
  exact ⟨r, h, way_of_ways h⟩

/-- A list is the same as itself. -/
theorem ints_same (xs : List Int) (hn : (xs.length : Int) ≤ 9223372036854775806) : Ev (fun k => variorumref04_Ints.f k xs xs) true := by
  have key : ∀ (d : Nat) (i : Int), 0 ≤ i → i ≤ xs.length → ((xs.length : Int) - i).toNat = d → Ev (fun k => variorumref04_Ints.l0 k xs xs i) true := by
    intro d
    induction d with
    | zero =>
      intro i h0 h1 hd
      refine Ev.step (f := fun _ => some true) (fun k => ?_) (Ev.now _)
      simp only [variorumref04_Ints.l0]
      rw [if_neg (by omega)]
    | succ d ih =>
      intro i h0 h1 hd
      refine Ev.step (f := fun k => variorumref04_Ints.l0 k xs xs (i + 1)) (fun k => ?_) (ih (i + 1) (by omega) (by omega) (by omega))
      simp only [variorumref04_Ints.l0]
      rw [if_pos (by omega), if_pos h0, if_pos (by omega), if_pos trivial, wrap_small (by omega)]
  refine Ev.congr (fun k => ?_) (key xs.length 0 (Int.le_refl _) (by omega) (by omega))
  unfold variorumref04_Ints.f
  rw [if_pos rfl]

end Go.Proofs.Ytnfbdjlpdbacgaa.Pure

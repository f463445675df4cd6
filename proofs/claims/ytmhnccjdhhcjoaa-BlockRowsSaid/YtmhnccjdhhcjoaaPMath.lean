/- Plain mathematics of columns: greedy filling is the farthest way to part heights; the least height of so many columns. -/
import Derived.Test.YtmhnccjdhhcjoaaPLib
namespace Go.Proofs.Ytmhnccjdhhcjoaa.Pure
set_option linter.unusedVariables false
set_option linter.unusedSimpArgs false
open Go.RowKit Go.Proofs.Ytmhnccjdhhcjoaa.PAll Go.Proofs.YtmhnccjdhhcjoaaW.PrintWords Go.Proofs.YtmhnccjdhhcjoaaW.PrintLast Go.Proofs.YtmhnccjdhhcjoaaW.PrintMore

/-- Where a column that begins at a0 ends, from a on. -/
def stop (h : List Int) (room : Int) (a0 : Nat) : Nat → Nat → Nat
  | 0, a => a
  | d + 1, a => if pre h (a + 1) - pre h a0 ≤ room then stop h room a0 d (a + 1) else a
def nxt (h : List Int) (room : Int) (a0 : Nat) : Nat := stop h room a0 (h.length - a0) a0
theorem stop_spec (h : List Int) (room : Int) (a0 : Nat) (d : Nat) : ∀ a, a + d = h.length → a0 ≤ a → (a = a0 ∨ pre h a - pre h a0 ≤ room) →
    a ≤ stop h room a0 d a ∧ stop h room a0 d a ≤ h.length ∧ (stop h room a0 d a = a0 ∨ pre h (stop h room a0 d a) - pre h a0 ≤ room) ∧ (stop h room a0 d a < h.length → ¬ pre h (stop h room a0 d a + 1) - pre h a0 ≤ room) := by
  induction d with
  | zero => intro a h1 h2 h3; exact ⟨Nat.le_refl _, by show a ≤ _; omega, h3, fun hlt => absurd hlt (by show ¬ a < _; omega)⟩
  | succ d ih =>
    intro a h1 h2 h3
    unfold stop
    by_cases c : pre h (a + 1) - pre h a0 ≤ room
    · rw [if_pos c]
      obtain ⟨g1, g2, g3, g4⟩ := ih (a + 1) (by omega) (by omega) (.inr c)
      exact ⟨by omega, g2, g3, g4⟩
    · rw [if_neg c]
      exact ⟨Nat.le_refl _, by omega, h3, fun _ => c⟩
theorem nxt_spec (h : List Int) (room : Int) (a0 : Nat) (ha : a0 ≤ h.length) :
    a0 ≤ nxt h room a0 ∧ nxt h room a0 ≤ h.length ∧ (nxt h room a0 = a0 ∨ pre h (nxt h room a0) - pre h a0 ≤ room) ∧ (nxt h room a0 < h.length → ¬ pre h (nxt h room a0 + 1) - pre h a0 ≤ room) :=
  stop_spec h room a0 _ a0 (by omega) (Nat.le_refl _) (.inl rfl)
theorem nxt_max {h : List Int} (hn : NN h) (room : Int) (a0 b : Nat) (ha : a0 ≤ b) (hb : b ≤ h.length) (hr : b = a0 ∨ pre h b - pre h a0 ≤ room) : b ≤ nxt h room a0 := by
  obtain ⟨g1, g2, g3, g4⟩ := nxt_spec h room a0 (by omega)
  rcases hr with rfl | hr
  · exact g1
  · apply Nat.le_of_not_lt
    intro hlt
    have := g4 (by omega)
    have := pre_mono hn (show nxt h room a0 + 1 ≤ b by omega)
    omega

/-- Where so many columns end. -/
def pos (h : List Int) (room : Int) : Nat → Nat
  | 0 => 0
  | c + 1 => nxt h room (pos h room c)
theorem pos_le (h : List Int) (room : Int) (c : Nat) : pos h room c ≤ h.length := by
  induction c with
  | zero => exact Nat.zero_le _
  | succ c ih => exact (nxt_spec h room _ ih).2.1
theorem pos_step (h : List Int) (room : Int) (c : Nat) : pos h room c ≤ pos h room (c + 1) := (nxt_spec h room _ (pos_le h room c)).1
theorem pos_room (h : List Int) (room : Int) (c : Nat) : pos h room (c + 1) = pos h room c ∨ pre h (pos h room (c + 1)) - pre h (pos h room c) ≤ room := (nxt_spec h room _ (pos_le h room c)).2.2.1
theorem pos_full (h : List Int) (room : Int) (c : Nat) (hl : pos h room (c + 1) < h.length) : ¬ pre h (pos h room (c + 1) + 1) - pre h (pos h room c) ≤ room := (nxt_spec h room _ (pos_le h room c)).2.2.2 hl
/-- With more room no column ends earlier. -/
theorem pos_more {h : List Int} (hn : NN h) (r s : Int) (hrs : r ≤ s) (c : Nat) : pos h r c ≤ pos h s c := by
  induction c with
  | zero => exact Nat.le_refl _
  | succ c ih =>
    by_cases hb : pos h r (c + 1) ≤ pos h s c
    · exact Nat.le_trans hb (pos_step h s c)
    · refine nxt_max hn s _ _ (by omega) (pos_le h r (c + 1)) (.inr ?_)
      rcases pos_room h r c with e | e
      · omega
      · have := pre_mono hn ih; omega

/-- The first i heights can be parted into c columns, none higher than m. -/
def Part (h : List Int) (m : Int) : Nat → Nat → Prop
  | 0, i => i = 0
  | c + 1, i => ∃ k, k ≤ i ∧ Part h m c k ∧ pre h i - pre h k ≤ m
theorem part_pos {h : List Int} (hn : NN h) (m : Int) (c : Nat) : ∀ i, i ≤ h.length → Part h m c i → i ≤ pos h m c := by
  induction c with
  | zero => intro i _ hp; exact Nat.le_of_eq hp
  | succ c ih =>
    rintro i hi ⟨k, hk, hp, hr⟩
    have := ih k (by omega) hp
    by_cases hb : i ≤ pos h m c
    · exact Nat.le_trans hb (pos_step h m c)
    · refine nxt_max hn m _ _ (by omega) hi (.inr ?_)
      have := pre_mono hn this; omega
theorem pos_part (h : List Int) (m : Int) (hm : 0 ≤ m) (c : Nat) : Part h m c (pos h m c) := by
  induction c with
  | zero => rfl
  | succ c ih =>
    refine ⟨pos h m c, pos_step h m c, ih, ?_⟩
    rcases pos_room h m c with e | e
    · rw [e]; omega
    · exact e
theorem part_less {h : List Int} (hn : NN h) (m : Int) (c : Nat) : ∀ i j, j ≤ i → Part h m c i → Part h m c j := by
  induction c with
  | zero => intro i j hj hp; have : i = 0 := hp; show j = 0; omega
  | succ c ih =>
    rintro i j hj ⟨k, hk, hp, hr⟩
    by_cases hkj : k ≤ j
    · exact ⟨k, hkj, hp, by have := pre_mono hn hj; omega⟩
    · exact ⟨j, Nat.le_refl _, ih k j (by omega) hp, by have := pre_mono hn (show k ≤ i from hk); have := pre_mono hn hj; omega⟩
theorem part_iff {h : List Int} (hn : NN h) (m : Int) (hm : 0 ≤ m) (c : Nat) : Part h m c h.length ↔ h.length ≤ pos h m c :=
  ⟨part_pos hn m c _ (Nat.le_refl _), fun hp => part_less hn m c _ _ hp (pos_part h m hm c)⟩
theorem part_mono {h : List Int} {m m' : Int} (hm : m ≤ m') (c : Nat) : ∀ i, Part h m c i → Part h m' c i := by
  induction c with
  | zero => intro i hp; exact hp
  | succ c ih => rintro i ⟨k, hk, hp, hr⟩; exact ⟨k, hk, ih k hp, by omega⟩
theorem part_more {h : List Int} {m : Int} (hm : 0 ≤ m) (c i : Nat) (hp : Part h m c i) : Part h m (c + 1) i := ⟨i, Nat.le_refl _, hp, by omega⟩
theorem part_each {h : List Int} (hn : NN h) {m : Int} (c : Nat) : ∀ i, Part h m c i → ∀ q, q < i → rd h (q : Int) ≤ m := by
  induction c with
  | zero => intro i hp q hq; have : i = 0 := hp; omega
  | succ c ih =>
    rintro i ⟨k, hk, hp, hr⟩ q hq
    by_cases hqk : q < k
    · exact ih k hp q hqk
    · have h1 := pre_mono hn (show k ≤ q by omega)
      have h2 := pre_mono hn (show q + 1 ≤ i by omega)
      have e : pre h (q + 1) = pre h q + rd h (q : Int) := rfl
      omega
theorem part_sum {h : List Int} {m : Int} (c : Nat) : ∀ i, Part h m c i → pre h i ≤ m * (c : Int) := by
  induction c with
  | zero => intro i hp; have : i = 0 := hp; subst this; simp [pre]
  | succ c ih =>
    rintro i ⟨k, hk, hp, hr⟩
    have := ih k hp
    have e : m * ((c + 1 : Nat) : Int) = m * (c : Int) + m := by rw [Int.natCast_succ, Int.mul_add, Int.mul_one]
    omega

/-- The least height of c columns of the first i heights. -/
structure IsL (h : List Int) (c i : Nat) (v : Int) : Prop where
  nn : 0 ≤ v
  is : Part h v c i
  least : ∀ m, 0 ≤ m → Part h m c i → v ≤ m
theorem IsL.uniq {h : List Int} {c i : Nat} {v w : Int} (a : IsL h c i v) (b : IsL h c i w) : v = w := by
  have := a.least w b.nn b.is
  have := b.least v a.nn a.is
  omega
theorem isL_exists (h : List Int) (c i : Nat) (n : Nat) : Part h n c i → ∃ v, IsL h c i v ∧ v ≤ n := by
  induction n with
  | zero => intro hp; exact ⟨0, ⟨Int.le_refl _, hp, fun m hm _ => hm⟩, Int.le_refl _⟩
  | succ n ih =>
    intro hp
    by_cases hq : Part h (n : Int) c i
    · obtain ⟨v, hv, hle⟩ := ih hq; exact ⟨v, hv, by omega⟩
    · refine ⟨((n + 1 : Nat) : Int), ⟨by omega, hp, fun m hm hpm => ?_⟩, Int.le_refl _⟩
      apply Int.not_lt.1
      intro hlt
      exact hq (part_mono (by omega) c i hpm)
theorem part_one {h : List Int} (hn : NN h) (c i : Nat) (m : Int) (hm : pre h i ≤ m) : Part h m (c + 1) i := by
  induction c generalizing i with
  | zero => exact ⟨0, Nat.zero_le _, rfl, by have : pre h 0 = 0 := rfl; omega⟩
  | succ c ih =>
    have := pre_nonneg hn i
    exact part_more (by omega) _ _ (ih i hm)
theorem isL_one {h : List Int} (hn : NN h) (i : Nat) : IsL h 1 i (pre h i) := by
  refine ⟨pre_nonneg hn i, part_one hn 0 i _ (Int.le_refl _), fun m _ hp => ?_⟩
  obtain ⟨k, _, hk, hr⟩ := hp
  have : k = 0 := hk
  subst this
  have e : pre h 0 = 0 := rfl
  omega

/-- How many stand in each column. -/
def diff (h : List Int) (room : Int) (j : Nat) : Int := ((pos h room (j + 1) - pos h room j : Nat) : Int)
def counts (h : List Int) (room : Int) (c : Nat) : List Int := (List.range c).map (diff h room)
theorem counts_length (h : List Int) (room : Int) (c : Nat) : (counts h room c).length = c := by simp [counts]
theorem counts_succ (h : List Int) (room : Int) (c : Nat) : counts h room (c + 1) = counts h room c ++ [diff h room c] := by simp [counts, List.range_succ]
theorem counts_rd (h : List Int) (room : Int) (c j : Nat) (hj : j < c) : rd (counts h room c) (j : Int) = diff h room j := by
  rw [rd_nat, List.getD_eq_getElem?_getD, counts, List.getElem?_map, List.getElem?_range hj]
  rfl

/-- A cut of the heights. -/
theorem cut_rd (h : List Int) (a b i : Nat) (hb : b ≤ h.length) (hi : a + i < b) : rd ((h.take b).drop a) (i : Int) = rd h ((a + i : Nat) : Int) := by
  rw [rd_nat, rd_nat, List.getD_eq_getElem?_getD, List.getD_eq_getElem?_getD, List.getElem?_drop, List.getElem?_take_of_lt hi]
theorem cut_pre (h : List Int) (a b j : Nat) (hb : b ≤ h.length) (hj : a + j ≤ b) : pre ((h.take b).drop a) j = pre h (a + j) - pre h a := by
  induction j with
  | zero => show (0 : Int) = _; rw [Nat.add_zero]; omega
  | succ j ih =>
    have e : pre h (a + (j + 1)) = pre h (a + j) + rd h ((a + j : Nat) : Int) := rfl
    have e2 : pre ((h.take b).drop a) (j + 1) = pre ((h.take b).drop a) j + rd ((h.take b).drop a) (j : Int) := rfl
    rw [e2, ih (by omega), e, cut_rd h a b j hb (by omega)]
    omega
theorem cut_sum {h : List Int} {cols : Int} (o : Ok h cols) (a b : Nat) (hab : a ≤ b) (hb : b ≤ h.length) : Ev (fun k => variorumref19_Sum.f k ((h.take b).drop a)) (pre h b - pre h a) := by
  have hlen : ((h.take b).drop a).length = b - a := by rw [List.length_drop, List.length_take]; omega
  have hs := sum_ev ((h.take b).drop a) (by rw [hlen]; have := o.len; omega) (fun i hi => by
    rw [cut_rd h a b i hb (by omega)]
    exact ⟨o.nn.all _, o.rd_le _⟩)
  rw [hlen, cut_pre h a b (b - a) hb (by omega), show a + (b - a) = b by omega] at hs
  exact hs

end Go.Proofs.Ytmhnccjdhhcjoaa.Pure

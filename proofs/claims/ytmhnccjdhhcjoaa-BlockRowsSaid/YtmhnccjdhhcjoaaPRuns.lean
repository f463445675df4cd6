/- What the printed functions of column, and of its reference, come to. -/
import Derived.Test.YtmhnccjdhhcjoaaPMath
namespace Go.Proofs.Ytmhnccjdhhcjoaa.Pure
set_option linter.unusedVariables false
set_option linter.unusedSimpArgs false
open Go.RowKit Go.Proofs.Ytmhnccjdhhcjoaa.PAll Go.Proofs.YtmhnccjdhhcjoaaW.PrintWords Go.Proofs.YtmhnccjdhhcjoaaW.PrintLast Go.Proofs.YtmhnccjdhhcjoaaW.PrintMore

/-- The counts on the way: c columns are full, the next one has q, the others none. -/
def way (h : List Int) (room : Int) (n c q : Nat) : List Int := (List.range n).map fun j => if j < c then diff h room j else if j = c then (q : Int) else 0
theorem way_length (h : List Int) (room : Int) (n c q : Nat) : (way h room n c q).length = n := by simp [way]
theorem way_start (h : List Int) (room : Int) (n : Nat) : List.replicate n 0 = way h room n 0 0 := by
  apply List.ext_getElem
  · simp [way]
  · intro i h1 h2
    simp only [way, List.getElem_replicate, List.getElem_map, List.getElem_range]
    rw [if_neg (by omega)]
    split <;> rfl
theorem way_add (h : List Int) (room : Int) (n c q : Nat) (hc : c < n) : (way h room n c q).set c (rd (way h room n c q) (c : Int) + 1) = way h room n c (q + 1) := by
  have e : rd (way h room n c q) (c : Int) = (q : Int) := by
    rw [rd_nat, List.getD_eq_getElem?_getD, way, List.getElem?_map, List.getElem?_range hc]
    show (if c < c then diff h room c else if c = c then (q : Int) else 0) = _
    rw [if_neg (Nat.lt_irrefl _), if_pos rfl]
  rw [e]
  apply List.ext_getElem
  · simp [way]
  · intro i h1 h2
    rw [List.getElem_set]
    by_cases hi : c = i
    · subst hi
      rw [if_pos rfl]
      simp only [way, List.getElem_map, List.getElem_range]
      rw [if_neg (Nat.lt_irrefl _), if_pos trivial]
      omega
    · rw [if_neg hi]
      simp only [way, List.getElem_map, List.getElem_range]
      by_cases a : i < c
      · rw [if_pos a, if_pos a]
      · rw [if_neg a, if_neg a, if_neg (fun x => hi x.symm), if_neg (fun x => hi x.symm)]
theorem way_next (h : List Int) (room : Int) (n c : Nat) : way h room n c (pos h room (c + 1) - pos h room c) = way h room n (c + 1) 0 := by
  apply List.ext_getElem
  · simp [way]
  · intro i h1 h2
    simp only [way, List.getElem_map, List.getElem_range]
    by_cases a : i < c
    · rw [if_pos a, if_pos (by omega)]
    · by_cases b : i = c
      · rw [if_neg a, if_pos b, if_pos (by omega), b]; rfl
      · rw [if_neg a, if_neg b, if_neg (by omega)]; split <;> rfl
theorem way_end (h : List Int) (room : Int) (n : Nat) : way h room n n 0 = counts h room n := by
  apply List.ext_getElem
  · simp [way, counts]
  · intro i h1 h2
    have : i < n := by simpa [way] using h1
    simp only [way, counts, List.getElem_map, List.getElem_range]
    rw [if_pos this]

/-- What filling tells. -/
def filled (h : List Int) (cols : Int) (room : Int) : List Int × Bool := if h.length ≤ pos h room cols.toNat then (counts h room cols.toNat, true) else ([], false)

theorem fill_l1 {h : List Int} {cols : Int} (o : Ok h cols) (room : Int) (hr : room ≤ 9223372036854775807) (c : Nat) (hc : c < cols.toNat) {res : List Int × Bool}
    (hnext : Ev (fun k => column_Fill.l0 k h room (way h room cols.toNat (c + 1) 0) (pos h room (c + 1) : Nat) (cols.toNat : Int) ((c + 1 : Nat) : Int)) res) (d : Nat) : ∀ a : Nat, a + d = h.length → pos h room c ≤ a → pos h room (c + 1) = stop h room (pos h room c) d a →
    Ev (fun k => column_Fill.l1 k h room (way h room cols.toNat c (a - pos h room c)) (a : Int) (c : Int) (pre h a - pre h (pos h room c)) (cols.toNat : Int) (c : Int)) res := by
  have hlen := o.len
  have hc2 := o.c2
  have g9 : c ≤ 1000000000000000 := by omega
  induction d with
  | zero =>
    intro a ha hpa hst
    have e : pos h room (c + 1) = a := hst
    have g : ¬ (a : Int) < (h.length : Int) := by omega
    rw [← e, way_next]
    refine Ev.step (fun k => ?_) hnext
    simp only [column_Fill.l1]
    rw [e, if_neg g, succ_w c g9]
  | succ d ih =>
    intro a ha hpa hst
    have g : (a : Int) < (h.length : Int) := by omega
    have g2 : (0 : Int) ≤ (a : Int) := by omega
    have g3 : a ≤ 1000000000000000 := by omega
    have g4 : (0 : Int) ≤ (c : Int) := by omega
    have g5 : (c : Int) < ((way h room cols.toNat c (a - pos h room c)).length : Int) := by rw [way_length]; omega
    have e : pre h (a + 1) = pre h a + rd h (a : Int) := rfl
    have p1 := o.pre_le (a + 1)
    have p2 := pre_nonneg o.nn (a + 1)
    have p3 := o.pre_le (pos h room c)
    have p4 := pre_nonneg o.nn (pos h room c)
    have ew : wrap64 (pre h a - pre h (pos h room c) + rd h (a : Int)) = pre h (a + 1) - pre h (pos h room c) := by rw [wrap_small (by omega)]; omega
    unfold stop at hst
    by_cases b : pre h (a + 1) - pre h (pos h room c) ≤ room
    · rw [if_pos b] at hst
      have hn := ih (a + 1) (by omega) (by omega) hst
      rw [show a + 1 - pos h room c = (a - pos h room c) + 1 by omega] at hn
      refine Ev.step (fun k => ?_) hn
      have er : rd (way h room cols.toNat c (a - pos h room c)) (c : Int) = ((a - pos h room c : Nat) : Int) := by
        rw [rd_nat, List.getD_eq_getElem?_getD, way, List.getElem?_map, List.getElem?_range hc]
        show (if c < c then diff h room c else if c = c then ((a - pos h room c : Nat) : Int) else 0) = _
        rw [if_neg (Nat.lt_irrefl _), if_pos rfl]
      have ew2 : wrap64 (rd (way h room cols.toNat c (a - pos h room c)) (c : Int) + 1) = rd (way h room cols.toNat c (a - pos h room c)) (c : Int) + 1 := by rw [er]; exact wrap_small (by omega)
      simp only [column_Fill.l1]
      rw [if_pos g, if_pos g2, ew, if_pos b, if_pos g4, if_pos g5, ew2, Int.toNat_natCast, way_add h room _ c _ hc, succ_w a g3]
    · rw [if_neg b] at hst
      have e2 : pos h room (c + 1) = a := hst
      rw [← e2, way_next]
      refine Ev.step (fun k => ?_) hnext
      simp only [column_Fill.l1]
      rw [e2, if_pos g, if_pos g2, ew, if_neg b, succ_w c g9]
theorem fill_l0 {h : List Int} {cols : Int} (o : Ok h cols) (room : Int) (hr : room ≤ 9223372036854775807) (d : Nat) : ∀ c : Nat, c + d = cols.toNat →
    Ev (fun k => column_Fill.l0 k h room (way h room cols.toNat c 0) (pos h room c : Nat) (cols.toNat : Int) (c : Int)) (filled h cols room) := by
  induction d with
  | zero =>
    intro c hc
    have e : c = cols.toNat := by omega
    have g : ¬ (c : Int) < (cols.toNat : Int) := by omega
    refine Ev.step (f := fun _ => some _) (fun k => ?_) (Ev.now _)
    simp only [column_Fill.l0]
    rw [if_neg g, e, way_end]
    unfold filled
    by_cases b : h.length ≤ pos h room cols.toNat
    · rw [if_pos b, if_neg (by omega)]
    · rw [if_neg b, if_pos (by omega)]
  | succ d ih =>
    intro c hc
    have g : (c : Int) < (cols.toNat : Int) := by omega
    have hp := pos_le h room c
    have hn := fill_l1 o room hr c (by omega) (ih (c + 1) (by omega)) (h.length - pos h room c) (pos h room c) (by omega) (Nat.le_refl _) rfl
    rw [Nat.sub_self, Int.sub_self] at hn
    refine Ev.step (fun k => ?_) hn
    simp only [column_Fill.l0]
    rw [if_pos g]
theorem fill_ev {h : List Int} {cols : Int} (o : Ok h cols) (room : Int) (hr : room ≤ 9223372036854775807) : Ev (fun k => column_Fill.f k h cols room) (filled h cols room) := by
  have h1 := o.c1
  have h2 := o.c2
  have hlen := o.len
  have hm := may_ev h cols (by omega) true (by simp [o])
  have hl := fill_l0 o room hr cols.toNat 0 (by omega)
  have hl2 : Ev (fun k => (if 0 ≤ cols then (if cols.toNat ≤ 35184372088832 then ((some (List.replicate cols.toNat 0 : List Int)).bind fun y => column_Fill.l0 k h room y 0 (y.length : Int) 0) else none) else none)) (filled h cols room) := by
    refine Ev.congr (fun k => ?_) hl
    rw [if_pos (by omega), if_pos (by omega), Option.bind_some, List.length_replicate, ← way_start]
    rfl
  unfold column_Fill.f
  refine Ev.bind hm ?_
  simp only [if_true]
  exact hl2
theorem fill_no {h : List Int} {cols : Int} (hl : h.length * 8 ≤ 140737488351232) (n : ¬ Ok h cols) (room : Int) : Ev (fun k => column_Fill.f k h cols room) ([], false) := by
  unfold column_Fill.f
  refine Ev.bind (may_ev h cols hl false (by simp [n])) ?_
  refine Ev.congr (f := fun _ => some _) (fun k => ?_) (Ev.now _)
  simp

/-- The reference fills just so. -/
theorem rfill_l1 {h : List Int} {cols : Int} (o : Ok h cols) (room : Int) (hr : room ≤ 9223372036854775807) (c : Nat) (hc : c < cols.toNat) {res : List Int × Bool}
    (hnext : Ev (fun k => variorumref19_Fill.l0 k h cols room (counts h room (c + 1)) (pos h room (c + 1) : Nat) ((c + 1 : Nat) : Int)) res) (d : Nat) : ∀ a : Nat, a + d = h.length → pos h room c ≤ a → pos h room (c + 1) = stop h room (pos h room c) d a →
    Ev (fun k => variorumref19_Fill.l1 k h cols room (counts h room c) (pos h room c : Nat) (c : Int) ((a - pos h room c : Nat) : Int)) res := by
  have hlen := o.len
  have hc2 := o.c2
  have g9 : c ≤ 1000000000000000 := by omega
  have hcl : (counts h room c).length < 17592186044416 := by rw [counts_length]; omega
  have hend : ∀ a : Nat, pos h room (c + 1) = a → pos h room c ≤ a → counts h room c ++ [((a - pos h room c : Nat) : Int)] = counts h room (c + 1) := by
    intro a e _
    rw [counts_succ, ← e]; rfl
  have ea : ∀ a : Nat, pos h room c ≤ a → a ≤ 2000 → wrap64 ((pos h room c : Nat) + ((a - pos h room c : Nat) : Int)) = (a : Int) := by
    intro a h1 h2
    rw [wrap_small (by omega)]; omega
  induction d with
  | zero =>
    intro a ha hpa hst
    have e : pos h room (c + 1) = a := hst
    have g : ¬ (a : Int) < (h.length : Int) := by omega
    have g2 : a ≤ 2000 := by omega
    rw [← hend a e hpa, e] at hnext
    refine Ev.step (fun k => ?_) hnext
    simp only [variorumref19_Fill.l1]
    rw [ea a hpa g2, if_neg g, if_pos hcl, succ_w c g9]
  | succ d ih =>
    intro a ha hpa hst
    have g : (a : Int) < (h.length : Int) := by omega
    have g1 : (0 : Int) ≤ ((pos h room c : Nat) : Int) := by omega
    have g2 : a ≤ 2000 := by omega
    have g3 : a ≤ 1000000000000000 := by omega
    have g4 : ((pos h room c : Nat) : Int) ≤ ((a + 1 : Nat) : Int) := by omega
    have g5 : ((a + 1 : Nat) : Int) ≤ (h.length : Int) := by omega
    have g6 : a - pos h room c ≤ 1000000000000000 := by omega
    have hs := cut_sum o (pos h room c) (a + 1) (by omega) (by omega)
    unfold stop at hst
    by_cases b : pre h (a + 1) - pre h (pos h room c) ≤ room
    · rw [if_pos b] at hst
      have hn := ih (a + 1) (by omega) (by omega) hst
      rw [show a + 1 - pos h room c = (a - pos h room c) + 1 by omega] at hn
      have hx : Ev (fun k => (variorumref19_Sum.f k ((h.take (a + 1)).drop (pos h room c))).bind fun t => if t ≤ room then variorumref19_Fill.l1 k h cols room (counts h room c) (pos h room c : Nat) (c : Int) ((a - pos h room c + 1 : Nat) : Int) else (if (counts h room c).length < 17592186044416 then variorumref19_Fill.l0 k h cols room (counts h room c ++ [((a - pos h room c : Nat) : Int)]) (a : Int) ((c + 1 : Nat) : Int) else none)) res :=
        Ev.bind hs (by simp only [if_pos b]; exact hn)
      refine Ev.step (fun k => ?_) hx
      simp only [variorumref19_Fill.l1]
      rw [ea a hpa g2, if_pos g, if_pos g1, succ_w a g3, if_pos g4, if_pos g5, Int.toNat_natCast, Int.toNat_natCast, succ_w _ g6, succ_w c g9]
    · rw [if_neg b] at hst
      have e2 : pos h room (c + 1) = a := hst
      rw [← hend a e2 hpa, e2] at hnext
      have hx : Ev (fun k => (variorumref19_Sum.f k ((h.take (a + 1)).drop (pos h room c))).bind fun t => if t ≤ room then variorumref19_Fill.l1 k h cols room (counts h room c) (pos h room c : Nat) (c : Int) ((a - pos h room c + 1 : Nat) : Int) else (if (counts h room c).length < 17592186044416 then variorumref19_Fill.l0 k h cols room (counts h room c ++ [((a - pos h room c : Nat) : Int)]) (a : Int) ((c + 1 : Nat) : Int) else none)) res :=
        Ev.bind hs (by simp only [if_neg b, if_pos hcl]; exact hnext)
      refine Ev.step (fun k => ?_) hx
      simp only [variorumref19_Fill.l1]
      rw [ea a hpa g2, if_pos g, if_pos g1, succ_w a g3, if_pos g4, if_pos g5, Int.toNat_natCast, Int.toNat_natCast, succ_w _ g6, succ_w c g9]
theorem rfill_l0 {h : List Int} {cols : Int} (o : Ok h cols) (room : Int) (hr : room ≤ 9223372036854775807) (d : Nat) : ∀ c : Nat, c + d = cols.toNat →
    Ev (fun k => variorumref19_Fill.l0 k h cols room (counts h room c) (pos h room c : Nat) (c : Int)) (filled h cols room) := by
  have h1 := o.c1
  induction d with
  | zero =>
    intro c hc
    have e : c = cols.toNat := by omega
    have g : ¬ (c : Int) < cols := by omega
    refine Ev.step (f := fun _ => some _) (fun k => ?_) (Ev.now _)
    simp only [variorumref19_Fill.l0]
    rw [if_neg g, e]
    unfold filled
    by_cases b : h.length ≤ pos h room cols.toNat
    · rw [if_pos b, if_neg (by omega)]
    · rw [if_neg b, if_pos (by omega)]
  | succ d ih =>
    intro c hc
    have g : (c : Int) < cols := by omega
    have hp := pos_le h room c
    have hn := rfill_l1 o room hr c (by omega) (ih (c + 1) (by omega)) (h.length - pos h room c) (pos h room c) (by omega) (Nat.le_refl _) rfl
    rw [Nat.sub_self] at hn
    refine Ev.step (fun k => ?_) hn
    simp only [variorumref19_Fill.l0]
    rw [if_pos g]
    rfl
theorem rfill_ev {h : List Int} {cols : Int} (o : Ok h cols) (room : Int) (hr : room ≤ 9223372036854775807) : Ev (fun k => variorumref19_Fill.f k h cols room) (filled h cols room) := by
  unfold variorumref19_Fill.f
  refine Ev.bind (rmay_ev h cols true (by simp [o])) ?_
  simp only [if_true]
  exact rfill_l0 o room hr cols.toNat 0 (by have := o.c1; omega)
theorem rfill_no {h : List Int} {cols : Int} (n : ¬ Ok h cols) (room : Int) : Ev (fun k => variorumref19_Fill.f k h cols room) ([], false) := by
  unfold variorumref19_Fill.f
  refine Ev.bind (rmay_ev h cols false (by simp [n])) ?_
  refine Ev.congr (f := fun _ => some _) (fun k => ?_) (Ev.now _)
  simp

end Go.Proofs.Ytmhnccjdhhcjoaa.Pure

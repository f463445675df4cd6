/- Where block places notes: what Place tells, in block and in its reference. -/
import Derived.Test.YtmhnccjdhhcjoaaPLeast
namespace Go.Proofs.Ytmhnccjdhhcjoaa.Pure
set_option linter.unusedVariables false
set_option linter.unusedSimpArgs false
open Go.RowKit Go.Proofs.Ytmhnccjdhhcjoaa.PAll Go.Proofs.YtmhnccjdhhcjoaaW.PrintWords Go.Proofs.YtmhnccjdhhcjoaaW.PrintLast Go.Proofs.YtmhnccjdhhcjoaaW.PrintMore

theorem rd32 (l : List S32) (i : Nat) : rd_T32 l (i : Int) = l.getD i z32 := by unfold rd_T32; rw [Int.toNat_natCast]

/-- How many columns a layout has. -/
def colsOf (lay : Int) : Int := if lay = 0 then 1 else if lay = 1 then 1 else if lay = 2 then 2 else if lay = 3 then 3 else 0
theorem columns_f (lay : Int) : block_Columns.f lay = some (colsOf lay) := by
  unfold block_Columns.f colsOf
  split
  · rfl
  · split
    · rfl
    · split
      · rfl
      · split <;> rfl
theorem rcolumns_ev (lay : Int) : Ev (fun k => variorumref20_Columns.f k lay) (colsOf lay) := by
  unfold variorumref20_Columns.f
  by_cases a : lay = 0
  · simp only [if_pos a]
    refine Ev.step (f := fun _ => some _) (fun k => ?_) (Ev.now _)
    simp [variorumref20_Columns.j0, colsOf, a]
  · simp only [if_neg a]
    refine Ev.step (f := fun _ => some _) (fun k => ?_) (Ev.now _)
    by_cases b : lay = 1
    · subst b; simp [variorumref20_Columns.j0, colsOf]
    · have b2 : (lay == 1) = false := by simpa using b
      simp only [variorumref20_Columns.j0, b2, colsOf, if_neg a, if_neg b]
      rw [if_neg (by decide)]
      by_cases c : lay = 2
      · subst c; rfl
      · rw [if_neg c, if_neg c]
        by_cases d : lay = 3
        · subst d; rfl
        · rw [if_neg d, if_neg d]

/-- The first spots of a column. -/
def colSpots (h : List Int) (room : Int) (c n : Nat) : List S32 := (List.range n).map fun i => ⟨(c : Int), pre h (pos h room c + i) - pre h (pos h room c)⟩
theorem colSpots_length (h : List Int) (room : Int) (c n : Nat) : (colSpots h room c n).length = n := by simp [colSpots]
theorem colSpots_succ (h : List Int) (room : Int) (c n : Nat) : colSpots h room c (n + 1) = colSpots h room c n ++ [⟨(c : Int), pre h (pos h room c + n) - pre h (pos h room c)⟩] := by simp [colSpots, List.range_succ]
/-- All spots of the first columns. -/
def spots (h : List Int) (room : Int) : Nat → List S32
  | 0 => []
  | c + 1 => spots h room c ++ colSpots h room c (pos h room (c + 1) - pos h room c)
theorem spots_length (h : List Int) (room : Int) (c : Nat) : (spots h room c).length = pos h room c := by
  induction c with
  | zero => rfl
  | succ c ih =>
    have := pos_step h room c
    unfold spots
    rw [List.length_append, ih, colSpots_length]
    omega
/-- In which column a note stands. -/
theorem col_of (h : List Int) (room : Int) (n : Nat) : ∀ p, p < pos h room n → ∃ c, c < n ∧ pos h room c ≤ p ∧ p < pos h room (c + 1) := by
  induction n with
  | zero => intro p hp; have : pos h room 0 = 0 := rfl; omega
  | succ n ih =>
    intro p hp
    by_cases a : p < pos h room n
    · obtain ⟨c, h1, h2⟩ := ih p a
      exact ⟨c, by omega, h2⟩
    · exact ⟨n, by omega, by omega, hp⟩
theorem spots_at (h : List Int) (room : Int) (n : Nat) : ∀ c p, c < n → pos h room c ≤ p → p < pos h room (c + 1) → (spots h room n)[p]? = some ⟨(c : Int), pre h p - pre h (pos h room c)⟩ := by
  induction n with
  | zero => intro c p hc; omega
  | succ n ih =>
    intro c p hc h1 h2
    have hl := spots_length h room n
    unfold spots
    by_cases e : c = n
    · subst e
      rw [List.getElem?_append_right (by omega), hl, colSpots, List.getElem?_map, List.getElem?_range (by omega)]
      show some (S32.mk (c : Int) (pre h (pos h room c + (p - pos h room c)) - pre h (pos h room c))) = _
      rw [show pos h room c + (p - pos h room c) = p by omega]
    · have hx := ih c p (by omega) h1 h2
      rw [List.getElem?_append_left (List.getElem?_eq_some_iff.1 hx).1]
      exact hx
theorem spots_rd (h : List Int) (room : Int) (n c p : Nat) (hc : c < n) (h1 : pos h room c ≤ p) (h2 : p < pos h room (c + 1)) : rd_T32 (spots h room n) (p : Int) = ⟨(c : Int), pre h p - pre h (pos h room c)⟩ := by
  rw [rd32, List.getD_eq_getElem?_getD, spots_at h room n c p hc h1 h2]
  rfl

section
variable {h : List Int} {cols : Int} (o : Ok h cols)
include o
theorem place_l1 (L : Int) (c : Nat) (hc : c ≤ 10) {cs : List Int} {res : List S32 × Int × Bool}
    (hnext : Ev (fun k => block_Place.l0 k h L (spots h L (c + 1)) cs (cs.length : Int) ((c + 1 : Nat) : Int)) res) (d : Nat) : ∀ i : Nat, i + d = pos h L (c + 1) - pos h L c →
    Ev (fun k => block_Place.l1 k h L (spots h L c ++ colSpots h L c i) (c : Int) (pre h (pos h L c + i) - pre h (pos h L c)) cs (cs.length : Int) (c : Int) (diff h L c) (i : Int)) res := by
  have hlen := o.len
  have hs := pos_step h L c
  have hp := pos_le h L (c + 1)
  have ed : diff h L c = ((pos h L (c + 1) - pos h L c : Nat) : Int) := rfl
  have hsl := spots_length h L c
  have g9 : c ≤ 1000000000000000 := by omega
  induction d with
  | zero =>
    intro i hi
    have e : i = pos h L (c + 1) - pos h L c := by omega
    have g : ¬ (i : Int) < diff h L c := by rw [ed]; omega
    have es : spots h L (c + 1) = spots h L c ++ colSpots h L c i := by rw [e]; rfl
    rw [es] at hnext
    refine Ev.step (fun k => ?_) hnext
    simp only [block_Place.l1]
    rw [if_neg g, succ_w c g9]
  | succ d ih =>
    intro i hi
    have hn := ih (i + 1) (by omega)
    rw [colSpots_succ, ← List.append_assoc] at hn
    have g : (i : Int) < diff h L c := by rw [ed]; omega
    generalize hx : spots h L c ++ colSpots h L c i = x at hn ⊢
    have hxl : x.length = pos h L c + i := by rw [← hx, List.length_append, hsl, colSpots_length]
    have g1 : x.length < 8796093022208 := by omega
    have hyl : ∀ y : S32, (((x ++ [y]).length : Nat) : Int) = ((pos h L c + i + 1 : Nat) : Int) := by intro y; rw [List.length_append, List.length_singleton, hxl]
    have g2 : (0 : Int) ≤ ((pos h L c + i : Nat) : Int) := by omega
    have g3 : ((pos h L c + i : Nat) : Int) < (h.length : Int) := by omega
    have g4 : i ≤ 1000000000000000 := by omega
    have p1 := o.pre_le (pos h L c + i + 1)
    have p2 := pre_nonneg o.nn (pos h L c + i + 1)
    have p3 := o.pre_le (pos h L c)
    have p4 := pre_nonneg o.nn (pos h L c)
    have e1 : pre h (pos h L c + (i + 1)) = pre h (pos h L c + i) + rd h ((pos h L c + i : Nat) : Int) := rfl
    have e1' : pre h (pos h L c + i + 1) = pre h (pos h L c + (i + 1)) := rfl
    have ew : wrap64 (((pos h L c + i + 1 : Nat) : Int) - 1) = ((pos h L c + i : Nat) : Int) := by rw [wrap_small (by omega)]; omega
    have ew2 : wrap64 (pre h (pos h L c + i) - pre h (pos h L c) + rd h ((pos h L c + i : Nat) : Int)) = pre h (pos h L c + (i + 1)) - pre h (pos h L c) := by rw [wrap_small (by omega)]; omega
    refine Ev.step (fun k => ?_) hn
    simp only [block_Place.l1, Option.bind_some]
    rw [if_pos g, if_pos g1, hyl, ew, if_pos g2, if_pos g3, ew2, succ_w i g4]
theorem place_l0 (L : Int) (d : Nat) : ∀ c : Nat, c + d = cols.toNat → Ev (fun k => block_Place.l0 k h L (spots h L c) (counts h L cols.toNat) ((counts h L cols.toNat).length : Int) (c : Int)) (spots h L cols.toNat, L, true) := by
  have h2 := o.c2
  induction d with
  | zero =>
    intro c hc
    have e : c = cols.toNat := by omega
    have g : ¬ (c : Int) < ((counts h L cols.toNat).length : Int) := by rw [counts_length]; omega
    refine Ev.step (f := fun _ => some _) (fun k => ?_) (Ev.now _)
    simp only [block_Place.l0]
    rw [if_neg g, e]
  | succ d ih =>
    intro c hc
    have g : (c : Int) < ((counts h L cols.toNat).length : Int) := by rw [counts_length]; omega
    have g1 : (0 : Int) ≤ (c : Int) := by omega
    have hn := place_l1 o L c (by omega) (ih (c + 1) (by omega)) (pos h L (c + 1) - pos h L c) 0 (by omega)
    have er : rd (counts h L cols.toNat) (c : Int) = diff h L c := counts_rd h L _ c (by omega)
    have e0 : pre h (pos h L c + 0) - pre h (pos h L c) = 0 := by rw [Nat.add_zero]; omega
    have e1 : spots h L c ++ colSpots h L c 0 = spots h L c := by simp [colSpots]
    rw [e0, e1] at hn
    refine Ev.step (fun k => ?_) hn
    simp only [block_Place.l0]
    rw [if_pos g, if_pos g1, if_pos g, er]
    rfl
/-- The reference places just so. -/
theorem rplace_l1 (L : Int) (c : Nat) (hc : c < cols.toNat) {res : List S32 × Int × Bool}
    (hnext : Ev (fun k => variorumref20_Place.l0 k h (counts h L cols.toNat) L (spots h L (c + 1)) (pos h L (c + 1) : Nat) ((c + 1 : Nat) : Int)) res) (d : Nat) : ∀ i : Nat, i + d = pos h L (c + 1) - pos h L c →
    Ev (fun k => variorumref20_Place.l1 k h (counts h L cols.toNat) L (spots h L c ++ colSpots h L c i) (pos h L c : Nat) (c : Int) (i : Int)) res := by
  have hlen := o.len
  have h2 := o.c2
  have hs := pos_step h L c
  have hp := pos_le h L (c + 1)
  have ed : diff h L c = ((pos h L (c + 1) - pos h L c : Nat) : Int) := rfl
  have er : rd (counts h L cols.toNat) (c : Int) = diff h L c := counts_rd h L _ c hc
  have hsl := spots_length h L c
  have g9 : c ≤ 1000000000000000 := by omega
  have g1 : (0 : Int) ≤ (c : Int) := by omega
  have g2 : (c : Int) < ((counts h L cols.toNat).length : Int) := by rw [counts_length]; omega
  induction d with
  | zero =>
    intro i hi
    have e : i = pos h L (c + 1) - pos h L c := by omega
    have g : ¬ (i : Int) < diff h L c := by rw [ed]; omega
    have es : spots h L (c + 1) = spots h L c ++ colSpots h L c i := by rw [e]; rfl
    rw [es] at hnext
    have ew : wrap64 ((pos h L c : Nat) + diff h L c) = ((pos h L (c + 1) : Nat) : Int) := by rw [ed, wrap_small (by omega)]; omega
    refine Ev.step (fun k => ?_) hnext
    simp only [variorumref20_Place.l1]
    rw [if_pos g1, if_pos g2, er, if_neg g, ew, succ_w c g9]
  | succ d ih =>
    intro i hi
    have hn := ih (i + 1) (by omega)
    rw [colSpots_succ, ← List.append_assoc] at hn
    have g : (i : Int) < diff h L c := by rw [ed]; omega
    generalize hx : spots h L c ++ colSpots h L c i = x at hn ⊢
    have hxl : x.length = pos h L c + i := by rw [← hx, List.length_append, hsl, colSpots_length]
    have g3 : x.length < 8796093022208 := by omega
    have g4 : (0 : Int) ≤ ((pos h L c : Nat) : Int) := by omega
    have g5 : ((pos h L c : Nat) : Int) ≤ ((pos h L c + i : Nat) : Int) := by omega
    have g6 : ((pos h L c + i : Nat) : Int) ≤ (h.length : Int) := by omega
    have g7 : i ≤ 1000000000000000 := by omega
    have hsum := cut_sum o (pos h L c) (pos h L c + i) (by omega) (by omega)
    have ew : wrap64 ((pos h L c : Nat) + (i : Int)) = ((pos h L c + i : Nat) : Int) := by rw [wrap_small (by omega)]; omega
    have hy : Ev (fun k => (variorumref19_Sum.f k ((h.take (pos h L c + i)).drop (pos h L c))).bind fun t => if x.length < 8796093022208 then variorumref20_Place.l1 k h (counts h L cols.toNat) L (x ++ [(⟨(c : Int), t⟩ : S32)]) (pos h L c : Nat) (c : Int) ((i + 1 : Nat) : Int) else none) res :=
      Ev.bind hsum (by simp only [if_pos g3]; exact hn)
    refine Ev.step (fun k => ?_) hy
    simp only [variorumref20_Place.l1]
    rw [if_pos g1, if_pos g2, er, if_pos g, if_pos g4, ew, if_pos g5, if_pos g6, succ_w i g7, Int.toNat_natCast, Int.toNat_natCast]
theorem rplace_l0 (L : Int) (d : Nat) : ∀ c : Nat, c + d = cols.toNat → Ev (fun k => variorumref20_Place.l0 k h (counts h L cols.toNat) L (spots h L c) (pos h L c : Nat) (c : Int)) (spots h L cols.toNat, L, true) := by
  have h2 := o.c2
  induction d with
  | zero =>
    intro c hc
    have e : c = cols.toNat := by omega
    have g : ¬ (c : Int) < ((counts h L cols.toNat).length : Int) := by rw [counts_length]; omega
    refine Ev.step (f := fun _ => some _) (fun k => ?_) (Ev.now _)
    simp only [variorumref20_Place.l0]
    rw [if_neg g, e]
  | succ d ih =>
    intro c hc
    have g : (c : Int) < ((counts h L cols.toNat).length : Int) := by rw [counts_length]; omega
    have hn := rplace_l1 o L c (by omega) (ih (c + 1) (by omega)) (pos h L (c + 1) - pos h L c) 0 (by omega)
    have e1 : spots h L c ++ colSpots h L c 0 = spots h L c := by simp [colSpots]
    rw [e1] at hn
    refine Ev.step (fun k => ?_) hn
    simp only [variorumref20_Place.l0]
    rw [if_pos g]
    rfl
end
theorem place_ev {h : List Int} {lay : Int} (o : Ok h (colsOf lay)) (L : Nat) (hL : IsL h (colsOf lay).toNat h.length L) (hle : L ≤ 1073741823) : Ev (fun k => block_Place.f k lay h) (spots h L (colsOf lay).toNat, (L : Int), true) := by
  unfold block_Place.f
  rw [columns_f]
  simp only [Option.bind_some]
  refine Ev.bind (balance_ev o L hL hle) ?_
  simp only [if_true]
  exact place_l0 o L (colsOf lay).toNat 0 (by omega)
theorem place_no {h : List Int} {lay : Int} (hl : h.length * 8 ≤ 140737488351232) (n : ¬ Ok h (colsOf lay)) : Ev (fun k => block_Place.f k lay h) ([], 0, false) := by
  unfold block_Place.f
  rw [columns_f]
  simp only [Option.bind_some]
  refine Ev.bind (balance_no hl n) ?_
  refine Ev.congr (f := fun _ => some _) (fun k => ?_) (Ev.now _)
  simp
theorem rplace_ev {h : List Int} {lay : Int} (o : Ok h (colsOf lay)) (L : Nat) (hL : IsL h (colsOf lay).toNat h.length L) (hle : L ≤ 1073741823) : Ev (fun k => variorumref20_Place.f k lay h) (spots h L (colsOf lay).toNat, (L : Int), true) := by
  unfold variorumref20_Place.f
  refine Ev.bind (rcolumns_ev lay) (Ev.bind (rbalance_ev o L hL hle) ?_)
  simp only [if_true]
  exact rplace_l0 o L (colsOf lay).toNat 0 (by omega)
theorem rplace_no {h : List Int} {lay : Int} (n : ¬ Ok h (colsOf lay)) : Ev (fun k => variorumref20_Place.f k lay h) ([], 0, false) := by
  unfold variorumref20_Place.f
  refine Ev.bind (rcolumns_ev lay) (Ev.bind (rbalance_no n) ?_)
  refine Ev.congr (f := fun _ => some _) (fun k => ?_) (Ev.now _)
  simp

end Go.Proofs.Ytmhnccjdhhcjoaa.Pure

/- What the least height, and balancing, come to: in column, and in its reference. -/
import Derived.Test.YtmhnccjdhhcjoaaPRuns
namespace Go.Proofs.Ytmhnccjdhhcjoaa.Pure
set_option linter.unusedVariables false
set_option linter.unusedSimpArgs false
open Go.RowKit Go.Proofs.Ytmhnccjdhhcjoaa.PAll Go.Proofs.YtmhnccjdhhcjoaaW.PrintWords Go.Proofs.YtmhnccjdhhcjoaaW.PrintLast Go.Proofs.YtmhnccjdhhcjoaaW.PrintMore

theorem fixed_ev : Ev (fun k => variorumlaw20_fixed.f k) true := Ev.of variorumlaw20_fixed.mono (k := 60) (by decide +kernel)

theorem filled_yes {h : List Int} {cols : Int} (o : Ok h cols) {L : Int} (hL : IsL h cols.toNat h.length L) (room : Int) (hr : 0 ≤ room) : (filled h cols room).2 = decide (L ≤ room) := by
  have hp := part_iff o.nn room hr cols.toNat
  unfold filled
  by_cases b : h.length ≤ pos h room cols.toNat
  · rw [if_pos b, decide_eq_true (hL.least room hr (hp.2 b))]
  · rw [if_neg b, decide_eq_false (fun x => b (hp.1 (part_mono x _ _ hL.is)))]

theorem search_ev {h : List Int} {cols : Int} (o : Ok h cols) (L : Nat) (hL : IsL h cols.toNat h.length L) (d : Nat) : ∀ lo hi : Nat, hi - lo ≤ d → lo ≤ L → L ≤ hi → hi ≤ 1073741823 → Ev (fun k => column_Least.l1 k h cols (lo : Int) (hi : Int)) (L : Int) := by
  induction d with
  | zero =>
    intro lo hi hd h1 h2 h3
    have g : ¬ (lo : Int) < (hi : Int) := by omega
    have e : lo = L := by omega
    refine Ev.step (f := fun _ => some _) (fun k => ?_) (Ev.now _)
    simp only [column_Least.l1]
    rw [if_neg g, e]
  | succ d ih =>
    intro lo hi hd h1 h2 h3
    by_cases g : lo < hi
    · have g' : (lo : Int) < (hi : Int) := by omega
      have em : ((lo : Int) + (hi : Int)) / 2 = (((lo + hi) / 2 : Nat) : Int) := by omega
      have hf := fill_ev o (((lo + hi) / 2 : Nat) : Int) (by omega)
      have hy := filled_yes o hL (((lo + hi) / 2 : Nat) : Int) (by omega)
      have hx : Ev (fun k => (column_Fill.f k h cols (((lo + hi) / 2 : Nat) : Int)).bind fun t => if t.2 = true then column_Least.l1 k h cols (lo : Int) (((lo + hi) / 2 : Nat) : Int) else column_Least.l1 k h cols ((((lo + hi) / 2 : Nat) : Int) + 1) (hi : Int)) (L : Int) := by
        refine Ev.bind hf ?_
        rw [hy]
        by_cases b : (L : Int) ≤ (((lo + hi) / 2 : Nat) : Int)
        · simp only [decide_eq_true b, if_true]
          exact ih lo ((lo + hi) / 2) (by omega) h1 (by omega) (by omega)
        · have hn := ih ((lo + hi) / 2 + 1) hi (by omega) (by omega) h2 h3
          rw [decide_eq_false b]
          refine Ev.congr (fun k => ?_) hn
          rw [if_neg (by decide)]
          rfl
      refine Ev.step (fun k => ?_) hx
      simp only [column_Least.l1]
      rw [if_pos g', em]
    · have g' : ¬ (lo : Int) < (hi : Int) := by omega
      have e : lo = L := by omega
      refine Ev.step (f := fun _ => some _) (fun k => ?_) (Ev.now _)
      simp only [column_Least.l1]
      rw [if_neg g', e]

/-- There is a least height. -/
theorem has_least {h : List Int} {cols : Int} (o : Ok h cols) : ∃ L : Nat, IsL h cols.toNat h.length L ∧ (L : Int) ≤ pre h h.length := by
  have h1 := o.c1
  have hp := part_one o.nn (cols.toNat - 1) h.length (pre h h.length) (Int.le_refl _)
  rw [show cols.toNat - 1 + 1 = cols.toNat by omega] at hp
  have hnn := pre_nonneg o.nn h.length
  have he : pre h h.length = ((pre h h.length).toNat : Int) := by omega
  rw [he] at hp
  obtain ⟨v, hv, hle⟩ := isL_exists h cols.toNat h.length _ hp
  have := hv.nn
  refine ⟨v.toNat, ?_, by omega⟩
  rw [show ((v.toNat : Nat) : Int) = v by omega]
  exact hv
theorem least_ev {h : List Int} {cols : Int} (o : Ok h cols) (L : Nat) (hL : IsL h cols.toNat h.length L) : Ev (fun k => column_Least.f k h cols) ((L : Int), true) := by
  have hlen := o.len
  have hle : (L : Int) ≤ pre h h.length := by
    obtain ⟨L', h1, h2⟩ := has_least o
    rw [hL.uniq h1]; exact h2
  have key : ∀ (d i : Nat), i + d = h.length → Ev (fun k => column_Least.l0 k h cols (pre h i) (i : Int)) ((L : Int), true) := by
    intro d
    induction d with
    | zero =>
      intro i hi
      have e : i = h.length := by omega
      subst e
      have g : ¬ (h.length : Int) < (h.length : Int) := by omega
      have t := o.tot
      have hnn := pre_nonneg o.nn h.length
      have he : pre h h.length = ((pre h h.length).toNat : Int) := by omega
      have hs := search_ev o L hL (pre h h.length).toNat 0 (pre h h.length).toNat (by omega) (Nat.zero_le _) (by omega) (by omega)
      rw [← he] at hs
      have hx : Ev (fun k => (column_Least.l1 k h cols 0 (pre h h.length)).bind fun n => some (n, true)) ((L : Int), true) := Ev.bind hs (Ev.now _)
      refine Ev.step (fun k => ?_) hx
      simp only [column_Least.l0]
      rw [if_neg g, if_pos ⟨hnn, by omega⟩]
    | succ d ih =>
      intro i hi
      have g1 : (i : Int) < (h.length : Int) := by omega
      have g2 : (0 : Int) ≤ (i : Int) := by omega
      have g3 : i ≤ 1000000000000000 := by omega
      have e : pre h (i + 1) = pre h i + rd h (i : Int) := rfl
      have p1 := o.pre_le (i + 1)
      have p2 := pre_nonneg o.nn (i + 1)
      have ew : wrap64 (pre h i + rd h (i : Int)) = pre h (i + 1) := wrap_small (by omega)
      refine Ev.step (fun k => ?_) (ih (i + 1) (by omega))
      simp only [column_Least.l0]
      rw [if_pos g1, if_pos g2, ew, succ_w i g3]
  unfold column_Least.f
  refine Ev.bind (may_ev h cols (by omega) true (by simp [o])) ?_
  simp only [if_true]
  exact key h.length 0 (by omega)
theorem least_no {h : List Int} {cols : Int} (hl : h.length * 8 ≤ 140737488351232) (n : ¬ Ok h cols) : Ev (fun k => column_Least.f k h cols) (0, false) := by
  unfold column_Least.f
  refine Ev.bind (may_ev h cols hl false (by simp [n])) ?_
  refine Ev.congr (f := fun _ => some _) (fun k => ?_) (Ev.now _)
  simp
theorem balance_ev {h : List Int} {cols : Int} (o : Ok h cols) (L : Nat) (hL : IsL h cols.toNat h.length L) (hle : L ≤ 1073741823) : Ev (fun k => column_Balance.f k h cols) (counts h L cols.toNat, (L : Int), true) := by
  have hp := (part_iff o.nn (L : Int) (by omega) cols.toNat).1 hL.is
  have hf := fill_ev o (L : Int) (by omega)
  unfold filled at hf
  rw [if_pos hp] at hf
  unfold column_Balance.f
  refine Ev.bind (least_ev o L hL) ?_
  simp only [if_true]
  exact Ev.bind hf (Ev.now _)
theorem balance_no {h : List Int} {cols : Int} (hl : h.length * 8 ≤ 140737488351232) (n : ¬ Ok h cols) : Ev (fun k => column_Balance.f k h cols) ([], 0, false) := by
  unfold column_Balance.f
  refine Ev.bind (least_no hl n) ?_
  refine Ev.congr (f := fun _ => some _) (fun k => ?_) (Ev.now _)
  simp

/-- One row of the reference's table. -/
structure Row (h : List Int) (c n : Nat) (x : List Int) : Prop where
  len : x.length = n
  cell : ∀ i : Nat, i < n → IsL h c i (rd x (i : Int))
theorem Row.add {h : List Int} {c n : Nat} {x : List Int} (r : Row h c n x) (v : Int) (hv : IsL h c n v) : Row h c (n + 1) (x ++ [v]) := by
  refine ⟨by simp [r.len], fun i hi => ?_⟩
  rw [rd_nat, List.getD_eq_getElem?_getD]
  by_cases e : i = n
  · subst e
    rw [List.getElem?_append_right (by rw [r.len]; exact Nat.le_refl _), r.len, Nat.sub_self]
    exact hv
  · rw [List.getElem?_append_left (by rw [r.len]; omega), ← List.getD_eq_getElem?_getD, ← rd_nat]
    exact r.cell i (by omega)
/-- What the inner loop has found. -/
structure Got (h : List Int) (c i j : Nat) (v : Int) : Prop where
  nn : 0 ≤ v
  is : ∃ k, j ≤ k ∧ k ≤ i ∧ Part h v c k ∧ pre h i - pre h k ≤ v
  least : ∀ m, 0 ≤ m → (∃ k, j ≤ k ∧ k ≤ i ∧ Part h m c k ∧ pre h i - pre h k ≤ m) → v ≤ m
theorem Got.start {h : List Int} {c i : Nat} {v : Int} (a : IsL h c i v) : Got h c i i v :=
  ⟨a.nn, ⟨i, Nat.le_refl _, Nat.le_refl _, a.is, by have := a.nn; omega⟩, fun m hm ⟨k, h1, h2, h3, _⟩ => a.least m hm (by rwa [show k = i by omega] at h3)⟩
theorem Got.next {h : List Int} (hn : NN h) {c i j : Nat} {v b : Int} (g : Got h c i (j + 1) v) (hj : j < i) (a : IsL h c j b) : Got h c i j (mn v (mx b (pre h i - pre h j))) := by
  have hp := pre_mono hn (show j ≤ i by omega)
  have hb := a.nn
  obtain ⟨w, hw⟩ : ∃ w, mx b (pre h i - pre h j) = w := ⟨_, rfl⟩
  have w1 : b ≤ w ∧ pre h i - pre h j ≤ w ∧ (w = b ∨ w = pre h i - pre h j) := by unfold mx at hw; split at hw <;> omega
  rw [hw]
  obtain ⟨u, hu⟩ : ∃ u, mn v w = u := ⟨_, rfl⟩
  have u1 : u ≤ v ∧ u ≤ w ∧ (u = v ∨ u = w) := by unfold mn at hu; split at hu <;> omega
  rw [hu]
  have hvn := g.nn
  refine ⟨by omega, ?_, fun m hm ⟨k, h1, h2, h3, h4⟩ => ?_⟩
  · rcases u1.2.2 with e | e
    · obtain ⟨k, h1, h2, h3, h4⟩ := g.is
      exact ⟨k, by omega, h2, by rw [e]; exact h3, by omega⟩
    · exact ⟨j, Nat.le_refl _, by omega, part_mono (by omega) _ _ a.is, by omega⟩
  · by_cases e : k = j
    · subst e
      have := a.least m hm h3
      omega
    · have := g.least m hm ⟨k, by omega, h2, h3, h4⟩
      omega
theorem Got.done {h : List Int} {c i : Nat} {v : Int} (g : Got h c i 0 v) : IsL h (c + 1) i v := by
  refine ⟨g.nn, ?_, fun m hm hp => ?_⟩
  · obtain ⟨k, _, h2, h3, h4⟩ := g.is
    exact ⟨k, h2, h3, h4⟩
  · obtain ⟨k, h2, h3, h4⟩ := hp
    exact g.least m hm ⟨k, Nat.zero_le _, h2, h3, h4⟩

section
variable {h : List Int} {cols : Int} (o : Ok h cols)
include o
theorem rleast_l3 (c i : Nat) (hi : i ≤ h.length) {x y : List Int} (rx : Row h c (h.length + 1) x) (hy : y.length ≤ 2001) {res : Int × Bool}
    (hnext : ∀ v, IsL h (c + 1) i v → Ev (fun k => variorumref19_Least.l2 k h cols (h.length : Int) x (c : Int) (y ++ [v]) ((i + 1 : Nat) : Int)) res) : ∀ (j : Nat) (v : Int), j ≤ i → Got h c i j v →
    Ev (fun k => variorumref19_Least.l3 k h cols (h.length : Int) x (c : Int) y (i : Int) v (pre h i - pre h j) ((j : Int) - 1)) res := by
  have hlen := o.len
  intro j
  induction j with
  | zero =>
    intro v _ g
    have g1 : ¬ (((0 : Nat) : Int) - 1) ≥ 0 := by omega
    have g2 : y.length < 17592186044416 := by omega
    have g3 : i ≤ 1000000000000000 := by omega
    refine Ev.step (fun k => ?_) (hnext v g.done)
    simp only [variorumref19_Least.l3]
    rw [if_neg g1, if_pos g2, succ_w i g3]
  | succ j ih =>
    intro v hj g
    have e0 : (((j + 1 : Nat) : Int) - 1) = (j : Int) := by omega
    have g1 : (j : Int) ≥ 0 := by omega
    have g2 : (0 : Int) ≤ (j : Int) := by omega
    have g3 : (j : Int) < (h.length : Int) := by omega
    have g4 : (j : Int) < (x.length : Int) := by rw [rx.len]; omega
    have e : pre h (j + 1) = pre h j + rd h (j : Int) := rfl
    have p1 := o.pre_le i
    have p2 := pre_nonneg o.nn i
    have p3 := o.pre_le j
    have p4 := pre_nonneg o.nn j
    have hn := ih _ (by omega) (g.next o.nn (by omega) (rx.cell j (by omega)))
    have ew : wrap64 (pre h i - pre h (j + 1) + rd h (j : Int)) = pre h i - pre h j := by rw [wrap_small (by omega)]; omega
    have ew2 : wrap64 ((j : Int) - 1) = (j : Int) - 1 := wrap_small (by omega)
    refine Ev.step (fun k => ?_) hn
    simp only [variorumref19_Least.l3]
    rw [e0, if_pos g1, if_pos g2, if_pos g3, if_pos g4, ew, ew2]
theorem rleast_l2 (c : Nat) {x : List Int} (rx : Row h c (h.length + 1) x) {res : Int × Bool}
    (hnext : ∀ y, Row h (c + 1) (h.length + 1) y → Ev (fun k => variorumref19_Least.l1 k h cols (h.length : Int) y ((c + 1 : Nat) : Int)) res) (hc : c ≤ 10) (d : Nat) : ∀ (i : Nat) (y : List Int), i + d = h.length + 1 → Row h (c + 1) i y →
    Ev (fun k => variorumref19_Least.l2 k h cols (h.length : Int) x (c : Int) y (i : Int)) res := by
  have hlen := o.len
  induction d with
  | zero =>
    intro i y hi ry
    have e : i = h.length + 1 := by omega
    subst e
    have g : ¬ ((h.length + 1 : Nat) : Int) ≤ (h.length : Int) := by omega
    have g2 : c ≤ 1000000000000000 := by omega
    refine Ev.step (fun k => ?_) (hnext y ry)
    simp only [variorumref19_Least.l2]
    rw [if_neg g, succ_w c g2]
  | succ d ih =>
    intro i y hi ry
    have g : (i : Int) ≤ (h.length : Int) := by omega
    have g1 : (0 : Int) ≤ (i : Int) := by omega
    have g2 : (i : Int) < (x.length : Int) := by rw [rx.len]; omega
    have ew : wrap64 ((i : Int) - 1) = (i : Int) - 1 := wrap_small (by omega)
    have hn := rleast_l3 o c i (by omega) rx (by rw [ry.len]; omega) (fun v hv => ih (i + 1) (y ++ [v]) (by omega) (ry.add v hv)) i (rd x (i : Int)) (Nat.le_refl _) (Got.start (rx.cell i (by omega)))
    rw [Int.sub_self] at hn
    refine Ev.step (fun k => ?_) hn
    simp only [variorumref19_Least.l2]
    rw [if_pos g, if_pos g1, if_pos g2, ew]
theorem rleast_l1 (L : Nat) (hL : IsL h cols.toNat h.length L) (d : Nat) : ∀ (c : Nat) (x : List Int), c + d = cols.toNat → Row h c (h.length + 1) x →
    Ev (fun k => variorumref19_Least.l1 k h cols (h.length : Int) x (c : Int)) ((L : Int), true) := by
  have h1 := o.c1
  have h2 := o.c2
  induction d with
  | zero =>
    intro c x hc rx
    have e : c = cols.toNat := by omega
    have g : ¬ (c : Int) < cols := by omega
    have g1 : (0 : Int) ≤ (h.length : Int) := by omega
    have g2 : (h.length : Int) < (x.length : Int) := by rw [rx.len]; omega
    have hcell := rx.cell h.length (by omega)
    rw [e] at hcell
    refine Ev.step (f := fun _ => some _) (fun k => ?_) (Ev.now _)
    simp only [variorumref19_Least.l1]
    rw [if_neg g, if_pos g1, if_pos g2, hcell.uniq hL]
  | succ d ih =>
    intro c x hc rx
    have g : (c : Int) < cols := by omega
    have hn := rleast_l2 o c rx (fun y ry => ih (c + 1) y (by omega) ry) (by omega) (h.length + 1) 0 [] (by omega) ⟨rfl, fun i hi => by omega⟩
    refine Ev.step (fun k => ?_) hn
    simp only [variorumref19_Least.l1]
    rw [if_pos g]
    rfl
theorem rleast_l0 {res : Int × Bool} (hnext : ∀ x, Row h 1 (h.length + 1) x → Ev (fun k => variorumref19_Least.l1 k h cols (h.length : Int) x 1) res) (d : Nat) : ∀ (i : Nat) (x : List Int), i + d = h.length + 1 → Row h 1 i x →
    Ev (fun k => variorumref19_Least.l0 k h cols (h.length : Int) x (i : Int)) res := by
  have hlen := o.len
  induction d with
  | zero =>
    intro i x hi rx
    have e : i = h.length + 1 := by omega
    subst e
    have g : ¬ ((h.length + 1 : Nat) : Int) ≤ (h.length : Int) := by omega
    refine Ev.step (fun k => ?_) (hnext x rx)
    simp only [variorumref19_Least.l0]
    rw [if_neg g]
  | succ d ih =>
    intro i x hi rx
    have g : (i : Int) ≤ (h.length : Int) := by omega
    have g1 : (0 : Int) ≤ (i : Int) := by omega
    have g2 : x.length < 17592186044416 := by rw [rx.len]; omega
    have g3 : i ≤ 1000000000000000 := by omega
    have hs := cut_sum o 0 i (Nat.zero_le _) (by omega)
    rw [List.drop_zero, show pre h i - pre h 0 = pre h i by show pre h i - 0 = _; omega] at hs
    have hn := ih (i + 1) (x ++ [pre h i]) (by omega) (rx.add _ (isL_one o.nn i))
    have hx : Ev (fun k => (variorumref19_Sum.f k (h.take i)).bind fun t => if x.length < 17592186044416 then variorumref19_Least.l0 k h cols (h.length : Int) (x ++ [t]) ((i + 1 : Nat) : Int) else none) res :=
      Ev.bind hs (by simp only [if_pos g2]; exact hn)
    refine Ev.step (fun k => ?_) hx
    simp only [variorumref19_Least.l0]
    rw [if_pos g, if_pos g1, if_pos g, Int.toNat_natCast, succ_w i g3]
theorem rleast_ev (L : Nat) (hL : IsL h cols.toNat h.length L) : Ev (fun k => variorumref19_Least.f k h cols) ((L : Int), true) := by
  have h1 := o.c1
  unfold variorumref19_Least.f
  refine Ev.bind (rmay_ev h cols true (by simp [o])) ?_
  simp only [if_true]
  exact rleast_l0 o (fun x rx => rleast_l1 o L hL (cols.toNat - 1) 1 x (by omega) rx) (h.length + 1) 0 [] (by omega) ⟨rfl, fun i hi => by omega⟩
theorem rbalance_ev (L : Nat) (hL : IsL h cols.toNat h.length L) (hle : L ≤ 1073741823) : Ev (fun k => variorumref19_Balance.f k h cols) (counts h L cols.toNat, (L : Int), true) := by
  have hp := (part_iff o.nn (L : Int) (by omega) cols.toNat).1 hL.is
  have hf := rfill_ev o (L : Int) (by omega)
  unfold filled at hf
  rw [if_pos hp] at hf
  unfold variorumref19_Balance.f
  refine Ev.bind (rleast_ev o L hL) ?_
  simp only [if_true]
  exact Ev.bind hf (Ev.now _)
end
theorem rleast_no {h : List Int} {cols : Int} (n : ¬ Ok h cols) : Ev (fun k => variorumref19_Least.f k h cols) (0, false) := by
  unfold variorumref19_Least.f
  refine Ev.bind (rmay_ev h cols false (by simp [n])) ?_
  refine Ev.congr (f := fun _ => some _) (fun k => ?_) (Ev.now _)
  simp
theorem rbalance_no {h : List Int} {cols : Int} (n : ¬ Ok h cols) : Ev (fun k => variorumref19_Balance.f k h cols) ([], 0, false) := by
  unfold variorumref19_Balance.f
  refine Ev.bind (rleast_no n) ?_
  refine Ev.congr (f := fun _ => some _) (fun k => ?_) (Ev.now _)
  simp

end Go.Proofs.Ytmhnccjdhhcjoaa.Pure

/- BlockClear: placed notes do not lie on one another, and stand in order. -/
import Derived.Test.YtmhnccjdhhcjoaaPAllx9
import Derived.Test.YtmhnccjdhhcjoaaPClear
namespace Go.Proofs.Ytmhnccjdhhcjoaa.Pure
set_option linter.unusedVariables false
set_option linter.unusedSimpArgs false
open Go.RowKit Go.Proofs.Ytmhnccjdhhcjoaa.PAll Go.Proofs.YtmhnccjdhhcjoaaW.PrintWords Go.Proofs.YtmhnccjdhhcjoaaW.PrintLast Go.Proofs.YtmhnccjdhhcjoaaW.PrintMore

/-- Placed notes are clear. -/
theorem spots_clear {h : List Int} {cols : Int} (o : Ok h cols) (room : Int) (n : Nat) (hfull : h.length ≤ pos h room n) : Clr (spots h room n) h := by
  have hp := pos_le h room n
  have hl := spots_length h room n
  refine ⟨by omega, fun i hi => ?_, fun i k hi hk on => ?_⟩
  · obtain ⟨c, c1, c2, c3⟩ := col_of h room n i (by omega)
    rw [spots_rd h room n c i c1 c2 c3]
    have p1 := o.pre_le i
    have p2 := pre_nonneg o.nn (pos h room c)
    have p3 := pre_mono o.nn c2
    have p4 := o.nn.all i
    have p5 := o.rd_le i
    exact ⟨⟨by dsimp only; omega, by dsimp only; omega⟩, ⟨by omega, by omega⟩⟩
  · obtain ⟨c, c1, c2, c3⟩ := col_of h room n i (by omega)
    obtain ⟨d, d1, d2, d3⟩ := col_of h room n k (by omega)
    have hcol := on.col
    have hge := on.ge
    have hlt := on.lt
    have hhas := on.has
    have hne := on.ne
    rw [spots_rd h room n c i c1 c2 c3, spots_rd h room n d k d1 d2 d3] at hcol hge hlt
    dsimp only at hcol hge hlt
    have e : c = d := by omega
    subst e
    by_cases b : k < i
    · have := pre_mono o.nn (show k + 1 ≤ i by omega)
      have e2 : pre h (k + 1) = pre h k + rd h (k : Int) := rfl
      omega
    · have := pre_mono o.nn (show i + 1 ≤ k by omega)
      have e2 : pre h (i + 1) = pre h i + rd h (i : Int) := rfl
      omega

theorem clear_l0 {h : List Int} {lay : Int} (o : Ok h (colsOf lay)) (L : Nat) (hL : IsL h (colsOf lay).toNat h.length L) (hLe : L ≤ 1073741823) (hfull : h.length ≤ pos h L (colsOf lay).toNat) (d : Nat) : ∀ i : Nat, i + d = h.length →
    Ev (fun k => variorumlaw20_BlockClear.l0 k lay h (spots h L (colsOf lay).toNat) (L : Int) (i : Int)) true := by
  have hlen := o.len
  have h1 := o.c1
  have hp := pos_le h L (colsOf lay).toNat
  have hl : (spots h L (colsOf lay).toNat).length = h.length := by rw [spots_length]; omega
  generalize hx : spots h L (colsOf lay).toNat = x at hl ⊢
  have hrd : ∀ c p, c < (colsOf lay).toNat → pos h L c ≤ p → p < pos h L (c + 1) → rd_T32 x (p : Int) = ⟨(c : Int), pre h p - pre h (pos h L c)⟩ := by
    intro c p h1 h2 h3; rw [← hx]; exact spots_rd h L _ c p h1 h2 h3
  induction d with
  | zero =>
    intro i hi
    have g : ¬ (i : Int) < (x.length : Int) := by omega
    refine Ev.step (f := fun _ => some true) (fun k => ?_) (Ev.now _)
    simp only [variorumlaw20_BlockClear.l0]
    rw [if_neg g]
  | succ d ih =>
    intro i hi
    have hn := ih (i + 1) (by omega)
    obtain ⟨c, c1, c2, c3⟩ := col_of h L (colsOf lay).toNat i (by omega)
    have hr := hrd c i c1 c2 c3
    have g : (i : Int) < (x.length : Int) := by omega
    have g0 : (0 : Int) ≤ (i : Int) := by omega
    have g1 : (i : Int) < (h.length : Int) := by omega
    have g9 : i ≤ 1000000000000000 := by omega
    have p1 := o.pre_le (i + 1)
    have p2 := pre_nonneg o.nn (pos h L c)
    have p3 := pre_mono o.nn c2
    have p4 := o.nn.all i
    have e1 : pre h (i + 1) = pre h i + rd h (i : Int) := rfl
    have p5 := pre_mono o.nn (show i + 1 ≤ pos h L (c + 1) by omega)
    have g2 : ¬ pre h i - pre h (pos h L c) < 0 := by omega
    have g3 : ¬ pre h i - pre h (pos h L c) + rd h (i : Int) > (L : Int) := by
      rcases pos_room h L c with e | e <;> omega
    have g4 : ¬ (c : Int) < 0 := by omega
    have g5 : ¬ (c : Int) ≥ colsOf lay := by omega
    have hj : Ev (fun k => variorumlaw20_BlockClear.j3 k lay h x (L : Int) (i : Int) false) true := by
      by_cases z : i = 0
      · have z2 : (i : Int) = 0 := by omega
        refine Ev.step (fun k => ?_) hn
        simp only [variorumlaw20_BlockClear.j3]
        rw [if_neg (by decide), if_pos z2, succ_w i g9]
      · obtain ⟨q, rfl⟩ : ∃ q, i = q + 1 := ⟨i - 1, by omega⟩
        have z2 : ¬ ((q + 1 : Nat) : Int) = 0 := by omega
        have k1 : (0 : Int) ≤ (q : Int) := by omega
        have k2 : (q : Int) < (x.length : Int) := by omega
        have k3 : (q : Int) < (h.length : Int) := by omega
        have q1 := o.pre_le (q + 1)
        have q2 := pre_nonneg o.nn (q + 1)
        have e2 : pre h (q + 1) = pre h q + rd h (q : Int) := rfl
        by_cases same : pos h L c ≤ q
        · have hr2 := hrd c q c1 same (by omega)
          have k4 : ¬ (c : Int) < (c : Int) := by omega
          have ev : pre h q - pre h (pos h L c) + rd h (q : Int) = pre h (q + 1) - pre h (pos h L c) := by omega
          have ew2 : wrap64 (pre h q - pre h (pos h L c) + rd h (q : Int)) = pre h (q + 1) - pre h (pos h L c) := by rw [ev]; exact wrap_small (by omega)
          have ew : wrap64 (((q + 1 : Nat) : Int) - 1) = (q : Int) := by rw [wrap_small (by omega)]; omega
          refine Ev.step (fun k => ?_) hn
          simp only [variorumlaw20_BlockClear.j3]
          rw [if_neg (by decide), if_neg z2, if_pos g0, if_pos g, ew, if_pos k1, if_pos k2, hr, hr2]
          dsimp only
          rw [if_neg k4, if_pos rfl, if_pos k3, ew2, if_pos rfl, if_pos rfl, succ_w _ g9]
        · obtain ⟨b, b1, b2, b3⟩ := col_of h L (colsOf lay).toNat q (by omega)
          have hr2 := hrd b q b1 b2 b3
          have hbc : b < c := by
            apply Nat.lt_of_not_le
            intro hle
            have hm : ∀ d, pos h L c ≤ pos h L (c + d) := by
              intro d
              induction d with
              | zero => exact Nat.le_refl _
              | succ d ihd => exact Nat.le_trans ihd (pos_step h L (c + d))
            have := hm (b - c)
            rw [show c + (b - c) = b by omega] at this
            omega
          have k4 : ¬ (c : Int) < (b : Int) := by omega
          have k5 : ¬ (c : Int) = (b : Int) := by omega
          have k6 : pre h (q + 1) - pre h (pos h L c) = 0 := by rw [show pos h L c = q + 1 by omega]; omega
          have ew : wrap64 (((q + 1 : Nat) : Int) - 1) = (q : Int) := by rw [wrap_small (by omega)]; omega
          refine Ev.step (fun k => ?_) hn
          simp only [variorumlaw20_BlockClear.j3]
          rw [if_neg (by decide), if_neg z2, if_pos g0, if_pos g, ew, if_pos k1, if_pos k2, hr, hr2]
          dsimp only
          rw [if_neg k4, if_neg k5, if_neg k5, if_pos k6, succ_w _ g9]
    have ew3 : wrap64 (pre h i - pre h (pos h L c) + rd h (i : Int)) = pre h i - pre h (pos h L c) + rd h (i : Int) := wrap_small (by omega)
    refine Ev.step (fun k => ?_) hj
    simp only [variorumlaw20_BlockClear.l0]
    rw [if_pos g, if_pos g0, hr]
    dsimp only
    rw [if_neg g2, if_pos g1, ew3, if_neg g3, if_neg g4, columns_f, Option.bind_some, decide_eq_false g5]

theorem BlockClear : variorumlaw20_BlockClear.Pure := by
  intro lay h hlay hl
  refine Ev.rounds (g := fun k => variorumlaw20_BlockClear.f k lay h) ?_
  unfold variorumlaw20_BlockClear.f
  have htrue : ∀ x5 x6, Ev (fun k => variorumlaw20_BlockClear.j0 k lay h x5 x6 true) true := by
    intro x5 x6
    refine Ev.step (f := fun k => (variorumlaw20_fixed.f k).bind fun t => some t) (fun k => ?_) (Ev.bind fixed_ev (Ev.now _))
    simp [variorumlaw20_BlockClear.j0]
  by_cases o : Ok h (colsOf lay)
  · obtain ⟨L, hL, hle⟩ := has_least o
    have t := o.tot
    have hlen := o.len
    have hfull := (part_iff o.nn (L : Int) (by omega) (colsOf lay).toNat).1 hL.is
    have hp := pos_le h L (colsOf lay).toNat
    have hsl := spots_length h L (colsOf lay).toNat
    refine Ev.bind (place_ev o L hL (by omega)) (Ev.bind fixed_ev ?_)
    simp only [if_true]
    by_cases h200 : (h.length : Int) > 200
    · rw [decide_eq_true h200]; exact htrue _ _
    · rw [decide_eq_false h200]
      have hc := clear_ev (spots h L (colsOf lay).toNat) h (by omega) true (by simp [spots_clear o L _ hfull])
      have hz := clear_l0 o L hL (by omega) hfull h.length 0 (by omega)
      have hj1 : Ev (fun k => variorumlaw20_BlockClear.j1 k lay h (spots h L (colsOf lay).toNat) (L : Int) false) true := by
        refine Ev.step (fun k => ?_) hz
        simp only [variorumlaw20_BlockClear.j1]
        rw [if_neg (by decide)]
        rfl
      have hy : Ev (fun k => (block_Clear.f k (spots h L (colsOf lay).toNat) h).bind fun t => variorumlaw20_BlockClear.j1 k lay h (spots h L (colsOf lay).toNat) (L : Int) (!t)) true := Ev.bind hc (by simpa using hj1)
      have g : ((spots h L (colsOf lay).toNat).length : Int) = (h.length : Int) := by omega
      refine Ev.step (fun k => ?_) hy
      simp only [variorumlaw20_BlockClear.j0]
      rw [if_neg (by decide), if_pos g]
  · refine Ev.bind (place_no hl.1 o) (Ev.bind fixed_ev ?_)
    refine Ev.congr (fun k => ?_) (htrue [] 0)
    simp

end Go.Proofs.Ytmhnccjdhhcjoaa.Pure

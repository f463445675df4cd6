/- FacingSpreads: the pages run on in pairs, each names a row of its chunk or is blank, and each chunk starts on a new pair. -/
import Derived.Test.YtmlabpegopkpkaaPAllx5
import Derived.Test.YtmlabpegopkpkaaPLib
namespace Go.Proofs.Ytmlabpegopkpkaa.Pure
set_option linter.unusedVariables false
set_option linter.unusedSimpArgs false
open Go.RowKit Go.Proofs.Ytmlabpegopkpkaa.PAll Go.Proofs.YtmlabpegopkpkaaW.PrintWords Go.Proofs.YtmlabpegopkpkaaW.PrintLast Go.Proofs.YtmlabpegopkpkaaW.PrintMore

theorem succ_w (n : Nat) (h : n ≤ 4000) : wrap64 ((n : Int) + 1) = ((n + 1 : Nat) : Int) := by rw [wrap_small (by omega)]; omega
theorem succ2_w (n : Nat) (h : n ≤ 4000) : wrap64 ((n : Int) + 2) = (n : Int) + 2 := by rw [wrap_small (by omega)]

/-- Find tells something of each. -/
theorem find_some (x : List S31) (side c j : Int) (hx : x.length ≤ 4000) : ∃ v, Ev (fun k => facing_Find.f k x side c j) v := by
  have key : ∀ (d i : Nat), i + d = x.length → ∃ v, Ev (fun k => facing_Find.l0 k side c j x (x.length : Int) i) v := by
    intro d
    induction d with
    | zero =>
      intro i hi
      refine ⟨-1, Ev.step (f := fun _ => some _) (fun k => ?_) (Ev.now _)⟩
      simp only [facing_Find.l0]
      rw [if_neg (by omega)]
    | succ d ih =>
      intro i hi
      obtain ⟨v, hv⟩ := ih (i + 1) (by omega)
      have g1 : (i : Int) < (x.length : Int) := by omega
      have g2 : (0 : Int) ≤ (i : Int) := by omega
      have g3 : i ≤ 4000 := by omega
      by_cases a : (rd_T31 x i).f1 = side ∧ (rd_T31 x i).f2 = c ∧ (rd_T31 x i).f3 = j
      · refine ⟨(rd_T31 x i).f0, Ev.step (f := fun _ => some _) (fun k => ?_) (Ev.now _)⟩
        simp only [facing_Find.l0]
        rw [if_pos g1, if_pos g2, if_pos g1, if_pos a.1, if_pos a.2.1, if_pos a.2.2]
      · refine ⟨v, Ev.step (f := fun k => facing_Find.l0 k side c j x (x.length : Int) ((i + 1 : Nat) : Int)) (fun k => ?_) hv⟩
        simp only [facing_Find.l0]
        rw [if_pos g1, if_pos g2, if_pos g1, succ_w i g3]
        by_cases a1 : (rd_T31 x i).f1 = side
        · by_cases a2 : (rd_T31 x i).f2 = c
          · rw [if_pos a1, if_pos a2, if_neg (fun a3 => a ⟨a1, a2, a3⟩)]
          · rw [if_pos a1, if_neg a2]
        · rw [if_neg a1]
  exact key x.length 0 (by omega)

theorem before_le (l r : List Int) (m n : Nat) (h : m ≤ n) : before l r m ≤ before l r n := by
  have key : ∀ d, before l r m ≤ before l r (m + d) := by
    intro d
    induction d with
    | zero => exact Nat.le_refl _
    | succ d ihd => exact Nat.le_trans ihd (Nat.le_add_right _ _)
  have h2 := key (n - m)
  rw [show m + (n - m) = n by omega] at h2
  exact h2
theorem many_mx (l r : List Int) (c : Nat) (h1 : 0 ≤ rd l c) (h2 : 0 ≤ rd r c) : (many l r c : Int) = mx (rd l c) (rd r c) := by
  unfold many mx
  split <;> omega
theorem side_le (l r : List Int) (c : Nat) (σ : Bool) (h1 : 0 ≤ rd l c) (h2 : 0 ≤ rd r c) : 0 ≤ ofSide l r c σ ∧ ofSide l r c σ ≤ (many l r c : Int) := by
  rw [many_mx l r c h1 h2]
  unfold mx ofSide
  cases σ
  · rw [if_neg (by decide)]; split <;> omega
  · rw [if_pos rfl]; split <;> omega
def Fine (l r : List Int) : Prop := ∀ c : Nat, c < l.length → 0 ≤ rd l c ∧ rd l c ≤ 2000 ∧ 0 ≤ rd r c ∧ rd r c ≤ 2000

/-- The rows of the right side of a chunk. -/
theorem rows_right (l r : List Int) (he : l.length = r.length) (hl50 : l.length ≤ 50) (hb : before l r l.length ≤ 2000) (hf : Fine l r) (c : Nat) (hc : c < l.length) (at_ x13 : Int)
    (h13 : 0 < rd r c → x13 = 2 * ((before l r c : Nat) : Int) + 3) (hat : at_ = 2 * ((before l r c : Nat) : Int) + 1)
    (hnext : Ev (fun k => variorumlaw23_FacingSpreads.l1 k l r (pagesL l r l.length) (2 * ((before l r (c + 1) : Nat) : Int) + 1) ((c + 1 : Nat) : Int)) true) (d : Nat) :
    ∀ j : Nat, j + d = (rd r c).toNat → Ev (fun k => variorumlaw23_FacingSpreads.l3 k l r (pagesL l r l.length) at_ c x13 j) true := by
  obtain ⟨f1, f2, f3, f4⟩ := hf c hc
  have hm := many_mx l r c f1 f3
  have hb1 : before l r (c + 1) = before l r c + many l r c := rfl
  have hb2 := before_le l r (c + 1) l.length (by omega)
  have g1 : (0 : Int) ≤ (c : Int) := by omega
  have g2 : (c : Int) < (l.length : Int) := by omega
  have g3 : (c : Int) < (r.length : Int) := by omega
  have g4 : c ≤ 4000 := by omega
  induction d with
  | zero =>
    intro j hj
    have g5 : ¬ (j : Int) < rd r c := by omega
    have e : wrap64 (at_ + wrap64 (2 * mx (rd l c) (rd r c))) = 2 * ((before l r (c + 1) : Nat) : Int) + 1 := by
      rw [← hm, wrap_small (x := 2 * ((many l r c : Nat) : Int)) (by omega), wrap_small (by omega)]
      omega
    refine Ev.step (fun k => ?_) hnext
    simp only [variorumlaw23_FacingSpreads.l3]
    rw [if_pos g1, if_pos g3, if_neg g5, if_pos g2, e, succ_w c g4]
  | succ d ih =>
    intro j hj
    have g5 : (j : Int) < rd r c := by omega
    have g6 : j ≤ 4000 := by omega
    have hs := side_le l r c true f1 f3
    have hfp := find_page l r hb c j true hc (by have : ofSide l r c true = rd r c := rfl; omega) g5
    have e : 2 * ((before l r c + j : Nat) + 1 : Int) + sideNo true = wrap64 (x13 + wrap64 (2 * (j : Int))) := by
      rw [h13 (by omega), wrap_small (x := 2 * (j : Int)) (by omega), wrap_small (by omega)]
      unfold sideNo
      rw [if_pos rfl]
      omega
    rw [e] at hfp
    have h : Ev (fun k => (facing_Find.f k (pagesL l r l.length) 1 c j).bind fun t => if t = wrap64 (x13 + wrap64 (2 * (j : Int))) then variorumlaw23_FacingSpreads.l3 k l r (pagesL l r l.length) at_ c x13 ((j + 1 : Nat) : Int) else none) true :=
      Ev.bind hfp (by simp only [if_true]; exact ih (j + 1) (by omega))
    refine Ev.step (fun k => ?_) h
    simp only [variorumlaw23_FacingSpreads.l3]
    rw [if_pos g1, if_pos g3, if_pos g5, succ_w j g6]

theorem rows_left (l r : List Int) (he : l.length = r.length) (hl50 : l.length ≤ 50) (hb : before l r l.length ≤ 2000) (hf : Fine l r) (c : Nat) (hc : c < l.length) (at_ x12 x13 : Int)
    (h12 : 0 < rd l c → x12 = 2 * ((before l r c : Nat) : Int) + 2) 
    (h13 : 0 < rd r c → x13 = 2 * ((before l r c : Nat) : Int) + 3) (hat : at_ = 2 * ((before l r c : Nat) : Int) + 1)
    (hnext : Ev (fun k => variorumlaw23_FacingSpreads.l1 k l r (pagesL l r l.length) (2 * ((before l r (c + 1) : Nat) : Int) + 1) ((c + 1 : Nat) : Int)) true) (d : Nat) :
    ∀ j : Nat, j + d = (rd l c).toNat → Ev (fun k => variorumlaw23_FacingSpreads.l2 k l r (pagesL l r l.length) at_ c x12 x13 j) true := by
  obtain ⟨f1, f2, f3, f4⟩ := hf c hc
  have g1 : (0 : Int) ≤ (c : Int) := by omega
  have g2 : (c : Int) < (l.length : Int) := by omega
  have hb1 : before l r (c + 1) = before l r c + many l r c := rfl
  have hb2 := before_le l r (c + 1) l.length (by omega)
  induction d with
  | zero =>
    intro j hj
    have g5 : ¬ (j : Int) < rd l c := by omega
    refine Ev.step (f := fun k => variorumlaw23_FacingSpreads.l3 k l r (pagesL l r l.length) at_ c x13 ((0 : Nat) : Int)) (fun k => ?_) (rows_right l r he hl50 hb hf c hc at_ x13 h13 hat hnext (rd r c).toNat 0 (by omega))
    simp only [variorumlaw23_FacingSpreads.l2]
    rw [if_pos g1, if_pos g2, if_neg g5]
    rfl
  | succ d ih =>
    intro j hj
    have g5 : (j : Int) < rd l c := by omega
    have g6 : j ≤ 4000 := by omega
    have hs := side_le l r c false f1 f3
    have hfp := find_page l r hb c j false hc (by have : ofSide l r c false = rd l c := rfl; omega) g5
    have e : 2 * ((before l r c + j : Nat) + 1 : Int) + sideNo false = wrap64 (x12 + wrap64 (2 * (j : Int))) := by
      rw [h12 (by omega), wrap_small (x := 2 * (j : Int)) (by omega), wrap_small (by omega)]
      unfold sideNo
      rw [if_neg (by decide)]
      omega
    rw [e] at hfp
    have h : Ev (fun k => (facing_Find.f k (pagesL l r l.length) 0 c j).bind fun t => if t = wrap64 (x12 + wrap64 (2 * (j : Int))) then variorumlaw23_FacingSpreads.l2 k l r (pagesL l r l.length) at_ c x12 x13 ((j + 1 : Nat) : Int) else none) true :=
      Ev.bind hfp (by simp only [if_true]; exact ih (j + 1) (by omega))
    refine Ev.step (fun k => ?_) h
    simp only [variorumlaw23_FacingSpreads.l2]
    rw [if_pos g1, if_pos g2, if_pos g5, succ_w j g6]

/-- Where the first page of a side of a chunk stands. -/
theorem find_first (l r : List Int) (hb : before l r l.length ≤ 2000) (hf : Fine l r) (c : Nat) (hc : c < l.length) (σ : Bool) : ∃ v, Ev (fun k => facing_Find.f k (pagesL l r l.length) (sideNo σ) c 0) v ∧
    (0 < ofSide l r c σ → v = 2 * ((before l r c : Nat) : Int) + 2 + sideNo σ) := by
  obtain ⟨f1, f2, f3, f4⟩ := hf c hc
  have hl := pagesL_length l r l.length
  by_cases h : 0 < ofSide l r c σ
  · have hs := side_le l r c σ f1 f3
    have hv := find_page l r hb c 0 σ hc (by omega) (by omega)
    refine ⟨_, hv, fun _ => ?_⟩
    omega
  · obtain ⟨v, hv⟩ := find_some (pagesL l r l.length) (sideNo σ) c 0 (by omega)
    exact ⟨v, hv, fun g => absurd g h⟩

theorem spreads_l1 (l r : List Int) (he : l.length = r.length) (hl50 : l.length ≤ 50) (hb : before l r l.length ≤ 2000) (hf : Fine l r) (d : Nat) : ∀ c : Nat, c + d = l.length →
    Ev (fun k => variorumlaw23_FacingSpreads.l1 k l r (pagesL l r l.length) (2 * ((before l r c : Nat) : Int) + 1) c) true := by
  have hl := pagesL_length l r l.length
  induction d with
  | zero =>
    intro c hc
    have e : c = l.length := by omega
    subst e
    have e1 : wrap64 (2 * ((before l r l.length : Nat) : Int) + 1 - 1) = ((2 * before l r l.length : Nat) : Int) := by rw [wrap_small (by omega)]; omega
    have g : ¬ (l.length : Int) < (l.length : Int) := by omega
    refine Ev.step (f := fun _ => some true) (fun k => ?_) (Ev.now _)
    simp only [variorumlaw23_FacingSpreads.l1]
    rw [if_neg g, e1, hl]
    simp
  | succ d ih =>
    intro c hc
    have hnext := ih (c + 1) (by omega)
    have hcl : c < l.length := by omega
    obtain ⟨f1, f2, f3, f4⟩ := hf c hcl
    have g1 : (0 : Int) ≤ (c : Int) := by omega
    have g2 : (c : Int) < (l.length : Int) := by omega
    have g3 : (c : Int) < (r.length : Int) := by omega
    have hb2 := before_le l r c l.length (by omega)
    obtain ⟨x12, hv12, h12⟩ := find_first l r hb hf c hcl false
    obtain ⟨x13, hv13, h13⟩ := find_first l r hb hf c hcl true
    have h12 : 0 < rd l c → x12 = 2 * ((before l r c : Nat) : Int) + 2 := fun g => by have := h12 g; rw [this]; unfold sideNo; rw [if_neg (by decide)]; omega
    have h13 : 0 < rd r c → x13 = 2 * ((before l r c : Nat) : Int) + 3 := fun g => by have := h13 g; rw [this]; unfold sideNo; rw [if_pos rfl]; omega
    generalize hat : 2 * ((before l r c : Nat) : Int) + 1 = at_
    have h7 : Ev (fun k => variorumlaw23_FacingSpreads.j7 k l r (pagesL l r l.length) at_ c x12 x13 false) true := by
      refine Ev.step (f := fun k => variorumlaw23_FacingSpreads.l2 k l r (pagesL l r l.length) at_ c x12 x13 ((0 : Nat) : Int)) (fun k => ?_) (rows_left l r he hl50 hb hf c hcl at_ x12 x13 h12 h13 hat.symm hnext (rd l c).toNat 0 (by omega))
      simp [variorumlaw23_FacingSpreads.j7]
    have h6t : Ev (fun k => variorumlaw23_FacingSpreads.j6 k l r (pagesL l r l.length) at_ c x12 x13 true) true := by
      refine Ev.step (f := fun _ => some true) (fun k => ?_) (Ev.now _)
      simp [variorumlaw23_FacingSpreads.j6]
    have h6f : Ev (fun k => variorumlaw23_FacingSpreads.j6 k l r (pagesL l r l.length) at_ c x12 x13 false) true := by
      refine Ev.step (fun k => ?_) h7
      simp only [variorumlaw23_FacingSpreads.j6]
      rw [if_neg (by decide), if_pos g1, if_pos g2]
      by_cases a : rd l c > 0
      · have e12 := h12 a
        have k1 : Int.tmod x12 2 = 0 := by rw [Int.tmod_eq_emod_of_nonneg (by omega)]; omega
        have k2 : ¬ x12 ≤ at_ := by omega
        rw [if_pos a, if_pos g3, if_pos k1, if_neg k2]
        by_cases b : rd r c > 0
        · have e13 := h13 b
          have k3 : Int.tmod x13 2 = 1 := by rw [Int.tmod_eq_emod_of_nonneg (by omega)]; omega
          have k4 : ¬ x13 ≤ at_ := by omega
          have k5 : x13 = wrap64 (x12 + 1) := by rw [wrap_small (by omega)]; omega
          rw [if_pos b, if_pos k5, if_pos k3, decide_eq_false k4]
        · rw [if_neg b, if_pos k1, if_neg k2]
      · rw [if_neg a, if_pos g3]
        by_cases b : rd r c > 0
        · have e13 := h13 b
          have k3 : Int.tmod x13 2 = 1 := by rw [Int.tmod_eq_emod_of_nonneg (by omega)]; omega
          have k4 : ¬ x13 ≤ at_ := by omega
          rw [if_pos b, if_pos k3, decide_eq_false k4]
        · rw [if_neg b]
    have h6 : ∀ b, Ev (fun k => variorumlaw23_FacingSpreads.j6 k l r (pagesL l r l.length) at_ c x12 x13 b) true := by
      intro b
      cases b
      · exact h6f
      · exact h6t
    have hx : Ev (fun k => (facing_Find.f k (pagesL l r l.length) 0 c 0).bind fun t206 => (facing_Find.f k (pagesL l r l.length) 1 c 0).bind fun t207 => if rd l c > 50 then variorumlaw23_FacingSpreads.j6 k l r (pagesL l r l.length) at_ c t206 t207 true else variorumlaw23_FacingSpreads.j6 k l r (pagesL l r l.length) at_ c t206 t207 (decide (rd r c > 50))) true := by
      refine Ev.bind hv12 (Ev.bind hv13 ?_)
      by_cases a : rd l c > 50
      · simp only [if_pos a]; exact h6 _
      · simp only [if_neg a]; exact h6 _
    refine Ev.step (fun k => ?_) hx
    simp only [variorumlaw23_FacingSpreads.l1]
    rw [if_pos g2]
    simp only [if_pos g1, if_pos g3]

theorem spreads_l0 (l r : List Int) (he : l.length = r.length) (hl50 : l.length ≤ 50) (hb : before l r l.length ≤ 2000) (hf : Fine l r) (d : Nat) : ∀ q : Nat, q + d = 2 * before l r l.length →
    Ev (fun k => variorumlaw23_FacingSpreads.l0 k l r (pagesL l r l.length) q) true := by
  have hl := pagesL_length l r l.length
  induction d with
  | zero =>
    intro q hqd
    have g : ¬ (q : Int) < ((pagesL l r l.length).length : Int) := by omega
    have h := spreads_l1 l r he hl50 hb hf l.length 0 (by omega)
    refine Ev.step (fun k => ?_) h
    simp only [variorumlaw23_FacingSpreads.l0]
    rw [if_neg g]
    rfl
  | succ d ih =>
    intro q hqd
    have hnext := ih (q + 1) (by omega)
    obtain ⟨c, i, σ, hc, hi, hp⟩ := place l r l.length q (by omega)
    have hr := pages_rd l r l.length c i σ hc hi
    rw [← hp, cell_parts] at hr
    obtain ⟨f1, f2, f3, f4⟩ := hf c hc
    have hs := side_le l r c σ f1 f3
    have g0 : (q : Int) < ((pagesL l r l.length).length : Int) := by omega
    have g1 : (0 : Int) ≤ (q : Int) := by omega
    have g2 : (0 : Int) ≤ (c : Int) := by omega
    have g3 : (c : Int) < (l.length : Int) := by omega
    have g4 : (c : Int) < (r.length : Int) := by omega
    have g5 : q ≤ 4000 := by omega
    have hside : sideNo σ = if σ = true then 1 else 0 := rfl
    have e0 : 2 * ((before l r c + i : Nat) + 1 : Int) + sideNo σ = (q : Int) + 2 := by
      rw [hside, hp]
      cases σ
      · rw [if_neg (by decide), if_neg (by decide)]; omega
      · rw [if_pos rfl, if_pos rfl]; omega
    have e1 : sideNo σ = Int.tmod ((q : Int) + 2) 2 := by
      rw [Int.tmod_eq_emod_of_nonneg (by omega), hp, hside]
      cases σ
      · rw [if_neg (by decide), if_neg (by decide)]; omega
      · rw [if_pos rfl, if_pos rfl]; omega
    rw [e0] at hr
    generalize hw : which i (ofSide l r c σ) = w at hr
    have hw1 : ¬ w < -1 := by rw [← hw]; unfold which; split <;> omega
    have h4 : Ev (fun k => variorumlaw23_FacingSpreads.j4 k l r (pagesL l r l.length) q false) true := by
      refine Ev.step (fun k => ?_) hnext
      simp only [variorumlaw23_FacingSpreads.j4]
      rw [if_neg (by decide), succ_w q g5]
    have h3 : Ev (fun k => variorumlaw23_FacingSpreads.j3 k l r (pagesL l r l.length) q (ofSide l r c σ) ((q : Int) + 2) (sideNo σ) c w) true := by
      by_cases a : (i : Int) ≥ ofSide l r c σ
      · have ew : w = -1 := by rw [← hw]; unfold which; rw [if_pos a]
        have k1 : ¬ (-1 : Int) ≥ ofSide l r c σ := by omega
        subst ew
        by_cases z : 0 < ofSide l r c σ
        · have e2 : wrap64 (ofSide l r c σ - 1) = (((ofSide l r c σ).toNat - 1 : Nat) : Int) := by rw [wrap_small (by omega)]; omega
          have hv := find_page l r hb c ((ofSide l r c σ).toNat - 1) σ hc (by omega) (by omega)
          have k2 : ¬ 2 * ((before l r c + ((ofSide l r c σ).toNat - 1) : Nat) + 1 : Int) + sideNo σ > (q : Int) + 2 := by omega
          rw [← e2] at hv
          have hx : Ev (fun k => (facing_Find.f k (pagesL l r l.length) (sideNo σ) c (wrap64 (ofSide l r c σ - 1))).bind fun t => if t > (q : Int) + 2 then variorumlaw23_FacingSpreads.j4 k l r (pagesL l r l.length) q (decide (ofSide l r c σ > 0)) else variorumlaw23_FacingSpreads.j4 k l r (pagesL l r l.length) q false) true :=
            Ev.bind hv (by simp only [if_neg k2]; exact h4)
          refine Ev.step (fun k => ?_) hx
          simp only [variorumlaw23_FacingSpreads.j3]
          rw [if_neg k1, if_pos trivial]
        · obtain ⟨v, hv⟩ := find_some (pagesL l r l.length) (sideNo σ) c (wrap64 (ofSide l r c σ - 1)) (by omega)
          have k3 : ¬ ofSide l r c σ > 0 := z
          have hx : Ev (fun k => (facing_Find.f k (pagesL l r l.length) (sideNo σ) c (wrap64 (ofSide l r c σ - 1))).bind fun t => if t > (q : Int) + 2 then variorumlaw23_FacingSpreads.j4 k l r (pagesL l r l.length) q (decide (ofSide l r c σ > 0)) else variorumlaw23_FacingSpreads.j4 k l r (pagesL l r l.length) q false) true :=
            Ev.bind hv (by
              rw [decide_eq_false k3]
              by_cases z2 : v > (q : Int) + 2
              · simp only [if_pos z2]; exact h4
              · simp only [if_neg z2]; exact h4)
          refine Ev.step (fun k => ?_) hx
          simp only [variorumlaw23_FacingSpreads.j3]
          rw [if_neg k1, if_pos trivial]
      · have ew : w = i := by rw [← hw]; unfold which; rw [if_neg a]
        subst ew
        have k1 : ¬ (i : Int) ≥ ofSide l r c σ := a
        have k2 : ¬ (i : Int) = -1 := by omega
        refine Ev.step (fun k => ?_) h4
        simp only [variorumlaw23_FacingSpreads.j3]
        rw [if_neg k1, if_neg k2]
    have h2 : Ev (fun k => variorumlaw23_FacingSpreads.j2 k l r (pagesL l r l.length) q false ((q : Int) + 2) (sideNo σ) c w) true := by
      refine Ev.step (fun k => ?_) h3
      simp only [variorumlaw23_FacingSpreads.j2]
      rw [if_neg (by decide), if_pos g2, if_pos g3, if_pos g4]
      cases σ
      · rw [if_neg (by decide)]; rfl
      · rw [if_pos (by decide)]; rfl
    refine Ev.step (fun k => ?_) h2
    have k5 : ¬ (c : Int) < 0 := by omega
    have k6 : ¬ (c : Int) ≥ (l.length : Int) := by omega
    simp only [variorumlaw23_FacingSpreads.l0]
    rw [if_pos g0, if_pos g1, hr]
    dsimp only
    rw [succ2_w q g5, if_pos rfl, if_pos e1, if_neg k5, if_neg k6, decide_eq_false hw1]

theorem FacingSpreads : variorumlaw23_FacingSpreads.Pure := by
  intro l r hl hr
  obtain ⟨res, ht, hev⟩ := pages_ev l r hl.1
  refine Ev.rounds (g := fun k => variorumlaw23_FacingSpreads.f k l r) ?_
  unfold variorumlaw23_FacingSpreads.f
  refine Ev.bind hev (Ev.bind fixed_ev ?_)
  simp only [if_true]
  have htrue : (res.2.1 ≠ 0 → res.1 = []) → Ev (fun k => variorumlaw23_FacingSpreads.j0 k l r res.1 true res.2.1 res.2.2) true := by
    intro h
    refine Ev.step (f := fun k => (variorumlaw23_fixed.f k).bind fun t => if t = true then (if res.2.1 = 0 then some true else some ((res.1.length : Int) == 0)) else none) (fun k => ?_) (Ev.bind fixed_ev ?_)
    · simp [variorumlaw23_FacingSpreads.j0]
    · by_cases z : res.2.1 = 0
      · simp only [if_true, if_pos z]; exact Ev.now _
      · rw [h z]; simp only [if_true, if_neg z]; exact Ev.now _
  rcases ht with ⟨h1, h2⟩ | ⟨he, rfl, hq, hb⟩
  · simp only [if_neg h1]
    exact htrue (fun _ => h2)
  · simp only [if_true]
    by_cases h50 : l.length ≤ 50
    · rw [decide_eq_false (by omega)]
      have h := spreads_l0 l r he h50 hb hq (2 * before l r l.length) 0 (by omega)
      refine Ev.step (fun k => ?_) h
      simp [variorumlaw23_FacingSpreads.j0]
    · rw [decide_eq_true (by omega)]
      exact htrue (by simp)

end Go.Proofs.Ytmlabpegopkpkaa.Pure

/- Widths' plain lemmas: what each piece of glue comes to: no less than its width but for its shrink. -/
import Derived.Test.YtpfnfofaajpdmaaPWix10
import Derived.Test.YtpfnfofaajpdmaaVPlain
namespace Go.Proofs.Ytpfnfofaajpdmaa.Pure
set_option linter.unusedVariables false
set_option linter.unusedSimpArgs false
open Go.RowKit Go.Proofs.Ytpfnfofaajpdmaa.PWi Go.Proofs.YtpfnfofaajpdmaaW.PrintWords Go.Proofs.YtpfnfofaajpdmaaW.PrintLast Go.Proofs.YtpfnfofaajpdmaaW.PrintMore

/-- By how much a piece gives. -/
def gv (x : S38) (s : T5) : Int := if s.1 > 0 then (if x.f3 = s.2.1 then x.f1 else 0) else if s.1 < 0 then x.f2 else 0
theorem gives_ev (x : S38) (s : T5) : Ev (fun k => glue_gives.f k x.f0 x.f1 x.f2 x.f3 s.1 s.2.1 s.2.2.1 s.2.2.2.1) (gv x s) := by
  unfold glue_gives.f gv
  by_cases c : s.1 > 0
  · simp only [if_pos c]
    by_cases c2 : x.f3 = s.2.1
    · refine Ev.step (f := fun _ => some x.f1) (fun k => ?_) (by rw [if_pos c2]; exact Ev.now _)
      simp [glue_gives.j0, c2]
    · refine Ev.step (f := fun _ => some 0) (fun k => ?_) (by rw [if_neg c2]; exact Ev.now _)
      have : ¬ s.1 < 0 := by omega
      simp [glue_gives.j0, c2, this]
  · simp only [if_neg c]
    by_cases c2 : s.1 < 0
    · refine Ev.step (f := fun _ => some x.f2) (fun k => ?_) (by rw [if_pos c2]; exact Ev.now _)
      simp [glue_gives.j0, c2]
    · refine Ev.step (f := fun _ => some 0) (fun k => ?_) (by rw [if_neg c2]; exact Ev.now _)
      simp [glue_gives.j0, c2]
def al (g : List S38) (s : T5) : Nat → Nat → Int → Int
  | 0, _, acc => acc
  | d + 1, i, acc => al g s d (i + 1) (wrap64 (acc + gv (rd_T38 g (i : Int)) s))
def wl (g : List S38) (s : T5) (all part : Int) : Nat → Nat → Int → Int → List Int
  | 0, _, _, _ => []
  | d + 1, i, sum, ahead =>
    if all > 0 then wrap64 ((rd_T38 g (i : Int)).f0 + wrap64 (wrap64 (Int.tdiv (wrap64 (part * wrap64 (sum + gv (rd_T38 g (i : Int)) s))) all) - ahead)) :: wl g s all part d (i + 1) (wrap64 (sum + gv (rd_T38 g (i : Int)) s)) (wrap64 (Int.tdiv (wrap64 (part * wrap64 (sum + gv (rd_T38 g (i : Int)) s))) all))
    else (rd_T38 g (i : Int)).f0 :: wl g s all part d (i + 1) sum ahead
def pt_ (s : T5) (all : Int) : Int := if s.1 < 0 then wrap64 (-(mn (wrap64 (-s.2.2.1)) all)) else s.2.2.1
/-- The widths of glue that is set. -/
def ws (g : List S38) (t : Int) : List Int := wl g (sv g t) (al g (sv g t) g.length 0 0) (pt_ (sv g t) (al g (sv g t) g.length 0 0)) g.length 0 0 0
theorem wl_len (g : List S38) (s : T5) (all part : Int) : ∀ d i sum ahead, (wl g s all part d i sum ahead).length = d
  | 0, _, _, _ => rfl
  | d + 1, i, sum, ahead => by
    simp only [wl]
    split
    · rw [List.length_cons, wl_len g s all part d]
    · rw [List.length_cons, wl_len g s all part d]
theorem ws_len (g : List S38) (t : Int) : (ws g t).length = g.length := wl_len _ _ _ _ _ _ _ _
theorem l1_ev (g : List S38) (s : T5) (all part : Int) (hl : g.length ≤ 2000) : ∀ (d i : Nat) (acc : List Int) (sum ahead : Int), i + d = g.length → acc.length ≤ i → Ev (fun k => glue_Widths.l1 k all part acc sum ahead g (g.length : Int) (i : Int) s.1 s.2.1 s.2.2.1 s.2.2.2.1) (acc ++ wl g s all part d i sum ahead, true) := by
  intro d
  induction d with
  | zero =>
    intro i acc sum ahead hi ha
    refine Ev.step (f := fun _ => some _) (fun k => ?_) (Ev.now _)
    simp only [glue_Widths.l1, wl, List.append_nil]
    rw [if_neg (by omega)]
  | succ d ih =>
    intro i acc sum ahead hi ha
    have g1 : (i : Int) < (g.length : Int) := by omega
    have g2 : (0 : Int) ≤ (i : Int) := by omega
    have g3 : acc.length < 17592186044416 := by omega
    by_cases c : all > 0
    · have g4 : ¬ all = 0 := by omega
      have h := ih (i + 1) (acc ++ [wrap64 ((rd_T38 g (i : Int)).f0 + wrap64 (wrap64 (Int.tdiv (wrap64 (part * wrap64 (sum + gv (rd_T38 g (i : Int)) s))) all) - ahead))]) (wrap64 (sum + gv (rd_T38 g (i : Int)) s)) (wrap64 (Int.tdiv (wrap64 (part * wrap64 (sum + gv (rd_T38 g (i : Int)) s))) all)) (by omega) (by rw [List.length_append, List.length_singleton]; omega)
      rw [List.append_assoc] at h
      refine Ev.step (f := fun k => (glue_gives.f k (rd_T38 g (i : Int)).f0 (rd_T38 g (i : Int)).f1 (rd_T38 g (i : Int)).f2 (rd_T38 g (i : Int)).f3 s.1 s.2.1 s.2.2.1 s.2.2.2.1).bind fun t => glue_Widths.l1 k all part (acc ++ [wrap64 ((rd_T38 g (i : Int)).f0 + wrap64 (wrap64 (Int.tdiv (wrap64 (part * wrap64 (sum + t))) all) - ahead))]) (wrap64 (sum + t)) (wrap64 (Int.tdiv (wrap64 (part * wrap64 (sum + t))) all)) g (g.length : Int) ((i + 1 : Nat) : Int) s.1 s.2.1 s.2.2.1 s.2.2.2.1) (fun k => ?_) (Ev.bind (gives_ev _ s) ?_)
      · simp only [glue_Widths.l1]
        rw [if_pos g1, if_pos g2, if_pos g1, if_pos c, succ_w i (by omega)]
        simp only [if_neg g4, if_pos g3]
      · simp only [wl, if_pos c]
        exact h
    · have h := ih (i + 1) (acc ++ [(rd_T38 g (i : Int)).f0]) sum ahead (by omega) (by rw [List.length_append, List.length_singleton]; omega)
      rw [List.append_assoc] at h
      simp only [wl, if_neg c]
      refine Ev.step (fun k => ?_) h
      simp only [glue_Widths.l1]
      rw [if_pos g1, if_pos g2, if_pos g1, if_neg c, if_pos g3, succ_w i (by omega)]
theorem l0_ev (g : List S38) (s : T5) (hl : g.length ≤ 2000) : ∀ (d i : Nat) (acc : Int), i + d = g.length → Ev (fun k => glue_Widths.l0 k g acc g (g.length : Int) (i : Int) s.1 s.2.1 s.2.2.1 s.2.2.2.1) (wl g s (al g s d i acc) (pt_ s (al g s d i acc)) g.length 0 0 0, true) := by
  intro d
  induction d with
  | zero =>
    intro i acc hi
    have h := l1_ev g s acc (pt_ s acc) hl g.length 0 [] 0 0 (by omega) (by simp)
    rw [List.nil_append] at h
    have h2 : Ev (fun k => glue_Widths.j1 k g acc (pt_ s acc) s.1 s.2.1 s.2.2.1 s.2.2.2.1) (wl g s acc (pt_ s acc) g.length 0 0 0, true) := by
      refine Ev.step (fun k => ?_) h
      simp only [glue_Widths.j1]
      rfl
    simp only [al]
    refine Ev.step (fun k => ?_) h2
    simp only [glue_Widths.l0]
    rw [if_neg (show ¬ (i : Int) < (g.length : Int) by omega)]
    unfold pt_
    by_cases c : s.1 < 0
    · rw [if_pos c, if_pos c]
    · rw [if_neg c, if_neg c]
  | succ d ih =>
    intro i acc hi
    have g1 : (i : Int) < (g.length : Int) := by omega
    have g2 : (0 : Int) ≤ (i : Int) := by omega
    refine Ev.step (f := fun k => (glue_gives.f k (rd_T38 g (i : Int)).f0 (rd_T38 g (i : Int)).f1 (rd_T38 g (i : Int)).f2 (rd_T38 g (i : Int)).f3 s.1 s.2.1 s.2.2.1 s.2.2.2.1).bind fun t => glue_Widths.l0 k g (wrap64 (acc + t)) g (g.length : Int) ((i + 1 : Nat) : Int) s.1 s.2.1 s.2.2.1 s.2.2.2.1) (fun k => ?_) (Ev.bind (gives_ev _ s) ?_)
    · simp only [glue_Widths.l0]
      rw [if_pos g1, if_pos g2, if_pos g1, succ_w i (by omega)]
    · exact ih (i + 1) _ (by omega)
theorem sv_my {g : List S38} {t : Int} (h : (sv g t).2.2.2.2 = true) : my g = true := by
  unfold sv at h
  by_cases c : my g = true
  · exact c
  · rw [if_neg c] at h; cases h
theorem my_len {g : List S38} (h : my g = true) : g.length ≤ 2000 := (my_all h).1
theorem widths_ev {g : List S38} {t : Int} (h : (sv g t).2.2.2.2 = true) : Ev (fun k => glue_Widths.f k g t) (ws g t, true) := by
  refine Ev.bind (set_ev g t) ?_
  simp only [if_pos h]
  exact l0_ev g (sv g t) (my_len (sv_my h)) g.length 0 0 (by omega)

/-! ## How wide -/
theorem mv_all2 (g : List S38) : ∀ d i w s h, mv g d i w s h = true → ∀ j, i ≤ j → j < i + d → am (rd_T38 g (j : Int)).f2 = true
  | 0, i, w, s, h => fun _ j h1 h2 => by omega
  | d + 1, i, w, s, h => fun hm j h1 h2 => by
    simp only [mv] at hm
    by_cases c0 : fi (rd_T38 g (i : Int)).f0 = true
    · rw [if_pos c0] at hm
      by_cases c1 : am (rd_T38 g (i : Int)).f1 = true
      · rw [if_pos c1] at hm
        by_cases c2 : am (rd_T38 g (i : Int)).f2 = true
        · rw [if_pos c2] at hm
          by_cases c3 : (rd_T38 g (i : Int)).f3 < 0
          · rw [if_pos c3] at hm; cases hm
          · rw [if_neg c3] at hm
            by_cases c4 : (rd_T38 g (i : Int)).f3 > 3
            · rw [if_pos c4] at hm; cases hm
            · rw [if_neg c4] at hm
              by_cases e : j = i
              · rw [e]; exact c2
              · exact mv_all2 g d (i + 1) _ _ _ hm j (by omega) (by omega)
        · rw [if_neg c2] at hm; cases hm
      · rw [if_neg c1] at hm; cases hm
    · rw [if_neg c0] at hm; cases hm
theorem my_mv {g : List S38} (h : my g = true) : mv g g.length 0 0 0 0 = true := by
  unfold my at h
  by_cases c : (g.length : Int) > 2000
  · rw [if_pos c] at h; cases h
  · rw [if_neg c] at h; exact h
theorem my_piece {g : List S38} (h : my g = true) (j : Nat) (hj : j < g.length) : (-1073741823 ≤ (rd_T38 g (j : Int)).f0 ∧ (rd_T38 g (j : Int)).f0 ≤ 1073741823) ∧ (0 ≤ (rd_T38 g (j : Int)).f1 ∧ (rd_T38 g (j : Int)).f1 ≤ 1073741823) ∧ (0 ≤ (rd_T38 g (j : Int)).f2 ∧ (rd_T38 g (j : Int)).f2 ≤ 1073741823) := by
  have a := (my_all h).2 j hj
  exact ⟨fi_iff.1 a.1, am_iff.1 a.2.1, am_iff.1 (mv_all2 g _ _ _ _ _ (my_mv h) j (by omega) (by omega))⟩
theorem gv_in {g : List S38} (h : my g = true) (s : T5) (j : Nat) (hj : j < g.length) : 0 ≤ gv (rd_T38 g (j : Int)) s ∧ gv (rd_T38 g (j : Int)) s ≤ 1073741823 ∧ (s.1 < 0 → gv (rd_T38 g (j : Int)) s = (rd_T38 g (j : Int)).f2) := by
  have a := my_piece h j hj
  unfold gv
  by_cases p : s.1 > 0
  · rw [if_pos p]; split <;> omega
  · rw [if_neg p]
    by_cases q : s.1 < 0
    · rw [if_pos q]; omega
    · rw [if_neg q]; omega
theorem prod_in {p x : Int} (hp : 0 ≤ p ∧ p ≤ 1073741823) (hx : 0 ≤ x ∧ x ≤ 1073741823) : 0 ≤ p * x ∧ p * x ≤ 1152921502459363329 := by
  refine ⟨Int.mul_nonneg hp.1 hx.1, ?_⟩
  have := Int.mul_le_mul hp.2 hx.2 hx.1 (by omega)
  omega
/-- Stretched: no less. -/
theorem up_stretch {p x y all : Int} (hp : 0 ≤ p ∧ p ≤ 1073741823) (h0 : 0 ≤ x) (h1 : x ≤ y) (h2 : y ≤ all) (h3 : 0 < all) (h4 : all ≤ 1073741823) :
    wrap64 (p * y) = p * y ∧ 0 ≤ Int.tdiv (p * x) all ∧ Int.tdiv (p * x) all ≤ Int.tdiv (p * y) all ∧ Int.tdiv (p * y) all ≤ 1073741823 := by
  have q1 := prod_in hp (x := x) (by omega)
  have q2 := prod_in hp (x := y) (by omega)
  have m1 : p * x ≤ p * y := Int.mul_le_mul_of_nonneg_left h1 hp.1
  have m2 : p * y ≤ p * all := Int.mul_le_mul_of_nonneg_left h2 hp.1
  rw [Int.tdiv_eq_ediv_of_nonneg q1.1, Int.tdiv_eq_ediv_of_nonneg q2.1]
  refine ⟨wrap_small (by omega), Int.ediv_nonneg q1.1 (by omega), Int.ediv_le_ediv h3 m1, ?_⟩
  have m3 := Int.ediv_le_ediv h3 m2
  rw [Int.mul_ediv_cancel _ (by omega)] at m3
  omega
/-- Shrunk: no more than it gives. -/
theorem up_shrink {m x y all : Int} (hm : 0 ≤ m ∧ m ≤ all) (h0 : 0 ≤ x) (h1 : x ≤ y) (h2 : y ≤ all) (h3 : 0 < all) (h4 : all ≤ 1073741823) :
    wrap64 (-m * y) = -m * y ∧ -(y - x) ≤ Int.tdiv (-m * y) all - Int.tdiv (-m * x) all ∧ Int.tdiv (-m * y) all ≤ Int.tdiv (-m * x) all ∧ -1073741823 ≤ Int.tdiv (-m * y) all ∧ Int.tdiv (-m * x) all ≤ 0 := by
  have q1 := prod_in (p := m) (by omega) (x := x) (by omega)
  have q2 := prod_in (p := m) (by omega) (x := y) (by omega)
  have m1 : m * x ≤ m * y := Int.mul_le_mul_of_nonneg_left h1 hm.1
  have m2 : m * y ≤ m * all := Int.mul_le_mul_of_nonneg_left h2 hm.1
  have e1 : -m * y = -(m * y) := Int.neg_mul m y
  have e2 : -m * x = -(m * x) := Int.neg_mul m x
  have m4 : m * y ≤ m * x + (y - x) * all := by
    have a : m * (y - x) ≤ all * (y - x) := Int.mul_le_mul_of_nonneg_right hm.2 (by omega)
    rw [Int.mul_sub] at a
    rw [Int.mul_comm (y - x) all]
    omega
  rw [e1, e2, Int.neg_tdiv, Int.neg_tdiv, Int.tdiv_eq_ediv_of_nonneg q1.1, Int.tdiv_eq_ediv_of_nonneg q2.1]
  have d1 := Int.ediv_le_ediv h3 m1
  have d2 := Int.ediv_le_ediv h3 m2
  have d3 := Int.ediv_le_ediv h3 m4
  rw [Int.mul_ediv_cancel _ (by omega)] at d2
  rw [Int.add_mul_ediv_right _ _ (by omega)] at d3
  have d4 := Int.ediv_nonneg q1.1 (show 0 ≤ all by omega)
  refine ⟨wrap_small (by omega), by omega, by omega, by omega, by omega⟩
end Go.Proofs.Ytpfnfofaajpdmaa.Pure

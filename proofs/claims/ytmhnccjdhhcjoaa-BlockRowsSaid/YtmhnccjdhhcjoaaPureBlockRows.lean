/- BlockRows: rows that are all as high as one another stand in columns of as many as it takes. -/
import Derived.Test.YtmhnccjdhhcjoaaPAllx10
import Derived.Test.YtmhnccjdhhcjoaaPClear
namespace Go.Proofs.Ytmhnccjdhhcjoaa.Pure
set_option linter.unusedVariables false
set_option linter.unusedSimpArgs false
open Go.RowKit Go.Proofs.Ytmhnccjdhhcjoaa.PAll Go.Proofs.YtmhnccjdhhcjoaaW.PrintWords Go.Proofs.YtmhnccjdhhcjoaaW.PrintLast Go.Proofs.YtmhnccjdhhcjoaaW.PrintMore

def rows (n : Nat) (x : Int) : List Int := List.replicate n x
theorem rows_rd (n : Nat) (x : Int) (i : Nat) (hi : i < n) : rd (rows n x) (i : Int) = x := by
  rw [rd_nat, List.getD_eq_getElem?_getD, rows, List.getElem?_replicate, if_pos hi]; rfl
theorem rows_pre (n : Nat) (x : Int) (i : Nat) (hi : i ≤ n) : pre (rows n x) i = (i : Int) * x := by
  induction i with
  | zero => simp [pre]
  | succ i ih =>
    have e : pre (rows n x) (i + 1) = pre (rows n x) i + rd (rows n x) (i : Int) := rfl
    rw [e, ih (by omega), rows_rd n x i (by omega), Int.natCast_succ, Int.add_mul, Int.one_mul]
/-- So many fit. -/
theorem rows_fit (n : Nat) (x : Int) (hx : 0 ≤ x) (q : Nat) (c : Nat) : ∀ i, i ≤ n → i ≤ c * q → Part (rows n x) ((q : Int) * x) c i := by
  induction c with
  | zero => intro i _ h; show i = 0; omega
  | succ c ih =>
    intro i hi h
    have e : (c + 1) * q = c * q + q := Nat.succ_mul c q
    by_cases b : i ≤ q
    · refine ⟨0, Nat.zero_le _, ih 0 (Nat.zero_le _) (Nat.zero_le _), ?_⟩
      rw [rows_pre n x i hi]
      have h1 : (i : Int) * x ≤ (q : Int) * x := Int.mul_le_mul_of_nonneg_right (by omega) hx
      have h0 : pre (rows n x) 0 = 0 := rfl
      omega
    · refine ⟨i - q, by omega, ih (i - q) (by omega) (by omega), ?_⟩
      rw [rows_pre n x i hi, rows_pre n x (i - q) (by omega), ← Int.sub_mul, show (i : Int) - ((i - q : Nat) : Int) = (q : Int) by omega]
      exact Int.le_refl _
/-- And no more. -/
theorem rows_most (n : Nat) (x m : Int) (hx : 0 < x) (q : Nat) (hm : m < ((q + 1 : Nat) : Int) * x) (c : Nat) : ∀ i, i ≤ n → Part (rows n x) m c i → i ≤ c * q := by
  induction c with
  | zero => intro i _ h; have : i = 0 := h; omega
  | succ c ih =>
    rintro i hi ⟨k, hk, hp, hr⟩
    have h1 := ih k (by omega) hp
    have e : (c + 1) * q = c * q + q := Nat.succ_mul c q
    rw [rows_pre n x i hi, rows_pre n x k (by omega), ← Int.sub_mul] at hr
    have h2 : ((i : Int) - (k : Int)) * x < ((q + 1 : Nat) : Int) * x := by omega
    have h3 := Int.lt_of_mul_lt_mul_right h2 (by omega)
    omega
theorem rows_least (n : Nat) (x : Int) (hx : 0 ≤ x) (c : Nat) (hc : 0 < c) : IsL (rows n x) c n (x * (((n + c - 1) / c : Nat) : Int)) := by
  obtain ⟨q, hq⟩ : ∃ q, (n + c - 1) / c = q := ⟨_, rfl⟩
  have h1 : n ≤ c * q := by
    have := Nat.div_add_mod (n + c - 1) c
    have hm := Nat.mod_lt (n + c - 1) hc
    rw [hq] at this
    omega
  have h2 : ∀ p, q = p + 1 → ¬ n ≤ c * p := by
    intro p hp hn
    have := Nat.div_add_mod (n + c - 1) c
    rw [hq, hp, Nat.mul_succ] at this
    omega
  rw [hq, Int.mul_comm]
  refine ⟨Int.mul_nonneg (by omega) hx, rows_fit n x hx q c n (Nat.le_refl _) h1, fun m hm hp => ?_⟩
  apply Int.not_lt.1
  intro hlt
  cases q with
  | zero => simp at hlt; omega
  | succ p =>
    have hx2 : 0 < x := by
      apply Int.not_le.1
      intro hle
      have : x = 0 := by omega
      subst this
      simp at hlt
      omega
    exact h2 p rfl (rows_most n x m hx2 p hlt c n (Nat.le_refl _) hp)

theorem rows_l0 (lay : Int) (n : Nat) (x c : Int) (hn : n ≤ 200) (hx : 0 ≤ x ∧ x ≤ 1000000) (hc : c = colsOf lay) (hc1 : 1 ≤ c) (hc2 : c ≤ 3) (d : Nat) : ∀ i : Nat, i + d = n →
    Ev (fun k => variorumlaw20_BlockRows.l0 k lay (n : Int) x c (rows i x) (i : Int)) true := by
  induction d with
  | zero =>
    intro i hi
    have e : i = n := by omega
    subst e
    have g : ¬ (i : Int) < (i : Int) := by omega
    have hl : (rows i x).length = i := by simp [rows]
    have htot : pre (rows i x) i ≤ 1073741823 := by
      rw [rows_pre i x i (Nat.le_refl _)]
      have h1 : (i : Int) * x ≤ 200 * 1000000 := Int.mul_le_mul (by omega) hx.2 hx.1 (by omega)
      omega
    have o : Ok (rows i x) (colsOf lay) := by
      refine ⟨by omega, by omega, by omega, fun q hq => ?_, by rw [hl]; exact htot⟩
      rw [rows_rd i x q (by omega)]; exact hx.1
    obtain ⟨L, hL, hle⟩ := has_least o
    rw [hl] at hle
    have hL' := hL
    rw [hl] at hL'
    have hq := rows_least i x hx.1 (colsOf lay).toNat (by omega)
    have hu := hL'.uniq hq
    have hp := place_ev o L hL (by omega)
    obtain ⟨q, hqq⟩ : ∃ q, (i + (colsOf lay).toNat - 1) / (colsOf lay).toNat = q := ⟨_, rfl⟩
    have hqle : q ≤ 300 := by
      rw [← hqq]
      exact Nat.le_trans (Nat.div_le_self _ _) (by omega)
    rw [hqq] at hu
    have g2 : ¬ c = 0 := by omega
    have hmul : 0 ≤ x * (q : Int) := Int.mul_nonneg hx.1 (by omega)
    have hmul2 : x * (q : Int) ≤ 1000000 * 300 := Int.mul_le_mul hx.2 (by omega) (by omega) (by omega)
    have e3 : (i : Int) + c - 1 = ((i + (colsOf lay).toNat - 1 : Nat) : Int) := by omega
    have e4 : c = ((colsOf lay).toNat : Int) := by omega
    have e5 : Int.tdiv ((i + (colsOf lay).toNat - 1 : Nat) : Int) c = (q : Int) := by
      rw [← hqq]
      rw [Int.tdiv_eq_ediv_of_nonneg (by omega)]
      conv => lhs; rw [e4]
      omega
    have hfin : (wrap64 (x * (wrap64 (Int.tdiv (wrap64 ((wrap64 ((i : Int) + c)) - 1)) c)))) = (L : Int) := by
      rw [wrap_small (x := (i : Int) + c) (by omega), e3, wrap_small (x := ((i + (colsOf lay).toNat - 1 : Nat) : Int)) (by omega), e5, wrap_small (x := (q : Int)) (by omega), wrap_small (x := x * (q : Int)) (by omega), hu]
    have hy : Ev (fun k => (block_Place.f k lay (rows i x)).bind fun bt => if bt.2.2 = true then some (bt.2.1 == (L : Int)) else none) true := Ev.bind hp (by simp only [if_true, beq_self_eq_true]; exact Ev.now _)
    refine Ev.step (fun k => ?_) hy
    simp only [variorumlaw20_BlockRows.l0]
    rw [if_neg g, hfin]
    simp only [if_neg g2]
  | succ d ih =>
    intro i hi
    have hn2 := ih (i + 1) (by omega)
    have g : (i : Int) < (n : Int) := by omega
    have hl : (rows i x).length = i := by simp [rows]
    have g1 : (rows i x).length < 17592186044416 := by omega
    have e : rows (i + 1) x = rows i x ++ [x] := by simp [rows, List.replicate_succ']
    have g9 : i ≤ 1000000000000000 := by omega
    rw [e] at hn2
    refine Ev.step (fun k => ?_) hn2
    simp only [variorumlaw20_BlockRows.l0]
    rw [if_pos g, if_pos g1, succ_w i g9]

theorem BlockRows : variorumlaw20_BlockRows.Pure := by
  intro lay n x hlay hn hx
  refine Ev.rounds (g := fun k => variorumlaw20_BlockRows.f k lay n x) ?_
  unfold variorumlaw20_BlockRows.f
  rw [columns_f]
  simp only [Option.bind_some]
  have htrue : ∀ x7, Ev (fun k => variorumlaw20_BlockRows.j0 k lay n x x7 true) true := by
    intro x7
    refine Ev.step (f := fun k => (variorumlaw20_fixed.f k).bind fun t => some t) (fun k => ?_) (Ev.bind fixed_ev (Ev.now _))
    simp [variorumlaw20_BlockRows.j0]
  refine Ev.bind fixed_ev ?_
  simp only [if_true]
  by_cases a1 : colsOf lay = 0
  · simp only [if_pos a1]; exact htrue _
  · simp only [if_neg a1]
    by_cases a2 : n < 0
    · simp only [if_pos a2]; exact htrue _
    · simp only [if_neg a2]
      by_cases a3 : n > 200
      · simp only [if_pos a3]; exact htrue _
      · simp only [if_neg a3]
        by_cases a4 : x < 0
        · simp only [if_pos a4]; exact htrue _
        · simp only [if_neg a4]
          by_cases a5 : x > 1000000
          · rw [decide_eq_true a5]; exact htrue _
          · rw [decide_eq_false a5]
            have hc : 1 ≤ colsOf lay ∧ colsOf lay ≤ 3 := by
              revert a1
              unfold colsOf
              split
              · intro _; omega
              · split
                · intro _; omega
                · split
                  · intro _; omega
                  · split
                    · intro _; omega
                    · intro h; exact absurd rfl h
            have h := rows_l0 lay n.toNat x (colsOf lay) (by omega) ⟨by omega, by omega⟩ rfl hc.1 hc.2 n.toNat 0 (by omega)
            rw [show ((n.toNat : Nat) : Int) = n by omega] at h
            refine Ev.step (fun k => ?_) h
            simp only [variorumlaw20_BlockRows.j0]
            rw [if_neg (by decide)]
            rfl

end Go.Proofs.Ytmhnccjdhhcjoaa.Pure

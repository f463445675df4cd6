/- ColumnMore: with more columns the least height is not higher, with a height more not lower; and its bounds. -/
import Derived.Test.YtgkpomeobaheiaaPAllx6
import Derived.Test.YtgkpomeobaheiaaPLeast
namespace Go.Proofs.Ytgkpomeobaheiaa.Pure
set_option linter.unusedVariables false
set_option linter.unusedSimpArgs false
open Go.RowKit Go.Proofs.Ytgkpomeobaheiaa.PAll Go.Proofs.YtgkpomeobaheiaaW.PrintWords Go.Proofs.YtgkpomeobaheiaaW.PrintLast Go.Proofs.YtgkpomeobaheiaaW.PrintMore

/-- A height more. -/
theorem rd_more (h : List Int) (x : Int) (i : Nat) (hi : i < h.length) : rd (h ++ [x]) (i : Int) = rd h (i : Int) := by
  rw [rd_nat, rd_nat, List.getD_eq_getElem?_getD, List.getD_eq_getElem?_getD, List.getElem?_append_left hi]
theorem pre_more (h : List Int) (x : Int) (i : Nat) (hi : i ≤ h.length) : pre (h ++ [x]) i = pre h i := by
  induction i with
  | zero => rfl
  | succ i ih =>
    have e : pre (h ++ [x]) (i + 1) = pre (h ++ [x]) i + rd (h ++ [x]) (i : Int) := rfl
    have e2 : pre h (i + 1) = pre h i + rd h (i : Int) := rfl
    rw [e, e2, ih (by omega), rd_more h x i (by omega)]
theorem part_back (h : List Int) (x m : Int) (c : Nat) : ∀ i, i ≤ h.length → Part (h ++ [x]) m c i → Part h m c i := by
  induction c with
  | zero => intro i _ hp; exact hp
  | succ c ih =>
    rintro i hi ⟨k, hk, hp, hr⟩
    rw [pre_more h x i hi, pre_more h x k (by omega)] at hr
    exact ⟨k, hk, ih k (by omega) hp, hr⟩

def moreEnd (h : List Int) (cols : Int) (L one next : Nat) (too : Bool) (m : Int) (k : Nat) (bt : Int × Bool) : Option Bool := if (true : Bool) = true then ((variorumref19_Sum.f k h).bind fun t262 => (if (one : Int) = t262 then (if (L : Int) ≤ (one : Int) then (if too = true then (if (next : Int) ≤ (L : Int) then (if (L : Int) ≥ m then (if (wrap64 ((L : Int) * cols)) ≥ (one : Int) then (if bt.2 = true then (some (decide (bt.1 ≥ (L : Int)))) else (some true)) else (none)) else (none)) else (none)) else (if (L : Int) ≥ m then (if (wrap64 ((L : Int) * cols)) ≥ (one : Int) then (if bt.2 = true then (some (decide (bt.1 ≥ (L : Int)))) else (some true)) else (none)) else (none))) else (none)) else (none))) else none

theorem more_l0 {h : List Int} {cols : Int} (o : Ok h cols) (h100 : h.length ≤ 100) (x2 : Int) (L one next : Nat) (too : Bool) (hL : IsL h cols.toNat h.length L) (hone : (one : Int) = pre h h.length) (hle : (L : Int) ≤ pre h h.length) (hnext : too = true → next ≤ L) (d : Nat) :
    ∀ (i : Nat) (m : Int), i + d = h.length → m ≤ (L : Int) → Ev (fun k => variorumlaw19_ColumnMore.l0 k h cols x2 (L : Int) (one : Int) true (next : Int) too m (i : Int)) true := by
  have h1 := o.c1
  have h2 := o.c2
  have t := o.tot
  induction d with
  | zero =>
    intro i m hi hm
    have e : i = h.length := by omega
    subst e
    have g : ¬ (h.length : Int) < (h.length : Int) := by omega
    have hs := sum_ev h (by omega) (fun i hi => ⟨o.nn.all _, o.rd_le _⟩)
    have ef : ([] : List Int).length + h.length < 17592186044416 := by simp; omega
    have ef2 : (([] : List Int) ++ h).length < 17592186044416 := by simp; omega
    -- the last answers, whatever the longer ones come to
    have hend : ∀ (bt : Int × Bool), (bt.2 = true → bt.1 ≥ (L : Int)) → Ev (fun k => moreEnd h cols L one next too m k bt) true := by
      intro bt hbt
      have hps := part_sum _ _ hL.is
      rw [show ((cols.toNat : Nat) : Int) = cols by omega] at hps
      have hub : (L : Int) * cols ≤ 1073741823 * 10 := Int.mul_le_mul (by omega) h2 (by omega) (by omega)
      have hlb : 0 ≤ (L : Int) * cols := Int.mul_nonneg (by omega) (by omega)
      have ge : wrap64 ((L : Int) * cols) ≥ (one : Int) := by rw [wrap_small (by omega)]; omega
      have g1 : (L : Int) ≤ (one : Int) := by omega
      have g2 : (L : Int) ≥ m := hm
      have hlast : Ev (fun _ => if bt.2 = true then (some (decide (bt.1 ≥ (L : Int)))) else (some true)) true := by
        by_cases b : bt.2 = true
        · simp only [if_pos b, decide_eq_true (hbt b)]; exact Ev.now _
        · simp only [if_neg b]; exact Ev.now _
      unfold moreEnd
      simp only [if_true]
      refine Ev.bind hs ?_
      simp only [if_pos hone, if_pos g1, if_pos g2, if_pos ge]
      by_cases b : too = true
      · have g3 : (next : Int) ≤ (L : Int) := by have := hnext b; omega
        simp only [if_pos b, if_pos g3]; exact hlast
      · simp only [if_neg b]; exact hlast
    have hx : ∃ bt : Int × Bool, Ev (fun k => column_Least.f k (h ++ [x2]) cols) bt ∧ (bt.2 = true → bt.1 ≥ (L : Int)) := by
      by_cases o2 : Ok (h ++ [x2]) cols
      · obtain ⟨L2, hL2, _⟩ := has_least o2
        refine ⟨_, least_ev o2 L2 hL2, fun _ => ?_⟩
        have hp := part_less o2.nn _ _ _ h.length (by simp) hL2.is
        exact hL.least _ hL2.nn (part_back h x2 _ _ _ (Nat.le_refl _) hp)
      · exact ⟨_, least_no (by simp; omega) o2, fun b => by cases b⟩
    obtain ⟨bt, hbt1, hbt2⟩ := hx
    have hz : Ev (fun k => (column_Least.f k (h ++ [x2]) cols).bind fun bt => moreEnd h cols L one next too m k bt) true := Ev.bind hbt1 (hend bt hbt2)
    refine Ev.step (fun k => ?_) hz
    simp only [variorumlaw19_ColumnMore.l0]
    rw [if_neg g, Option.bind_some, if_pos ef, Option.bind_some, if_pos ef2]
    rfl
  | succ d ih =>
    intro i m hi hm
    have g1 : (i : Int) < (h.length : Int) := by omega
    have g2 : (0 : Int) ≤ (i : Int) := by omega
    have g3 : i ≤ 1000000000000000 := by omega
    have he := part_each o.nn _ _ hL.is i (by omega)
    have hmm : mx m (rd h (i : Int)) ≤ (L : Int) := by unfold mx; split <;> omega
    refine Ev.step (fun k => ?_) (ih (i + 1) _ (by omega) hmm)
    simp only [variorumlaw19_ColumnMore.l0]
    rw [if_pos g1, if_pos g2, succ_w i g3]

theorem ColumnMore : variorumlaw19_ColumnMore.Pure := by
  intro h cols more hl hc hr
  refine Ev.rounds (g := fun k => variorumlaw19_ColumnMore.f k h cols more) ?_
  unfold variorumlaw19_ColumnMore.f
  have htrue : ∀ x7, Ev (fun k => variorumlaw19_ColumnMore.j0 k h cols more x7 true) true := by
    intro x7
    refine Ev.step (f := fun k => (variorumlaw19_fixed.f k).bind fun t => some t) (fun k => ?_) (Ev.bind fixed_ev (Ev.now _))
    simp [variorumlaw19_ColumnMore.j0]
  by_cases o : Ok h cols
  · obtain ⟨L, hL, hle⟩ := has_least o
    have h1 := o.c1
    have h2 := o.c2
    have hlen := o.len
    have t := o.tot
    refine Ev.bind (least_ev o L hL) (Ev.bind fixed_ev ?_)
    simp only [if_true]
    by_cases h100 : (h.length : Int) > 100
    · rw [decide_eq_true h100]; exact htrue _
    · rw [decide_eq_false h100]
      have o1 : Ok h 1 := ⟨o.len, by omega, by omega, o.nn, o.tot⟩
      have hnn := pre_nonneg o.nn h.length
      have hone : (((pre h h.length).toNat : Nat) : Int) = pre h h.length := by omega
      have hL1 : IsL h (1 : Int).toNat h.length ((pre h h.length).toNat : Nat) := by rw [hone]; exact isL_one o.nn h.length
      have hx : ∃ (next : Nat) (too : Bool), Ev (fun k => column_Least.f k h (wrap64 (cols + 1))) ((next : Int), too) ∧ (too = true → next ≤ L) := by
        have ew : wrap64 (cols + 1) = cols + 1 := wrap_small (by omega)
        rw [ew]
        by_cases o2 : Ok h (cols + 1)
        · obtain ⟨L2, hL2, _⟩ := has_least o2
          refine ⟨L2, true, least_ev o2 L2 hL2, fun _ => ?_⟩
          have hp := part_more hL.nn _ _ hL.is
          have := hL2.least _ hL.nn (by rw [show (cols + 1).toNat = cols.toNat + 1 by omega]; exact hp)
          omega
        · exact ⟨0, false, least_no hl.1 o2, fun b => by cases b⟩
      obtain ⟨next, too, hn1, hn2⟩ := hx
      have hgo := more_l0 o (by omega) more L _ next too hL hone hle hn2 h.length 0 0 (by omega) (by omega)
      have hy : Ev (fun k => (column_Least.f k h 1).bind fun bt246 => (column_Least.f k h (wrap64 (cols + 1))).bind fun bt248 => variorumlaw19_ColumnMore.l0 k h cols more (L : Int) bt246.1 bt246.2 bt248.1 bt248.2 0 0) true :=
        Ev.bind (least_ev o1 _ hL1) (Ev.bind hn1 hgo)
      refine Ev.step (fun k => ?_) hy
      simp [variorumlaw19_ColumnMore.j0]
  · refine Ev.bind (least_no hl.1 o) (Ev.bind fixed_ev ?_)
    simp only [if_true]
    refine Ev.congr (fun k => ?_) (htrue 0)
    simp

end Go.Proofs.Ytgkpomeobaheiaa.Pure

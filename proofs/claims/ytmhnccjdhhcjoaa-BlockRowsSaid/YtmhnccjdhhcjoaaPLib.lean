/- Plain lemmas on the printed functions of the package column: sums, partitions, greedy filling, and the least height. -/
import Derived.Test.YtmhnccjdhhcjoaaPAllx6
namespace Go.Proofs.Ytmhnccjdhhcjoaa.Pure
set_option linter.unusedVariables false
set_option linter.unusedSimpArgs false
open Go.RowKit Go.Proofs.Ytmhnccjdhhcjoaa.PAll Go.Proofs.YtmhnccjdhhcjoaaW.PrintWords Go.Proofs.YtmhnccjdhhcjoaaW.PrintLast Go.Proofs.YtmhnccjdhhcjoaaW.PrintMore

theorem wrap_small {x : Int} (h : -9223372036854775808 ≤ x ∧ x ≤ 9223372036854775807) : wrap64 x = x := by
  unfold wrap64
  omega
theorem succ_w (n : Nat) (h : n ≤ 1000000000000000) : wrap64 ((n : Int) + 1) = ((n + 1 : Nat) : Int) := by rw [wrap_small (by omega)]; omega
theorem rd_nat (h : List Int) (i : Nat) : rd h (i : Int) = h.getD i 0 := by unfold rd; rw [Int.toNat_natCast]

/-- The sum of the first heights. -/
def pre (h : List Int) : Nat → Int
  | 0 => 0
  | i + 1 => pre h i + rd h (i : Int)
theorem rd_out (h : List Int) (i : Nat) (hi : h.length ≤ i) : rd h (i : Int) = 0 := by
  rw [rd_nat, List.getD_eq_getElem?_getD, List.getElem?_eq_none hi]; rfl

def NN (h : List Int) : Prop := ∀ i : Nat, i < h.length → 0 ≤ rd h (i : Int)
theorem NN.all {h : List Int} (hn : NN h) (i : Nat) : 0 ≤ rd h (i : Int) := by
  by_cases hi : i < h.length
  · exact hn i hi
  · rw [rd_out h i (by omega)]; exact Int.le_refl 0
theorem pre_mono {h : List Int} (hn : NN h) {a b : Nat} (hab : a ≤ b) : pre h a ≤ pre h b := by
  have key : ∀ d, pre h a ≤ pre h (a + d) := by
    intro d
    induction d with
    | zero => exact Int.le_refl _
    | succ d ih =>
      have := hn.all (a + d)
      have e : pre h (a + (d + 1)) = pre h (a + d) + rd h ((a + d : Nat) : Int) := rfl
      rw [e]; omega
  have := key (b - a)
  rwa [show a + (b - a) = b by omega] at this
theorem pre_nonneg {h : List Int} (hn : NN h) (a : Nat) : 0 ≤ pre h a := pre_mono hn (Nat.zero_le a)
theorem pre_out (h : List Int) (d : Nat) : pre h (h.length + d) = pre h h.length := by
  induction d with
  | zero => rfl
  | succ d ih =>
    have e : pre h (h.length + (d + 1)) = pre h (h.length + d) + rd h ((h.length + d : Nat) : Int) := rfl
    rw [e, ih, rd_out h _ (by omega)]; omega

structure Ok (h : List Int) (cols : Int) : Prop where
  len : h.length ≤ 2000
  c1 : 1 ≤ cols
  c2 : cols ≤ 10
  nn : NN h
  tot : pre h h.length ≤ 1073741823
theorem Ok.pre_le {h : List Int} {c : Int} (o : Ok h c) (i : Nat) : pre h i ≤ 1073741823 := by
  by_cases hi : i ≤ h.length
  · have := pre_mono o.nn hi; have := o.tot; omega
  · have e := pre_out h (i - h.length)
    rw [show h.length + (i - h.length) = i by omega] at e
    have := o.tot; omega
theorem Ok.rd_le {h : List Int} {c : Int} (o : Ok h c) (i : Nat) : rd h (i : Int) ≤ 1073741823 := by
  have h1 := o.pre_le (i + 1)
  have h2 := pre_nonneg o.nn i
  have e : pre h (i + 1) = pre h i + rd h (i : Int) := rfl
  omega

theorem fits_f (a : Int) : scaled_Fits.f a = some (decide (-1073741823 ≤ a ∧ a ≤ 1073741823)) := by
  unfold scaled_Fits.f
  by_cases h : a ≥ -1073741823
  · rw [if_pos h]; congr 1; exact decide_eq_decide.2 ⟨fun x => ⟨h, x⟩, fun x => x.2⟩
  · rw [if_neg h]; congr 1; symm; exact decide_eq_false (fun x => h x.1)
theorem rfits_f (a : Int) : variorumref02_Fits.f a = some (decide (-1073741823 ≤ a ∧ a ≤ 1073741823)) := by
  unfold variorumref02_Fits.f variorumref02_Most.f
  simp only [Option.bind_some]
  rw [wrap_small (x := -1073741823) (by omega)]
  by_cases h : a ≥ -1073741823
  · rw [if_pos h]; congr 1; exact decide_eq_decide.2 ⟨fun x => ⟨h, x⟩, fun x => x.2⟩
  · rw [if_neg h]; congr 1; symm; exact decide_eq_false (fun x => h x.1)

theorem may_ev (h : List Int) (cols : Int) (hl : h.length * 8 ≤ 140737488351232) (b : Bool) (hb : b = true ↔ Ok h cols) : Ev (fun k => column_May.f k h cols) b := by
  have hfalse : ¬ Ok h cols → b = false := fun n => by cases b; rfl; exact absurd (hb.1 rfl) n
  have key : ∀ (d i : Nat), i + d = h.length → (∀ q : Nat, q < i → 0 ≤ rd h (q : Int)) → 0 ≤ pre h i → pre h i ≤ 2147483646 → Ev (fun k => column_May.l0 k h cols (pre h i) h (h.length : Int) (i : Int)) b := by
    intro d
    induction d with
    | zero =>
      intro i hi hq hp1 hp2
      have e : i = h.length := by omega
      subst e
      have g : ¬ (h.length : Int) < (h.length : Int) := by omega
      refine Ev.step (f := fun _ => some b) (fun k => ?_) (Ev.now _)
      simp only [column_May.l0]
      rw [if_neg g]
      by_cases a1 : (h.length : Int) ≤ 2000
      · rw [if_pos a1]
        by_cases a2 : cols ≥ 1
        · rw [if_pos a2]
          by_cases a3 : cols ≤ 10
          · rw [if_pos a3, fits_f]
            simp only [Option.bind_some]
            congr 1
            rw [Bool.eq_iff_iff, decide_eq_true_iff, hb]
            constructor
            · intro f; exact ⟨by omega, a2, a3, hq, f.2⟩
            · intro o; have := o.tot; omega
          · rw [if_neg a3, hfalse (fun o => a3 o.c2)]
        · rw [if_neg a2, hfalse (fun o => a2 o.c1)]
      · rw [if_neg a1, hfalse (fun o => a1 (by have := o.len; omega))]
    | succ d ih =>
      intro i hi hq hp1 hp2
      have g1 : (i : Int) < (h.length : Int) := by omega
      have g2 : (0 : Int) ≤ (i : Int) := by omega
      have g3 : i ≤ 1000000000000000 := by omega
      have e : pre h (i + 1) = pre h i + rd h (i : Int) := rfl
      by_cases a1 : rd h (i : Int) < 0
      · refine Ev.step (f := fun _ => some b) (fun k => ?_) (Ev.now _)
        simp only [column_May.l0]
        rw [if_pos g1, if_pos g2, if_pos g1, if_pos a1, hfalse (fun o => by have := o.nn.all i; omega)]
      · by_cases a2 : -1073741823 ≤ rd h (i : Int) ∧ rd h (i : Int) ≤ 1073741823
        · by_cases a3 : -1073741823 ≤ pre h i ∧ pre h i ≤ 1073741823
          · have hn := ih (i + 1) (by omega) (fun q hqi => by
              by_cases hqe : q = i
              · subst hqe; omega
              · exact hq q (by omega)) (by rw [e]; omega) (by rw [e]; omega)
            refine Ev.step (fun k => ?_) hn
            have ew : wrap64 (pre h i + rd h (i : Int)) = pre h (i + 1) := wrap_small (by omega)
            simp only [column_May.l0]
            rw [if_pos g1, if_pos g2, if_pos g1, if_neg a1, fits_f, fits_f, decide_eq_true a2, decide_eq_true a3, ew, succ_w i g3]
            rfl
          · refine Ev.step (f := fun _ => some b) (fun k => ?_) (Ev.now _)
            simp only [column_May.l0]
            rw [if_pos g1, if_pos g2, if_pos g1, if_neg a1, fits_f, fits_f, decide_eq_true a2, decide_eq_false a3, hfalse (fun o => by have := o.pre_le i; omega)]
            rfl
        · refine Ev.step (f := fun _ => some b) (fun k => ?_) (Ev.now _)
          simp only [column_May.l0]
          rw [if_pos g1, if_pos g2, if_pos g1, if_neg a1, fits_f, decide_eq_false a2, hfalse (fun o => by have := o.rd_le i; omega)]
          rfl
  exact key h.length 0 (by omega) (fun q hq => by omega) (Int.le_refl 0) (by unfold pre; omega)

/-- The reference's sum of any heights between 0 and the greatest. -/
theorem sum_ev (x : List Int) (hl : x.length ≤ 100000) (hx : ∀ i : Nat, i < x.length → 0 ≤ rd x (i : Int) ∧ rd x (i : Int) ≤ 1073741823) : Ev (fun k => variorumref19_Sum.f k x) (pre x x.length) := by
  have key : ∀ (d i : Nat), i + d = x.length → 0 ≤ pre x i → pre x i ≤ (i : Int) * 1073741823 → Ev (fun k => variorumref19_Sum.l0 k x (pre x i) (i : Int)) (pre x x.length) := by
    intro d
    induction d with
    | zero =>
      intro i hi h1 h2
      have e : i = x.length := by omega
      subst e
      have g : ¬ (x.length : Int) < (x.length : Int) := by omega
      refine Ev.step (f := fun _ => some _) (fun k => ?_) (Ev.now _)
      simp only [variorumref19_Sum.l0]
      rw [if_neg g]
    | succ d ih =>
      intro i hi h1 h2
      have g1 : (i : Int) < (x.length : Int) := by omega
      have g2 : (0 : Int) ≤ (i : Int) := by omega
      have g3 : i ≤ 1000000000000000 := by omega
      have hxi := hx i (by omega)
      have e : pre x (i + 1) = pre x i + rd x (i : Int) := rfl
      have hn := ih (i + 1) (by omega) (by rw [e]; omega) (by rw [e]; omega)
      refine Ev.step (fun k => ?_) hn
      have ew : wrap64 (pre x i + rd x (i : Int)) = pre x (i + 1) := wrap_small (by omega)
      simp only [variorumref19_Sum.l0]
      rw [if_pos g1, if_pos g2, ew, succ_w i g3]
  exact key x.length 0 (by omega) (Int.le_refl 0) (by unfold pre; omega)

theorem rmay_ev (h : List Int) (cols : Int) (b : Bool) (hb : b = true ↔ Ok h cols) : Ev (fun k => variorumref19_May.f k h cols) b := by
  have hfalse : ¬ Ok h cols → b = false := fun n => by cases b; rfl; exact absurd (hb.1 rfl) n
  have hbad : ¬ Ok h cols → Ev (fun k => variorumref19_May.j0 k h true) b := by
    intro n
    rw [hfalse n]
    refine Ev.step (f := fun _ => some false) (fun k => ?_) (Ev.now _)
    simp [variorumref19_May.j0]
  by_cases a1 : (h.length : Int) > 2000
  · refine Ev.congr (fun k => ?_) (hbad (fun o => by have := o.len; omega))
    unfold variorumref19_May.f
    rw [if_pos a1]
  · by_cases a2 : cols < 1
    · refine Ev.congr (fun k => ?_) (hbad (fun o => by have := o.c1; omega))
      unfold variorumref19_May.f
      rw [if_neg a1, if_pos a2]
    · by_cases a3 : cols > 10
      · refine Ev.congr (fun k => ?_) (hbad (fun o => by have := o.c2; omega))
        unfold variorumref19_May.f
        rw [if_neg a1, if_neg a2, decide_eq_true a3]
      · have key : ∀ (d i : Nat), i + d = h.length → (∀ q : Nat, q < i → 0 ≤ rd h (q : Int) ∧ rd h (q : Int) ≤ 1073741823) → Ev (fun k => variorumref19_May.l0 k h (i : Int)) b := by
          intro d
          induction d with
          | zero =>
            intro i hi hq
            have e : i = h.length := by omega
            subst e
            have g : ¬ (h.length : Int) < (h.length : Int) := by omega
            have hs := sum_ev h (by omega) hq
            have hs2 : Ev (fun k => (variorumref19_Sum.f k h).bind fun t => (variorumref02_Fits.f t).bind fun u => some u) b := Ev.bind hs (by
              rw [rfits_f]
              refine Ev.congr (f := fun _ => some b) (fun k => ?_) (Ev.now _)
              simp only [Option.bind_some]
              congr 1
              rw [Bool.eq_iff_iff, decide_eq_true_iff, hb]
              have hnn : NN h := fun q hqq => (hq q hqq).1
              constructor
              · intro f; exact ⟨by omega, by omega, by omega, hnn, f.2⟩
              · intro o; have := o.tot; have := pre_nonneg hnn h.length; omega)
            refine Ev.step (fun k => ?_) hs2
            simp only [variorumref19_May.l0]
            rw [if_neg g]
          | succ d ih =>
            intro i hi hq
            have g1 : (i : Int) < (h.length : Int) := by omega
            have g2 : (0 : Int) ≤ (i : Int) := by omega
            have g3 : i ≤ 1000000000000000 := by omega
            by_cases b1 : rd h (i : Int) < 0
            · refine Ev.step (f := fun _ => some b) (fun k => ?_) (Ev.now _)
              simp only [variorumref19_May.l0]
              rw [if_pos g1, if_pos g2, if_pos b1, hfalse (fun o => by have := o.nn.all i; omega)]
            · by_cases b2 : -1073741823 ≤ rd h (i : Int) ∧ rd h (i : Int) ≤ 1073741823
              · have hn := ih (i + 1) (by omega) (fun q hqi => by
                  by_cases hqe : q = i
                  · subst hqe; omega
                  · exact hq q (by omega))
                refine Ev.step (fun k => ?_) hn
                simp only [variorumref19_May.l0]
                rw [if_pos g1, if_pos g2, if_neg b1, rfits_f, decide_eq_true b2, succ_w i g3]
                rfl
              · refine Ev.step (f := fun _ => some b) (fun k => ?_) (Ev.now _)
                simp only [variorumref19_May.l0]
                rw [if_pos g1, if_pos g2, if_neg b1, rfits_f, decide_eq_false b2, hfalse (fun o => by have := o.rd_le i; omega)]
                rfl
        have h0 : Ev (fun k => variorumref19_May.j0 k h false) b := by
          refine Ev.step (fun k => ?_) (key h.length 0 (by omega) (fun q hq => by omega))
          simp [variorumref19_May.j0]
        refine Ev.congr (fun k => ?_) h0
        unfold variorumref19_May.f
        rw [if_neg a1, if_neg a2, decide_eq_false a3]

end Go.Proofs.Ytmhnccjdhhcjoaa.Pure

/- BlockLeast: in one column a block is as high as all its notes, with more columns not higher, and a part of all at least. -/
import Derived.Test.YtmhnccjdhhcjoaaPAllx10
import Derived.Test.YtmhnccjdhhcjoaaPClear
namespace Go.Proofs.Ytmhnccjdhhcjoaa.Pure
set_option linter.unusedVariables false
set_option linter.unusedSimpArgs false
open Go.RowKit Go.Proofs.Ytmhnccjdhhcjoaa.PAll Go.Proofs.YtmhnccjdhhcjoaaW.PrintWords Go.Proofs.YtmhnccjdhhcjoaaW.PrintLast Go.Proofs.YtmhnccjdhhcjoaaW.PrintMore

theorem ok_cols {h : List Int} {c d : Int} (o : Ok h c) (h1 : 1 ≤ d) (h2 : d ≤ 10) : Ok h d := ⟨o.len, h1, h2, o.nn, o.tot⟩

theorem BlockLeast : variorumlaw20_BlockLeast.Pure := by
  intro h hl
  refine Ev.rounds (g := fun k => variorumlaw20_BlockLeast.f k h) ?_
  unfold variorumlaw20_BlockLeast.f
  have k0 : colsOf 0 = 1 := rfl
  have k1 : colsOf 1 = 1 := rfl
  have k2 : colsOf 2 = 2 := rfl
  have k3 : colsOf 3 = 3 := rfl
  by_cases o : Ok h 1
  · have t := o.tot
    have hnn := pre_nonneg o.nn h.length
    have o2 : Ok h 2 := ok_cols o (by omega) (by omega)
    have o3 : Ok h 3 := ok_cols o (by omega) (by omega)
    obtain ⟨A, hA, hAle⟩ := has_least o
    obtain ⟨B, hB, hBle⟩ := has_least o2
    obtain ⟨C, hC, hCle⟩ := has_least o3
    have hAe : (A : Int) = pre h h.length := hA.uniq (isL_one o.nn h.length)
    have hBA : (B : Int) ≤ (A : Int) := by omega
    have hCB : (C : Int) ≤ (B : Int) := hC.least _ hB.nn (part_more hB.nn _ _ hB.is)
    have hB2 := part_sum _ _ hB.is
    have hC3 := part_sum _ _ hC.is
    have e2 : (((2 : Int).toNat : Nat) : Int) = 2 := rfl
    have e3 : (((3 : Int).toNat : Nat) : Int) = 3 := rfl
    rw [e2] at hB2
    rw [e3] at hC3
    have p0 := place_ev (lay := 0) (by rw [k0]; exact o) A (by rw [k0]; exact hA) (by omega)
    have p1 := place_ev (lay := 1) (by rw [k1]; exact o) A (by rw [k1]; exact hA) (by omega)
    have p2 := place_ev (lay := 2) (by rw [k2]; exact o2) B (by rw [k2]; exact hB) (by omega)
    have p3 := place_ev (lay := 3) (by rw [k3]; exact o3) C (by rw [k3]; exact hC) (by omega)
    refine Ev.bind p0 (Ev.bind p1 (Ev.bind p2 (Ev.bind p3 (Ev.bind fixed_ev ?_))))
    simp only [if_true, bne_self_eq_false]
    by_cases h200 : (h.length : Int) > 200
    · rw [decide_eq_true h200]
      have hx : Ev (fun k => (variorumlaw20_fixed.f k).bind fun t => if t = true then some true else none) true := Ev.bind fixed_ev (by simp only [if_true]; exact Ev.now _)
      refine Ev.step (fun k => ?_) hx
      simp [variorumlaw20_BlockLeast.j0]
    · rw [decide_eq_false h200]
      have hs := sum_ev h (by have := o.len; omega) (fun i hi => ⟨o.nn.all _, o.rd_le _⟩)
      have g1 : (B : Int) ≤ (A : Int) := hBA
      have w3 : wrap64 (3 * (C : Int)) ≥ (A : Int) := by rw [wrap_small (by omega)]; omega
      have w2 : wrap64 (2 * (B : Int)) ≥ (A : Int) := by rw [wrap_small (by omega)]; omega
      have hx : Ev (fun k => (variorumref19_Sum.f k h).bind fun t => if (A : Int) = t then some true else none) true := Ev.bind hs (by simp only [if_pos hAe]; exact Ev.now _)
      refine Ev.step (fun k => ?_) hx
      simp only [variorumlaw20_BlockLeast.j0]
      rw [if_neg (by decide)]
      simp only [if_true, if_pos g1, if_pos hCB, if_pos w3, decide_eq_true w2, Bool.false_eq_true, if_false]
  · have n0 : ¬ Ok h (colsOf 0) := o
    have n1 : ¬ Ok h (colsOf 1) := o
    have n2 : ¬ Ok h (colsOf 2) := fun x => o (ok_cols x (by omega) (by omega))
    have n3 : ¬ Ok h (colsOf 3) := fun x => o (ok_cols x (by omega) (by omega))
    refine Ev.bind (place_no hl.1 n0) (Ev.bind (place_no hl.1 n1) (Ev.bind (place_no hl.1 n2) (Ev.bind (place_no hl.1 n3) (Ev.bind fixed_ev ?_))))
    simp only [if_true, bne_self_eq_false]
    by_cases h200 : (h.length : Int) > 200
    · rw [decide_eq_true h200]
      have hx : Ev (fun k => (variorumlaw20_fixed.f k).bind fun t => if t = true then some true else none) true := Ev.bind fixed_ev (by simp only [if_true]; exact Ev.now _)
      refine Ev.step (fun k => ?_) hx
      simp [variorumlaw20_BlockLeast.j0]
    · rw [decide_eq_false h200]
      refine Ev.step (f := fun _ => some true) (fun k => ?_) (Ev.now _)
      simp [variorumlaw20_BlockLeast.j0]

end Go.Proofs.Ytmhnccjdhhcjoaa.Pure

/- DemeritApart: what a line costs hangs on its own items and on those at its ends alone, and with a higher tolerance it still is. -/
import Derived.Test.YtagpdpcodcmgkaaPDmx8
import Derived.Test.YtagpdpcodcmgkaaDCost
namespace Go.Proofs.Ytagpdpcodcmgkaa.Pure
set_option linter.unusedVariables false
set_option linter.unusedSimpArgs false
open Go.RowKit Go.Proofs.Ytagpdpcodcmgkaa.PDm Go.Proofs.YtagpdpcodcmgkaaW.PrintWords Go.Proofs.YtagpdpcodcmgkaaW.PrintLast Go.Proofs.YtagpdpcodcmgkaaW.PrintMore

theorem cv_up {l : List S47} {a b w tol : Int} (h : (cv l a b w tol).2.2 = true) : cv l a b w 10000 = cv l a b w tol := by
  obtain ⟨_, _, _, h4, h5⟩ := cv_ok h
  have g : ¬ (lv l a b w).2.2.2.1 > mn tol 10000 := by omega
  have g2 : ¬ (lv l a b w).2.2.2.1 > mn 10000 10000 := by
    revert h5; unfold mn; split <;> omega
  unfold cv
  rw [if_pos h4, if_pos h4, if_neg g, if_neg g2]
theorem rd_cut (l more : List S47) (b : Int) (h0 : 0 ≤ b) (hl : b < (l.length : Int)) : ∀ i : Int, 0 ≤ i → i ≤ b → rd_T47 l i = rd_T47 (([] ++ l.take (b + 1).toNat) ++ more) i := by
  intro i i0 i1
  unfold rd_T47
  rw [List.getD_eq_getElem?_getD, List.getD_eq_getElem?_getD, List.nil_append, List.getElem?_append_left (by rw [List.length_take]; omega), List.getElem?_take_of_lt (by omega)]

theorem DemeritApart : variorumlaw10_DemeritApart.Pure := by
  intro x0 x1 x2 h0 h1 h2
  refine Ev.rounds (g := fun k => variorumlaw10_DemeritApart.f k x0 x1 x2.f0 x2.f1 x2.f2 x2.f3) ?_
  have no : Ev (fun k => variorumlaw10_DemeritApart.j0 k x0 x1 true x2.f0 x2.f1 x2.f2 x2.f3) true :=
    Ev.step (f := fun k => (variorumlaw10_fixed.f k).bind fun t => some t) (fun k => by simp only [variorumlaw10_DemeritApart.j0]; rw [if_pos trivial]) (Ev.bind fixed_ev (Ev.now _))
  unfold variorumlaw10_DemeritApart.f
  refine Ev.bind fixed_ev ?_
  simp only [if_true]
  by_cases c1 : (x0.length : Int) > 1000
  · simp only [if_pos c1]; exact no
  · simp only [if_neg c1]
    by_cases c2 : (x1.length : Int) > 1000
    · simp only [if_pos c2]; exact no
    · simp only [if_neg c2]
      by_cases c3 : x2.f1 < 0
      · simp only [if_pos c3]; exact no
      · simp only [if_neg c3]
        by_cases c4 : x2.f1 ≥ (x0.length : Int)
        · simp only [decide_eq_true c4]; exact no
        · simp only [decide_eq_false c4]
          generalize x2.f0 = A at *
          generalize x2.f1 = B at *
          generalize x2.f2 = W at *
          generalize x2.f3 = T at *
          have g1 : 0 ≤ B + 1 := by omega
          have g2 : B + 1 ≤ (x0.length : Int) := by omega
          have g0 : 0 ≤ B := by omega
          have gB : B < (x0.length : Int) := by omega
          have tl_ : (x0.take (B + 1).toNat).length = (B + 1).toNat := by rw [List.length_take]; omega
          have g3 : ([] : List S47).length + (x0.take (B + 1).toNat).length < 1954687338268 := by rw [tl_]; simp; omega
          have g4 : ([] ++ x0.take (B + 1).toNat : List S47).length + x1.length < 1954687338268 := by rw [List.nil_append, tl_]; omega
          have g5 : (([] ++ x0.take (B + 1).toNat) ++ x1 : List S47).length ≤ 2000 := by rw [List.nil_append, List.length_append, tl_]; omega
          have g6 : B < ((([] ++ x0.take (B + 1).toNat) ++ x1 : List S47).length : Int) := by rw [List.nil_append, List.length_append, tl_]; omega
          have e1 : wrap64 (B + 1) = B + 1 := wrap_small (by omega)
          have same := cv_same (a := A) W T (rd_cut x0 x1 B g0 gB) g0 gB g6
          refine Ev.step (f := fun k => (demerit_Cost.f k x0 A B W T).bind fun bt358 => (demerit_Cost.f k (([] ++ x0.take (B + 1).toNat) ++ x1) A B W T).bind fun bt374 => (if bt358.1 = bt374.1 then (if bt358.2.1 = bt374.2.1 then (if (bt358.2.2 != bt374.2.2) = true then (none) else ((demerit_Cost.f k x0 A B W 10000).bind fun bt377 => (if bt358.2.2 = true then (if bt377.2.2 = true then (if bt377.1 = bt358.1 then (if bt377.2.1 = bt358.2.1 then (if bt358.2.1 ≥ 0 then (some (decide (bt358.2.1 ≤ 3))) else (none)) else (none)) else (none)) else (none)) else (some true)))) else (none)) else (none))) (fun k => ?_) ?_
          · simp only [variorumlaw10_DemeritApart.j0]
            rw [if_neg (by decide)]
            simp only [Option.bind_some, e1]
            simp only [if_pos g1, if_pos g2, if_pos g3, if_pos g4]
          · refine Ev.bind (cost_ev x0 A B W T (by omega)) (Ev.bind (cost_ev _ A B W T g5) ?_)
            rw [← same]
            simp only [if_true, bne_self_eq_false, Bool.false_eq_true, if_false]
            refine Ev.bind (cost_ev x0 A B W 10000 (by omega)) ?_
            by_cases c : (cv x0 A B W T).2.2 = true
            · rw [cv_up c]
              have i := cv_ok c
              have j := cs_in (lv x0 A B W).1 (lv x0 A B W).2.2.2.1
              rw [← i.2.2.1] at j
              simp only [if_pos c, if_true]
              rw [if_pos j.1, decide_eq_true j.2]
              exact Ev.now _
            · simp only [if_neg c]; exact Ev.now _

end Go.Proofs.Ytagpdpcodcmgkaa.Pure

/- BreakerRises: the breaks that are told rise, each may be broken at, the last one is the last item; and each line between two of them costs something that may be. -/
import Derived.Test.YtnkdopihaohimaaPBrx20
import Derived.Test.YtnkdopihaohimaaBPlain
import Derived.Test.YtnkdopihaohimaaBRef
namespace Go.Proofs.Ytnkdopihaohimaa.Pure
set_option linter.unusedVariables false
set_option linter.unusedSimpArgs false
open Go.RowKit Go.Proofs.Ytnkdopihaohimaa.PBr Go.Proofs.YtnkdopihaohimaaW.PrintWords Go.Proofs.YtnkdopihaohimaaW.PrintLast Go.Proofs.YtnkdopihaohimaaW.PrintMore

theorem fixed_ev : Ev (fun k => variorumlaw11_fixed.f k) true := Ev.of variorumlaw11_fixed.mono (k := 60) (by decide +kernel)
theorem rises_loop {l : List S47} (hm : mi l = true) (w tol : Int) : ∀ (r : List Nat) (pre : List Int) (a c : Nat) (t : Int), 0 < (pre ++ ints r).length → pre.length ≤ a → a ≤ l.length → tot l.length (cst l w tol) apn a c r = some t → Ev (fun k => variorumlaw11_BreakerRises.l0 k l w tol (pre ++ ints r) ((a : Int) - 1) (pre.length : Int)) true
  | [], pre, a, c, t => fun h0 hp ha h => by
    have hl : l.length ≤ 2000 := ((mi_iff l).1 hm).1
    have e := h
    simp only [tot] at e
    by_cases q : a = l.length
    · have ew : wrap64 ((l.length : Int) - 1) = (a : Int) - 1 := by rw [wrap_small (by omega)]; omega
      refine Ev.step (f := fun _ => some _) (fun k => ?_) (Ev.now _)
      simp only [variorumlaw11_BreakerRises.l0]
      rw [if_neg (by simp [ints]), if_pos (show ((pre ++ ints []).length : Int) > 0 by omega), ew, beq_self_eq_true]
    · rw [if_neg q] at e; cases e
  | b :: r, pre, a, c, t => fun h0 hp ha h => by
    have hl : l.length ≤ 2000 := ((mi_iff l).1 hm).1
    obtain ⟨x, e, hx, he, -⟩ := tot_cons h
    have kb := (cst_in hm hx).1
    have kc := (cst_in hm hx).2.2.2.1
    have q := mb_in kb
    have hlg : lg l (b : Int) = true := by
      have hb := kb
      unfold mb at hb
      simp only [Bool.and_eq_true] at hb
      exact hb.2.1
    have el : pre ++ ints (b :: r) = (pre ++ [(b : Int)]) ++ ints r := by simp [ints]
    have er : rd (pre ++ ints (b :: r)) (pre.length : Int) = (b : Int) := rd_mid pre (b : Int) (ints r)
    have hlen : ((pre ++ ints (b :: r)).length : Int) > (pre.length : Int) := by simp [ints]; omega
    have ih := rises_loop hm w tol r (pre ++ [(b : Int)]) (b + 1) x.2 e (by rw [← el]; exact h0) (by rw [List.length_append, List.length_singleton]; omega) (by omega) he
    rw [← el, List.length_append, List.length_singleton, show ((b + 1 : Nat) : Int) - 1 = (b : Int) by omega] at ih
    have sw : wrap64 ((pre.length : Int) + 1) = ((pre.length + 1 : Nat) : Int) := succ_w _ (by omega)
    refine Ev.step (f := fun k => (variorumref10_Cost.f k l ((a : Int) - 1) (b : Int) w tol).bind fun c => (if (b : Int) ≤ (a : Int) - 1 then none else ((variorumref10_Legal.f k l (b : Int)).bind fun t => (if t = true then (if c.2.2 = true then (variorumlaw11_BreakerRises.l0 k l w tol (pre ++ ints (b :: r)) (b : Int) ((pre.length + 1 : Nat) : Int)) else none) else none)))) (fun k => ?_) (Ev.bind (rcost_ev l _ _ w tol hl) ?_)
    · simp only [variorumlaw11_BreakerRises.l0]
      rw [if_pos (show (pre.length : Int) < _ from hlen), if_pos (show (0 : Int) ≤ (pre.length : Int) by omega), er, sw]
    · simp only [if_neg (show ¬ (b : Int) ≤ (a : Int) - 1 by omega)]
      refine Ev.bind (rlegal_ev l _ hl) ?_
      simp only [if_pos hlg, if_pos kc]
      exact ih

theorem BreakerRises : variorumlaw11_BreakerRises.Pure := by
  intro x0 x1 x2 h0 h1 h2
  refine Ev.rounds (g := fun k => variorumlaw11_BreakerRises.f k x0 x1 x2) ?_
  have no : ∀ o, Ev (fun k => variorumlaw11_BreakerRises.j0 k x0 x1 x2 o true) true := fun o =>
    Ev.step (f := fun k => (variorumlaw11_fixed.f k).bind fun t => some t) (fun k => by simp only [variorumlaw11_BreakerRises.j0]; rw [if_pos trivial]) (Ev.bind fixed_ev (Ev.now _))
  unfold variorumlaw11_BreakerRises.f
  refine Ev.bind (best_ev x0 x1 x2) (Ev.bind fixed_ev ?_)
  simp only [if_true]
  by_cases hm : mi x0 = true
  · cases hv : VF x0 x1 x2 0 2 with
    | none =>
      have e : bv x0 x1 x2 = ([], 0, false) := by unfold bv; rw [if_pos hm, hv]
      rw [e]; simp only [Bool.false_eq_true, if_false]; exact no _
    | some v =>
      have e : bv x0 x1 x2 = (ints (told x0 x1 x2), v.1, true) := by unfold bv; rw [if_pos hm, hv]; rfl
      rw [e]
      simp only [if_true]
      by_cases c : (x0.length : Int) > 200
      · rw [decide_eq_true c]; exact no _
      · rw [decide_eq_false c]
        have ht := told_cost hm hv
        have hz := vf_pos hv
        refine Ev.step (f := fun k => variorumlaw11_BreakerRises.l0 k x0 x1 x2 (ints (told x0 x1 x2)) (-1) 0) (fun k => by simp only [variorumlaw11_BreakerRises.j0]; rw [if_neg (by decide)]) ?_
        have hp : 0 < (([] : List Int) ++ ints (told x0 x1 x2)).length := by
          cases ht2 : told x0 x1 x2 with
          | nil =>
            rw [ht2] at ht
            simp only [tot] at ht
            rw [if_neg (by omega)] at ht; cases ht
          | cons b r => simp [ints]
        exact rises_loop hm x1 x2 (told x0 x1 x2) [] 0 2 v.1 hp (Nat.le_refl _) (by omega) ht
  · have e : bv x0 x1 x2 = ([], 0, false) := by unfold bv; rw [if_neg hm]
    rw [e]; simp only [Bool.false_eq_true, if_false]; exact no _

end Go.Proofs.Ytnkdopihaohimaa.Pure

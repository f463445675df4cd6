/- BreakerBest: the best breaks of any items, to any width, and their demerits, are as the document says, and so is what is tried, and told. -/
import Derived.Test.YtnkdopihaohimaaPBrx24
import Derived.Test.YtnkdopihaohimaaBWay
namespace Go.Proofs.Ytnkdopihaohimaa.Pure
set_option linter.unusedVariables false
set_option linter.unusedSimpArgs false
open Go.RowKit Go.Proofs.Ytnkdopihaohimaa.PBr Go.Proofs.YtnkdopihaohimaaW.PrintWords Go.Proofs.YtnkdopihaohimaaW.PrintLast Go.Proofs.YtnkdopihaohimaaW.PrintMore

theorem fixed_ev : Ev (fun k => variorumlaw11_fixed.f k) true := Ev.of variorumlaw11_fixed.mono (k := 60) (by decide +kernel)
def brk (l : List S47) (w : Int) : List Int × Bool × Int × Int := if mi l = true then (if (bv l w 200).2.2 = true then ((bv l w 200).1, false, 0, 0) else (if (bv l w 10000).2.2 = true then ((bv l w 10000).1, true, 0, 0) else (([] : List Int), false, 110, 0))) else (([] : List Int), false, 90, 0)
theorem break_ev (l : List S47) (w : Int) : Ev (fun k => breaker_Break.f k l w) (brk l w) := by
  unfold breaker_Break.f brk
  refine Ev.bind (imay_ev l) ?_
  by_cases hm : mi l = true
  · simp only [if_pos hm]
    refine Ev.bind (best_ev l w 200) ?_
    by_cases h1 : (bv l w 200).2.2 = true
    · simp only [if_pos h1]; exact Ev.now _
    · simp only [if_neg h1]
      refine Ev.bind (best_ev l w 10000) ?_
      by_cases h2 : (bv l w 10000).2.2 = true
      · simp only [if_pos h2]; exact Ev.now _
      · simp only [if_neg h2]; exact Ev.now _
  · simp only [if_neg hm]; exact Ev.now _
theorem same_loop (xs : List Int) (hl : xs.length ≤ 1000000) : ∀ (d i : Nat), i + d = xs.length → Ev (fun k => variorumref11_Ints.l0 k xs xs (i : Int)) true
  | 0, i => fun hi => by
    refine Ev.step (f := fun _ => some _) (fun k => ?_) (Ev.now _)
    simp only [variorumref11_Ints.l0]
    rw [if_neg (by omega)]
  | d + 1, i => fun hi => by
    have g1 : (i : Int) < (xs.length : Int) := by omega
    have sw : wrap64 ((i : Int) + 1) = ((i + 1 : Nat) : Int) := succ_w i (by omega)
    refine Ev.step (fun k => ?_) (same_loop xs hl d (i + 1) (by omega))
    simp only [variorumref11_Ints.l0]
    rw [if_pos g1, if_pos (show (0 : Int) ≤ (i : Int) by omega), if_pos g1, if_pos trivial, sw]
theorem same_ev (xs : List Int) (hl : xs.length ≤ 1000000) : Ev (fun k => variorumref11_Ints.f k xs xs) true := by
  unfold variorumref11_Ints.f
  simp only [if_true]
  exact same_loop xs hl xs.length 0 (by omega)
theorem rbreak_ev (l : List S47) (w : Int) (hz : l.length ≤ 1000000000000000) : Ev (fun k => variorumref11_Break.f k l w) (brk l w) := by
  unfold variorumref11_Break.f brk
  refine Ev.bind (rmay9_ev l hz) ?_
  by_cases hm : mi l = true
  · simp only [if_pos hm]
    refine Ev.bind (rbest_ev l w 200 hz) ?_
    by_cases h1 : (bv l w 200).2.2 = true
    · simp only [if_pos h1]; exact Ev.now _
    · simp only [if_neg h1]
      refine Ev.bind (rbest_ev l w 10000 hz) ?_
      by_cases h2 : (bv l w 10000).2.2 = true
      · simp only [if_pos h2]; exact Ev.now _
      · simp only [if_neg h2]; exact Ev.now _
  · simp only [if_neg hm]; exact Ev.now _
theorem bv_len (l : List S47) (w tol : Int) : (bv l w tol).1.length ≤ l.length := by
  unfold bv
  split
  · split
    · exact Nat.zero_le _
    · rw [List.length_map]; exact fol_len _ _ _ _ _
  · exact Nat.zero_le _
theorem brk_len (l : List S47) (w : Int) : (brk l w).1.length ≤ l.length := by
  unfold brk
  repeat' split
  all_goals first | exact bv_len _ _ _ | exact Nat.zero_le _
theorem BreakerBest : variorumlaw11_BreakerBest.Pure := by
  intro x0 x1 x2 h0 h1 h2
  refine Ev.rounds (g := fun k => variorumlaw11_BreakerBest.f k x0 x1 x2) ?_
  unfold variorumlaw11_BreakerBest.f
  by_cases c : (x0.length : Int) > 80
  · simp only [if_pos c]
    exact Ev.bind fixed_ev (Ev.now _)
  · simp only [if_neg c]
    have hz : x0.length ≤ 1000000000000000 := by omega
    have b1 := bv_len x0 x1 x2
    have b2 := brk_len x0 x1
    refine Ev.bind (best_ev x0 x1 x2) (Ev.bind (rbest_ev x0 x1 x2 hz) (Ev.bind (break_ev x0 x1) (Ev.bind (rbreak_ev x0 x1 hz) (Ev.bind fixed_ev ?_))))
    simp only [if_true]
    refine Ev.bind (same_ev _ (by omega)) ?_
    simp only [if_true, beq_self_eq_true]
    refine Ev.bind (same_ev _ (by omega)) ?_
    simp only [if_true, Bool.and_self]
    exact Ev.now _
end Go.Proofs.Ytnkdopihaohimaa.Pure

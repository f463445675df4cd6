/- BreakerLeast: no breaks that may be are less bad than those that are told, whatever breaks one chooses; and if none are told, none may be. -/
import Derived.Test.YtnkdopihaohimaaPBrx18
import Derived.Test.YtnkdopihaohimaaBTot
namespace Go.Proofs.Ytnkdopihaohimaa.Pure
set_option linter.unusedVariables false
set_option linter.unusedSimpArgs false
open Go.RowKit Go.Proofs.Ytnkdopihaohimaa.PBr Go.Proofs.YtnkdopihaohimaaW.PrintWords Go.Proofs.YtnkdopihaohimaaW.PrintLast Go.Proofs.YtnkdopihaohimaaW.PrintMore

theorem fixed_ev : Ev (fun k => variorumlaw11_fixed.f k) true := Ev.of variorumlaw11_fixed.mono (k := 60) (by decide +kernel)
theorem BreakerLeast : variorumlaw11_BreakerLeast.Pure := by
  intro x0 x1 x2 h0 h1 h2
  refine Ev.rounds (g := fun k => variorumlaw11_BreakerLeast.f k x0 x1 x2.f0 x2.f1) ?_
  have no : Ev (fun k => variorumlaw11_BreakerLeast.j0 k x0 x1 true x2.f0 x2.f1) true :=
    Ev.step (f := fun k => (variorumlaw11_fixed.f k).bind fun t => some t) (fun k => by simp only [variorumlaw11_BreakerLeast.j0]; rw [if_pos trivial]) (Ev.bind fixed_ev (Ev.now _))
  unfold variorumlaw11_BreakerLeast.f
  refine Ev.bind fixed_ev ?_
  simp only [if_true]
  by_cases c : (x0.length : Int) > 200
  · simp only [if_pos c]; exact no
  · simp only [if_neg c]
    refine Ev.bind (rmay9_ev x0 (by omega)) ?_
    by_cases hm : mi x0 = true
    · have hl : x0.length ≤ 2000 := ((mi_iff x0).1 hm).1
      rw [hm]
      obtain ⟨cs, hcs, hlen⟩ := choice_ev hl x0.length 0 x2.f0 [] (by omega) (by simp)
      simp only [List.length_nil, Nat.zero_add] at hlen
      have hch : Ev (fun k => variorumref11_Choice.f k x0 x2.f0) cs := hcs
      refine Ev.step (f := fun k => (breaker_Best.f k x0 x1 x2.f1).bind fun bt348 => ((variorumref11_Choice.f k x0 x2.f0).bind fun t353 => ((variorumref10_Total.f k x0 t353 x1 x2.f1).bind fun bt356 => (if bt348.2.2 = true then ((variorumref10_Total.f k x0 bt348.1 x1 x2.f1).bind fun bt358 => (if bt358.2 = true then (if bt358.1 = bt348.2.1 then (if bt356.2 = true then (some (decide (bt348.2.1 ≤ bt356.1))) else (some true)) else (none)) else (none))) else (if bt356.2 = true then (none) else (some ((bt348.1.length : Int) == 0))))))) (fun k => by simp only [variorumlaw11_BreakerLeast.j0]; rw [if_neg (by decide)]) ?_
      refine Ev.bind (best_ev x0 x1 x2.f1) (Ev.bind hch (Ev.bind (rtotal_ev x0 cs x1 x2.f1 hl (by omega)) ?_))
      cases hv : VF x0 x1 x2.f1 0 2 with
      | none =>
        have e : bv x0 x1 x2.f1 = ([], 0, false) := by unfold bv; rw [if_pos hm, hv]
        rw [e]
        simp only [Bool.false_eq_true, if_false]
        by_cases ht : (to_ x0 cs x1 x2.f1).2 = true
        · exfalso
          obtain ⟨r, _, hne, htt⟩ := to_is hm ht
          have hz : 0 < x0.length := by
            cases r with
            | nil => exact absurd rfl hne
            | cons b r =>
              obtain ⟨x, e', hx, _, _⟩ := tot_cons htt
              have := mb_in (cst_in hm hx).1
              omega
          obtain ⟨v, hv2, _⟩ := least (filled hm x1 x2.f1) r 0 2 _ (.inl rfl) hz (by omega) htt
          rw [hv] at hv2; cases hv2
        · simp only [if_neg ht]
          exact Ev.now _
      | some v =>
        have e : bv x0 x1 x2.f1 = (ints (told x0 x1 x2.f1), v.1, true) := by unfold bv; rw [if_pos hm, hv]; rfl
        have hz := vf_pos hv
        have hcost := told_cost hm hv
        have hto := to_of hm (told_ne hm hv) hcost
        have hln := told_len hm _ 0 2 v.1 (Nat.zero_le _) hcost
        have hil : (ints (told x0 x1 x2.f1)).length ≤ 2000 := by simp only [ints, List.length_map]; omega
        rw [e]
        simp only [if_true]
        refine Ev.bind (rtotal_ev x0 _ x1 x2.f1 hl hil) ?_
        rw [hto]
        simp only [if_true]
        by_cases ht : (to_ x0 cs x1 x2.f1).2 = true
        · simp only [if_pos ht]
          obtain ⟨r, _, hne, htt⟩ := to_is hm ht
          obtain ⟨v2, hv2, hle⟩ := least (filled hm x1 x2.f1) r 0 2 _ (.inl rfl) hz (by omega) htt
          rw [hv] at hv2
          cases hv2
          rw [decide_eq_true hle]; exact Ev.now _
        · simp only [if_neg ht]; exact Ev.now _
    · rw [Bool.eq_false_iff.mpr hm]; exact no

end Go.Proofs.Ytnkdopihaohimaa.Pure

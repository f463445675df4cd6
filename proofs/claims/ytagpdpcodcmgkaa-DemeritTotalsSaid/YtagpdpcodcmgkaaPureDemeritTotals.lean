/- DemeritTotals: what any breaks cost together is as the document says. -/
import Derived.Test.YtagpdpcodcmgkaaPTox13
import Derived.Test.YtagpdpcodcmgkaaTRef
namespace Go.Proofs.Ytagpdpcodcmgkaa.Pure
set_option linter.unusedVariables false
set_option linter.unusedSimpArgs false
open Go.RowKit Go.Proofs.Ytagpdpcodcmgkaa.PTo Go.Proofs.YtagpdpcodcmgkaaW.PrintWords Go.Proofs.YtagpdpcodcmgkaaW.PrintLast Go.Proofs.YtagpdpcodcmgkaaW.PrintMore

theorem DemeritTotals : variorumlaw10_DemeritTotals.Pure := by
  intro x0 x1 x2 h0 h1 h2
  refine Ev.rounds (g := fun k => variorumlaw10_DemeritTotals.f k x0 x1 x2.f0 x2.f1 x2.f2 x2.f3) ?_
  have no : Ev (fun k => variorumlaw10_DemeritTotals.j0 k x0 x1 true x2.f0 x2.f1 x2.f2 x2.f3) true :=
    Ev.step (f := fun k => (variorumlaw10_fixed.f k).bind fun t => some t) (fun k => by simp only [variorumlaw10_DemeritTotals.j0]; rw [if_pos trivial]) (Ev.bind fixed_ev (Ev.now _))
  unfold variorumlaw10_DemeritTotals.f
  by_cases c1 : (x0.length : Int) > 2000
  · simp only [if_pos c1]; exact no
  · simp only [if_neg c1]
    by_cases c2 : (x1.length : Int) > 200
    · simp only [decide_eq_true c2]; exact no
    · simp only [decide_eq_false c2]
      refine Ev.step (f := fun k => (demerit_Total.f k x0 x1 x2.f2 x2.f3).bind fun bt350 => ((variorumref10_Total.f k x0 x1 x2.f2 x2.f3).bind fun bt352 => ((variorumlaw10_fixed.f k).bind fun t354 => (if t354 = true then (if bt350.1 = bt352.1 then (some (bt350.2 == bt352.2)) else (none)) else (none))))) (fun k => by simp only [variorumlaw10_DemeritTotals.j0]; rw [if_neg (by decide)]) ?_
      refine Ev.bind (dtotal_ev x0 x1 _ _ (by omega) (by omega)) (Ev.bind (rtotal_ev x0 x1 _ _ (by omega) (by omega)) (Ev.bind fixed_ev ?_))
      simp only [if_true, beq_self_eq_true]
      exact Ev.now _

end Go.Proofs.Ytagpdpcodcmgkaa.Pure

/- ItemMay: whether any items may be, and which of them are boxes, is as the document says. -/
import Derived.Test.YtbdaaiagpknaoaaPAllx12
import Derived.Test.YtbdaaiagpknaoaaPItem
namespace Go.Proofs.Ytbdaaiagpknaoaa.Pure
set_option linter.unusedVariables false
set_option linter.unusedSimpArgs false
open Go.RowKit Go.Proofs.Ytbdaaiagpknaoaa.PAll Go.Proofs.YtbdaaiagpknaoaaW.PrintWords Go.Proofs.YtbdaaiagpknaoaaW.PrintLast Go.Proofs.YtbdaaiagpknaoaaW.PrintMore

theorem ItemMay : variorumlaw09_ItemMay.Pure := by
  intro x0 h0
  have hl : x0.length < 1954687338268 := by omega
  refine Ev.rounds (g := fun k => variorumlaw09_ItemMay.f k x0) ?_
  unfold variorumlaw09_ItemMay.f
  refine Ev.bind fixed_ev ?_
  simp only [if_true]
  refine Ev.bind (imay_ev x0) (Ev.bind (rmay9_ev x0 (by omega)) ?_)
  simp only [beq_self_eq_true, if_true]
  exact Ev.bind (boxes_ev x0 hl) (Ev.bind (rboxes_ev x0 hl) (Ev.bind (same_ev _ (by have := bx_len x0 x0.length 0; omega)) (Ev.now _)))

end Go.Proofs.Ytbdaaiagpknaoaa.Pure

/- UtfEncodes: the bytes of any letters are as the document says. -/
import Derived.Test.YtbcbiigjgofagaaDoorPUtx7
import Derived.Test.YtbcbiigjgofagaaDoorURef
namespace Go.Proofs.YtbcbiigjgofagaaDoor.Pure
set_option linter.unusedVariables false
set_option linter.unusedSimpArgs false
open Go Go.RowKit Go.Proofs.YtbcbiigjgofagaaDoor.PUt Go.Proofs.YtbcbiigjgofagaaDoorW.PrintWords Go.Proofs.YtbcbiigjgofagaaDoorW.PrintLast Go.Proofs.YtbcbiigjgofagaaDoorW.PrintMore Go.Proofs.YtbcbiigjgofagaaDoor.UMath

theorem UtfEncodes : variorumlaw04_UtfEncodes.Pure := by
  intro l c hl _
  refine Ev.rounds (g := fun k => variorumlaw04_UtfEncodes.f k l c) ?_
  unfold variorumlaw04_UtfEncodes.f
  refine Ev.bind (encode_ev l hl.1) (Ev.bind (rencode_ev l hl.1) (Ev.bind fixed_ev ?_))
  simp only [if_true, beq_self_eq_true]
  refine Ev.bind (letter_ev c) ?_
  simp only [rletter_f, Option.bind_some, beq_self_eq_true]
  exact Ev.now _
end Go.Proofs.YtbcbiigjgofagaaDoor.Pure

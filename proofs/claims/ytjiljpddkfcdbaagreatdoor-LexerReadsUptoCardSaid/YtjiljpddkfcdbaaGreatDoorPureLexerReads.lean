/- LexerReads: what tokens any bytes are, and what is wrong with them first, is as the document says. -/
import Derived.Test.YtjiljpddkfcdbaaGreatDoorPLxx7
import Derived.Test.YtjiljpddkfcdbaaGreatDoorXRef
namespace Go.Proofs.YtjiljpddkfcdbaaGreatDoor.Pure
set_option linter.unusedVariables false
set_option linter.unusedSimpArgs false
open Go Go.RowKit Go.Proofs.YtjiljpddkfcdbaaGreatDoor.PLx Go.Proofs.YtjiljpddkfcdbaaGreatDoorW.PrintWords Go.Proofs.YtjiljpddkfcdbaaGreatDoorW.PrintLast Go.Proofs.YtjiljpddkfcdbaaGreatDoorW.PrintMore

theorem LexerReads : variorumlaw05_LexerReads.Pure := by
  intro a0 _ h0
  obtain ⟨r, h1, h2, h3⟩ := lex_both a0 (by omega)
  refine Ev.rounds ?_
  unfold variorumlaw05_LexerReads.f
  refine Ev.bind h1 (Ev.bind h2 (Ev.bind fixed_ev ?_))
  simp only [if_true]
  refine Ev.bind (same_ev r.1 (by omega)) ?_
  simp only [if_true, beq_self_eq_true, Bool.and_self]
  exact Ev.now _
end Go.Proofs.YtjiljpddkfcdbaaGreatDoor.Pure

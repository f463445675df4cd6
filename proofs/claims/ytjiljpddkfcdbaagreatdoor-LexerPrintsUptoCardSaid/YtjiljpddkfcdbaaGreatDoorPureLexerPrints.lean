/- LexerPrints: whether any tokens may be, their print, and any text escaped, is as the document says. -/
import Derived.Test.YtjiljpddkfcdbaaGreatDoorPLxx9
import Derived.Test.YtjiljpddkfcdbaaGreatDoorXRef
namespace Go.Proofs.YtjiljpddkfcdbaaGreatDoor.Pure
set_option linter.unusedVariables false
set_option linter.unusedSimpArgs false
open Go Go.RowKit Go.Proofs.YtjiljpddkfcdbaaGreatDoor.PLx Go.Proofs.YtjiljpddkfcdbaaGreatDoorW.PrintWords Go.Proofs.YtjiljpddkfcdbaaGreatDoorW.PrintLast Go.Proofs.YtjiljpddkfcdbaaGreatDoorW.PrintMore Go.Proofs.YtjiljpddkfcdbaaGreatDoor.UMath Go.Proofs.YtjiljpddkfcdbaaGreatDoor.VMath
open Classical

theorem LexerPrints : variorumlaw05_LexerPrints.Pure := by
  intro l a1 _ hb _ h1
  have hb : OpenB.bulkOf bk l ≤ 10000000 := Nat.le_trans hb (by decide)
  refine Ev.rounds ?_
  unfold variorumlaw05_LexerPrints.f
  refine Ev.bind fixed_ev ?_
  simp only [if_true]
  refine Ev.bind (may_evB hb) (Ev.bind (rmay_ev hb) ?_)
  simp only [beq_self_eq_true, if_true]
  refine Ev.bind (print_ev hb) (Ev.bind (rprint_ev hb) ?_)
  simp only [if_true]
  have he : Ev (fun _ => lexer_Escape.f a1) ⟨(escL a1.data.toList).toArray⟩ := by
    refine Ev.congr (f := fun _ => some ⟨(escL a1.data.toList).toArray⟩) (fun k => ?_) (Ev.now _)
    unfold lexer_Escape.f
    rw [if_pos (by omega)]
  refine Ev.bind he (Ev.bind (resc_ev (by omega)) ?_)
  simp only [beq_self_eq_true]
  exact Ev.now _
end Go.Proofs.YtjiljpddkfcdbaaGreatDoor.Pure

/- UtfDecodes, where what comes in is of bulk at most 1048576: what letters any bytes are, or where they are none first, and where letters begin, is as the document says. -/
import Derived.Test.YtbcbiigjgofagaaDoorPUtx5
import Derived.Test.YtbcbiigjgofagaaDoorURef
namespace Go.Proofs.YtbcbiigjgofagaaDoor.Pure
set_option linter.unusedVariables false
set_option linter.unusedSimpArgs false
open Go Go.RowKit Go.Proofs.YtbcbiigjgofagaaDoor.PUt Go.Proofs.YtbcbiigjgofagaaDoorW.PrintWords Go.Proofs.YtbcbiigjgofagaaDoorW.PrintLast Go.Proofs.YtbcbiigjgofagaaDoorW.PrintMore Go.Proofs.YtbcbiigjgofagaaDoor.UMath

theorem UtfDecodes : variorumlaw04_UtfDecodes.Pure := by
  intro s _ hs
  refine Ev.rounds (g := fun k => variorumlaw04_UtfDecodes.f k s) ?_
  obtain ⟨cs, ps, q, h, hq, hb⟩ := Ls.total s s.size 0 (by omega) (by omega)
  have hl := h.len
  have d1 := decode_ev h hq hb (by omega)
  have d2 := rdecode_ev h hq hb (by omega)
  have d3 := starts_ev h hq hb (by omega)
  have d4 := rwalk_ev h hq hb (by omega)
  unfold variorumlaw04_UtfDecodes.f
  by_cases c : q < s.size
  · simp only [if_pos c] at d1 d2 d3 d4
    refine Ev.bind d1 (Ev.bind d2 (Ev.bind d3 (Ev.bind d4 (Ev.bind fixed_ev ?_))))
    simp only [if_true]
    refine Ev.bind (runes_ev [] (by decide)) ?_
    have g : decide ((q : Int) < 0) = false := decide_eq_false (by omega)
    simp only [if_true, beq_self_eq_true, Bool.and_self, g]
    exact Ev.now _
  · simp only [if_neg c] at d1 d2 d3 d4
    refine Ev.bind d1 (Ev.bind d2 (Ev.bind d3 (Ev.bind d4 (Ev.bind fixed_ev ?_))))
    simp only [if_true]
    refine Ev.bind (runes_ev cs (by omega)) ?_
    have g : decide ((-1 : Int) < 0) = true := by decide
    simp only [if_true, beq_self_eq_true, Bool.and_self, g]
    refine Ev.bind (ints_ev ps (by omega)) ?_
    simp only [if_true]
    exact Ev.now _
end Go.Proofs.YtbcbiigjgofagaaDoor.Pure

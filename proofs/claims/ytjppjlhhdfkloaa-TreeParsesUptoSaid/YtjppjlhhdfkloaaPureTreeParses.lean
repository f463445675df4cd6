/- TreeParses: what the parser tells of any tokens is what the document does. -/
import Derived.Test.YtjppjlhhdfkloaaPTpx11
import Derived.Test.YtjppjlhhdfkloaaTSame
namespace Go.Proofs.Ytjppjlhhdfkloaa.Pure
set_option linter.unusedVariables false
set_option linter.unusedSimpArgs false
open Go.RowKit Go.Proofs.Ytjppjlhhdfkloaa.PTp Go.Proofs.YtjppjlhhdfkloaaW.PrintWords Go.Proofs.YtjppjlhhdfkloaaW.PrintLast Go.Proofs.YtjppjlhhdfkloaaW.PrintMore

theorem bulk_len {α : Type} : ∀ l : List α, l.length ≤ Go.Proofs.Ytjppjlhhdfkloaa.OpenB.bulkOf (fun _ => 1) l
  | [] => Nat.zero_le _
  | x :: r => by have := bulk_len r; simp only [Go.Proofs.Ytjppjlhhdfkloaa.OpenB.bulkOf, List.length_cons]; omega
theorem TreeParses : variorumlaw06_TreeParses.Pure := by
  intro l _ hb
  replace hb := Nat.le_trans (bulk_len l) hb
  refine Ev.rounds (g := fun k => variorumlaw06_TreeParses.f k l) ?_
  unfold variorumlaw06_TreeParses.f
  refine Ev.bind (parse_ev l hb) (Ev.bind (rparse_ev l hb) (Ev.bind fixed_ev ?_))
  simp only [if_true]
  refine Ev.bind (places_ev (pv_sm l hb)) ?_
  simp only [if_true, beq_self_eq_true, Bool.and_self]
  exact Ev.now _
end Go.Proofs.Ytjppjlhhdfkloaa.Pure

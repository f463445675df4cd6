/- PassesTells: what Fix and Way of the package passes tell is what the reference tells. For every input. -/
import Derived.Test.YtnfbdjlpdbacgaaPAllx5
import Derived.Test.YtnfbdjlpdbacgaaPLib
namespace Go.Proofs.Ytnfbdjlpdbacgaa.Pure
open Go.RowKit Go.Proofs.Ytnfbdjlpdbacgaa.PAll Go.Proofs.YtnfbdjlpdbacgaaW.PrintWords Go.Proofs.YtnfbdjlpdbacgaaW.PrintLast

theorem ways_len {l : List Int} {a s : Int} {r : List Int × Int × Int} (h : ways l a s r) : (r.1.length : Int) ≤ 1001 := by
  rcases h with ⟨_, rfl⟩ | ⟨h0, h1, _, rfl⟩ | ⟨_, _, m, _, _, _, rfl⟩ <;> simp <;> omega

theorem PassesTells : variorumlaw24_PassesTells.Pure := by
  intro l a most _ _ _ _ _
  obtain ⟨m, r, _, p, q⟩ := fix_ev l a most
  obtain ⟨r2, hw, pw, qw⟩ := way_ev l a most
  have hl := ways_len hw
  refine Ev.rounds (g := fun k => variorumlaw24_PassesTells.f k l a most) ?_
  unfold variorumlaw24_PassesTells.f
  refine Ev.bind p (Ev.bind q (Ev.bind pw (Ev.bind qw (Ev.bind fixed_ev ?_))))
  simp only [if_true, beq_self_eq_true, Bool.and_self]
  refine Ev.bind (ints_same r2.1 (by omega)) ?_
  simp only [if_true]
  exact Ev.now true

end Go.Proofs.Ytnfbdjlpdbacgaa.Pure

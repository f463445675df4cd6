/- PassesMore: with more passes Fix comes to the same; from the next state on, too, by one pass fewer. For every input. -/
import Derived.Test.YtnfbdjlpdbacgaaPAllx8
import Derived.Test.YtnfbdjlpdbacgaaPLib
namespace Go.Proofs.Ytnfbdjlpdbacgaa.Pure
open Go.RowKit Go.Proofs.Ytnfbdjlpdbacgaa.PAll Go.Proofs.YtnfbdjlpdbacgaaW.PrintWords Go.Proofs.YtnfbdjlpdbacgaaW.PrintLast Go.Proofs.YtnfbdjlpdbacgaaW.PrintMore

theorem runs_code {l : List Int} {most n a : Int} {m : Nat} {r : Int × Int × Int × Int} (h : runs l most n a m r) (hc : r.2.2.1 = 0) : inb l (it l a m) ∧ rd l (it l a m) = it l a m ∧ r = (it l a m, n + m, 0, 0) := by
  rcases h.2 with h | ⟨_, _, _, rfl⟩ | ⟨_, rfl⟩
  · exact h
  · simp at hc
  · simp at hc

theorem mn_mono {a b : Int} (h : a ≤ b) : mn a 1000 ≤ mn b 1000 := by unfold mn; split <;> split <;> omega

theorem PassesMore : variorumlaw24_PassesMore.Pure := by
  intro l a most _ _ _ _ hm
  obtain ⟨m, r, hr, p, _⟩ := fix_ev l a most
  refine Ev.rounds (g := fun k => variorumlaw24_PassesMore.f k l a most) ?_
  unfold variorumlaw24_PassesMore.f
  refine Ev.bind p (Ev.bind fixed_ev ?_)
  simp only [if_true]
  have triv : ∀ x y, Ev (fun k => variorumlaw24_PassesMore.j0 k l a most x y true) true := by
    intro x y
    refine Ev.step (f := fun k => (variorumlaw24_fixed.f k).bind fun t228 => (some t228)) (fun k => ?_) (Ev.bind fixed_ev (Ev.now true))
    simp only [variorumlaw24_PassesMore.j0, if_true]
  by_cases h0 : r.2.2.1 = 0
  · simp only [if_pos h0]
    by_cases h1 : most > 500
    · simp only [if_pos h1]; exact triv _ _
    · simp only [if_neg h1]
      by_cases h2 : most < -1000
      · simp only [decide_eq_true h2]; exact triv _ _
      · simp only [decide_eq_false h2]
        obtain ⟨hin, hfix, rfl⟩ := runs_code hr h0
        have hgo := hr.1
        have hr2 : runs l (most + 100) 0 a m (it l a m, 0 + (m : Int), 0, 0) := by
          refine ⟨fun i hi => ?_, .inl ⟨hin, hfix, rfl⟩⟩
          obtain ⟨a1, a2, a3⟩ := hgo i hi
          have := mn_mono (show most ≤ most + 100 by omega)
          exact ⟨a1, a2, by omega⟩
        have p2 := fix_of_runs hr2
        refine Ev.step (f := fun k => (passes_Fix.f k l a (most + 100)).bind fun bt229 => (if bt229.1 = it l a m then (if bt229.2.1 = 0 + (m : Int) then (variorumlaw24_PassesMore.j1 k l a most (it l a m) (0 + (m : Int)) (bt229.2.2.1 != 0)) else (variorumlaw24_PassesMore.j1 k l a most (it l a m) (0 + (m : Int)) true)) else (variorumlaw24_PassesMore.j1 k l a most (it l a m) (0 + (m : Int)) true))) (fun k => ?_) ?_
        · simp only [variorumlaw24_PassesMore.j0]
          rw [wrap_small (by omega)]
          simp
        refine Ev.bind p2 ?_
        simp only [if_true]
        cases m with
        | zero =>
          refine Ev.step (f := fun _ => some true) (fun k => ?_) (Ev.now true)
          simp [variorumlaw24_PassesMore.j1]
        | succ m =>
          have hin0 : inb l a := (hgo 0 (by omega)).1
          have hr3 : runs l most 0 (rd l a) m (it l a (m + 1), 0 + (m : Int), 0, 0) := by
            refine ⟨fun i hi => ?_, .inl ⟨hin, hfix, rfl⟩⟩
            obtain ⟨a1, a2, a3⟩ := hgo (i + 1) (by omega)
            exact ⟨a1, a2, by omega⟩
          have p3 := fix_of_runs hr3
          have hk : ((m + 1 : Nat) : Int) < 1001 := by
            have := (hgo m (by omega)).2.2
            have := mn_le most 1000
            omega
          refine Ev.step (f := fun k => (passes_Fix.f k l (rd l a) most).bind fun bt235 => (if bt235.1 = it l a (m + 1) then (if bt235.2.1 = (wrap64 (0 + ((m + 1 : Nat) : Int) - 1)) then (some (bt235.2.2.1 == 0)) else (some false)) else (some false))) (fun k => ?_) ?_
          · simp only [variorumlaw24_PassesMore.j1]
            rw [if_neg (by decide), if_neg (by omega), if_pos hin0.1, if_pos hin0.2]
          refine Ev.bind p3 ?_
          simp only [if_true]
          rw [wrap_small (by omega)]
          simp only [if_pos (by omega : 0 + (m : Int) = 0 + ((m + 1 : Nat) : Int) - 1)]
          exact Ev.now true
  · simp only [if_neg h0]; exact triv _ _

end Go.Proofs.Ytnfbdjlpdbacgaa.Pure

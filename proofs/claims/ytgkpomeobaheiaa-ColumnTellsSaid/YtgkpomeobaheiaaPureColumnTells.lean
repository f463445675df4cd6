/- ColumnTells: column and its reference tell the same. -/
import Derived.Test.YtgkpomeobaheiaaPAllx4
import Derived.Test.YtgkpomeobaheiaaPLeast
namespace Go.Proofs.Ytgkpomeobaheiaa.Pure
set_option linter.unusedVariables false
set_option linter.unusedSimpArgs false
open Go.RowKit Go.Proofs.Ytgkpomeobaheiaa.PAll Go.Proofs.YtgkpomeobaheiaaW.PrintWords Go.Proofs.YtgkpomeobaheiaaW.PrintLast Go.Proofs.YtgkpomeobaheiaaW.PrintMore

theorem wf_high {x : Int} (h : (Lit.int .i64 x).wf = true) : x ≤ 9223372036854775807 := by
  simp [Lit.wf] at h
  exact h.2

theorem ColumnTells : variorumlaw19_ColumnTells.Pure := by
  intro h cols room hl hc hr
  have hr2 := wf_high hr
  refine Ev.rounds (g := fun k => variorumlaw19_ColumnTells.f k h cols room) ?_
  unfold variorumlaw19_ColumnTells.f
  by_cases h60 : (h.length : Int) > 60
  · simp only [if_pos h60]
    exact Ev.bind fixed_ev (Ev.now _)
  · simp only [if_neg h60]
    by_cases o : Ok h cols
    · obtain ⟨L, hL, hle⟩ := has_least o
      have t := o.tot
      have h2 := o.c2
      have hcl : (counts h L cols.toNat).length ≤ 100000 := by rw [counts_length]; omega
      have hfl : (filled h cols room).1.length ≤ 100000 := by
        unfold filled
        split
        · rw [counts_length]; omega
        · simp
      refine Ev.bind (least_ev o L hL) (Ev.bind (rleast_ev o L hL) (Ev.bind (fill_ev o room hr2) (Ev.bind (rfill_ev o room hr2) (Ev.bind (balance_ev o L hL (by omega)) (Ev.bind (rbalance_ev o L hL (by omega)) (Ev.bind fixed_ev ?_))))))
      simp only [if_true, beq_self_eq_true]
      refine Ev.bind (ints_ev _ hfl) ?_
      simp only [if_true]
      refine Ev.bind (ints_ev _ hcl) ?_
      simp only [if_true]
      exact Ev.bind (may_ev h cols hl.1 true (by simp [o])) (Ev.bind (rmay_ev h cols true (by simp [o])) (Ev.now _))
    · refine Ev.bind (least_no hl.1 o) (Ev.bind (rleast_no o) (Ev.bind (fill_no hl.1 o room) (Ev.bind (rfill_no o room) (Ev.bind (balance_no hl.1 o) (Ev.bind (rbalance_no o) (Ev.bind fixed_ev ?_))))))
      simp only [if_true, beq_self_eq_true]
      refine Ev.bind (ints_ev [] (by simp)) ?_
      simp only [if_true]
      refine Ev.bind (ints_ev [] (by simp)) ?_
      simp only [if_true]
      exact Ev.bind (may_ev h cols hl.1 false (by simp [o])) (Ev.bind (rmay_ev h cols false (by simp [o])) (Ev.now _))

end Go.Proofs.Ytgkpomeobaheiaa.Pure

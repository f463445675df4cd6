/- PassesFixed: what Fix tells is a state that a pass leaves as it is, and no earlier one on the way is; it is come to by just so many passes. For every input. -/
import Derived.Test.YtnfbdjlpdbacgaaPAllx6
import Derived.Test.YtnfbdjlpdbacgaaPLib
namespace Go.Proofs.Ytnfbdjlpdbacgaa.Pure
open Go.RowKit Go.Proofs.Ytnfbdjlpdbacgaa.PAll Go.Proofs.YtnfbdjlpdbacgaaW.PrintWords Go.Proofs.YtnfbdjlpdbacgaaW.PrintLast Go.Proofs.YtnfbdjlpdbacgaaW.PrintMore

theorem rd_way (l : List Int) (a : Int) (n i : Nat) (h : i < n) : rd ((List.range n).map (it l a)) (i : Int) = it l a i := by
  unfold rd
  rw [Int.toNat_natCast, List.getD_eq_getElem?_getD, List.getElem?_map, List.getElem?_range h]
  rfl

theorem PassesFixed : variorumlaw24_PassesFixed.Pure := by
  intro l a most _ _ _ _ hm
  obtain ⟨m, r, hr, p, _⟩ := fix_ev l a most
  refine Ev.rounds (g := fun k => variorumlaw24_PassesFixed.f k l a most) ?_
  unfold variorumlaw24_PassesFixed.f
  refine Ev.bind p (Ev.bind fixed_ev ?_)
  simp only [if_true]
  have hb := mn_le most 1000
  have other : r.1 = 0 → r.2.1 = 0 → Ev (fun k => variorumlaw24_PassesFixed.j0 k l a most r.1 r.2.1 true) true := by
    intro e1 e2
    rw [e1, e2]
    refine Ev.step (f := fun k => (variorumlaw24_fixed.f k).bind fun t186 => (if t186 = true then (some true) else (some false))) (fun k => ?_) (Ev.bind fixed_ev (by simp only [if_true]; exact Ev.now true))
    simp [variorumlaw24_PassesFixed.j0]
  rcases hr.2 with ⟨hin, hfix, rfl⟩ | ⟨_, _, _, rfl⟩ | ⟨_, rfl⟩
  · have hgo := hr.1
    have hmm : (m : Int) ≤ mx most 0 ∧ m ≤ 1000 := by
      cases m with
      | zero => unfold mx; split <;> omega
      | succ m =>
        have h3 := (hgo m (by omega)).2.2
        have : mn most 1000 ≤ most := by unfold mn; split <;> omega
        unfold mx; split <;> omega
    have hall : ∀ j : Nat, (j : Int) ≤ (m : Int) → inb l (it l a j) := by
      intro j hj
      by_cases e : j = m
      · subst e; exact hin
      · exact (hgo j (by omega)).1
    have hw : ways l a (m : Int) ((List.range (m + 1)).map (it l a), 0, 0) := .inr (.inl ⟨by omega, by omega, hall, by simp⟩)
    have pw := (way_of_ways hw).1
    have e0 : (0 : Int) + (m : Int) = m := by omega
    simp only [e0]
    have hlast : Ev (fun k => variorumlaw24_PassesFixed.l0 k l (it l a m) m ((List.range (m + 1)).map (it l a)) 0) true := by
      have key : ∀ (d i : Nat), i ≤ m → m - i = d → Ev (fun k => variorumlaw24_PassesFixed.l0 k l (it l a m) m ((List.range (m + 1)).map (it l a)) i) true := by
        intro d
        induction d with
        | zero =>
          intro i hi hd
          have e : i = m := by omega
          subst e
          have hz : runs l 0 0 (it l a i) 0 (it l a i, 0, 0, 0) := ⟨fun j hj => by omega, .inl ⟨hin, hfix, rfl⟩⟩
          refine Ev.step (f := fun k => (passes_Fix.f k l (it l a i) 0).bind fun bt199 => (if bt199.1 = it l a i then (if bt199.2.1 = 0 then (some (bt199.2.2.1 == 0)) else (some false)) else (some false))) (fun k => ?_) (Ev.bind (fix_of_runs hz) (by simp only [if_true, beq_self_eq_true]; exact Ev.now true))
          simp only [variorumlaw24_PassesFixed.l0]
          rw [if_neg (by omega)]
        | succ d ih =>
          intro i hi hd
          obtain ⟨g1, g2, _⟩ := hgo i (by omega)
          have hne : ¬ it l a i = it l a m := fun e => g2 (by rw [e]; exact hfix)
          refine Ev.step (f := fun k => variorumlaw24_PassesFixed.l0 k l (it l a m) m ((List.range (m + 1)).map (it l a)) ((i + 1 : Nat) : Int)) (fun k => ?_) (ih (i + 1) (by omega) (by omega))
          simp only [variorumlaw24_PassesFixed.l0]
          rw [rd_way l a (m + 1) i (by omega), if_pos (by omega), if_pos (by omega), if_pos (by simp; omega), if_neg hne, if_pos g1.1, if_pos g1.2, if_neg g2, wrap_small (by omega)]
          rfl
      exact key m 0 (by omega) (by omega)
    refine Ev.step (f := fun k => (passes_Way.f k l a m).bind fun bt187 => variorumlaw24_PassesFixed.j1 k l (it l a m) m bt187.1 (bt187.2.1 != 0 || (bt187.1.length : Int) != (m : Int) + 1 || rd bt187.1 m != it l a m)) (fun k => ?_) (Ev.bind pw ?_)
    · simp only [variorumlaw24_PassesFixed.j0]
      rw [if_neg (by decide)]
      congr 1
      funext bt
      rw [if_neg (by have := hin.1; omega), if_neg (by have := hin.2; omega), if_pos hin.1, if_pos hin.2, if_pos hfix, if_neg (by omega), if_neg (by omega), wrap_small (by omega)]
      by_cases h1 : bt.2.1 = 0
      · rw [if_pos h1]
        by_cases h2 : (bt.1.length : Int) = (m : Int) + 1
        · rw [if_pos h2, if_pos (by omega), if_pos (by omega)]
          simp [h1, h2]
        · rw [if_neg h2, bne_iff_ne.2 h2]
          simp [h1]
      · rw [if_neg h1, bne_iff_ne.2 h1]
        simp
    · refine Ev.step (f := fun k => variorumlaw24_PassesFixed.l0 k l (it l a m) m ((List.range (m + 1)).map (it l a)) 0) (fun k => ?_) hlast
      simp [variorumlaw24_PassesFixed.j1, rd_way l a (m + 1) m (by omega)]
  · exact other rfl rfl
  · exact other rfl rfl

end Go.Proofs.Ytnfbdjlpdbacgaa.Pure

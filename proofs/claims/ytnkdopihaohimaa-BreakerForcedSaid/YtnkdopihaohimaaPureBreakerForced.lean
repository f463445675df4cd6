/- BreakerForced: each forced break is one of the breaks; with a higher tolerance demerits do not rise; and the emergency is told just where there are no breaks with the first tolerance. -/
import Derived.Test.YtnkdopihaohimaaPBrx21
import Derived.Test.YtnkdopihaohimaaBPlain
import Derived.Test.YtnkdopihaohimaaBMay
namespace Go.Proofs.Ytnkdopihaohimaa.Pure
set_option linter.unusedVariables false
set_option linter.unusedSimpArgs false
open Go.RowKit Go.Proofs.Ytnkdopihaohimaa.PBr Go.Proofs.YtnkdopihaohimaaW.PrintWords Go.Proofs.YtnkdopihaohimaaW.PrintLast Go.Proofs.YtnkdopihaohimaaW.PrintMore

theorem fixed_ev : Ev (fun k => variorumlaw11_fixed.f k) true := Ev.of variorumlaw11_fixed.mono (k := 60) (by decide +kernel)
def brk (l : List S47) (w : Int) : List Int × Bool × Int × Int := if mi l = true then (if (bv l w 200).2.2 = true then ((bv l w 200).1, false, 0, 0) else (if (bv l w 10000).2.2 = true then ((bv l w 10000).1, true, 0, 0) else (([] : List Int), false, 110, 0))) else (([] : List Int), false, 90, 0)
theorem break_ev (l : List S47) (w : Int) : Ev (fun k => breaker_Break.f k l w) (brk l w) := by
  unfold breaker_Break.f brk
  refine Ev.bind (imay_ev l) ?_
  by_cases hm : mi l = true
  · simp only [if_pos hm]
    refine Ev.bind (best_ev l w 200) ?_
    by_cases h1 : (bv l w 200).2.2 = true
    · simp only [if_pos h1]; exact Ev.now _
    · simp only [if_neg h1]
      refine Ev.bind (best_ev l w 10000) ?_
      by_cases h2 : (bv l w 10000).2.2 = true
      · simp only [if_pos h2]; exact Ev.now _
      · simp only [if_neg h2]; exact Ev.now _
  · simp only [if_neg hm]; exact Ev.now _
theorem same_loop (xs : List Int) (hl : xs.length ≤ 1000000) : ∀ (d i : Nat), i + d = xs.length → Ev (fun k => variorumref11_Ints.l0 k xs xs (i : Int)) true
  | 0, i => fun hi => by
    refine Ev.step (f := fun _ => some _) (fun k => ?_) (Ev.now _)
    simp only [variorumref11_Ints.l0]
    rw [if_neg (by omega)]
  | d + 1, i => fun hi => by
    have g1 : (i : Int) < (xs.length : Int) := by omega
    have sw : wrap64 ((i : Int) + 1) = ((i + 1 : Nat) : Int) := succ_w i (by omega)
    refine Ev.step (fun k => ?_) (same_loop xs hl d (i + 1) (by omega))
    simp only [variorumref11_Ints.l0]
    rw [if_pos g1, if_pos (show (0 : Int) ≤ (i : Int) by omega), if_pos g1, if_pos trivial, sw]
theorem same_ev (xs : List Int) (hl : xs.length ≤ 1000000) : Ev (fun k => variorumref11_Ints.f k xs xs) true := by
  unfold variorumref11_Ints.f
  simp only [if_true]
  exact same_loop xs hl xs.length 0 (by omega)
theorem forced_no (l : List S47) (xs : List Int) (c f : Int) (hc : (c == 0) = false) : Ev (fun k => variorumlaw11_BreakerForced.l0 k l xs 0 0 c f) true := by
  have j3 : Ev (fun k => variorumlaw11_BreakerForced.j3 k l xs 0 0 false c f) true := Ev.step (f := fun _ => some true) (fun k => by simp only [variorumlaw11_BreakerForced.j3]; rw [if_neg (by decide)]) (Ev.now _)
  refine Ev.step (fun k => ?_) j3
  simp only [variorumlaw11_BreakerForced.l0]
  split
  · rw [hc]
  · rfl
theorem forced_loop {l : List S47} (hm : mi l = true) (w tol f : Int) : ∀ (d i : Nat), i + d = l.length → ∀ (r : List Nat) (pre : List Int) (a c : Nat) (e : Int), tot l.length (cst l w tol) apn a c r = some e → a ≤ i → pre.length ≤ a → Ev (fun k => variorumlaw11_BreakerForced.l0 k l (pre ++ ints r) (pre.length : Int) (i : Int) 0 f) true := by
  have hl : l.length ≤ 2000 := ((mi_iff l).1 hm).1
  intro d
  induction d with
  | zero =>
    intro i hi r pre a c e ht ha hp
    refine Ev.step (f := fun k => variorumlaw11_BreakerForced.j3 k l (pre ++ ints r) (pre.length : Int) (i : Int) false 0 f) (fun k => ?_) ?_
    · simp only [variorumlaw11_BreakerForced.l0]; rw [if_neg (by omega)]
    · exact Ev.step (f := fun _ => some true) (fun k => by simp only [variorumlaw11_BreakerForced.j3]; rw [if_neg (by decide)]) (Ev.now _)
  | succ d ih =>
    intro i hi
    have inner : ∀ (r : List Nat) (pre : List Int) (a c : Nat) (e : Int), tot l.length (cst l w tol) apn a c r = some e → a ≤ i → pre.length ≤ a → Ev (fun k => variorumlaw11_BreakerForced.l1 k l (pre ++ ints r) (pre.length : Int) (i : Int) 0 f) true := by
      intro r
      induction r with
      | nil =>
        intro pre a c e ht ha hp
        simp only [tot] at ht
        by_cases q : a = l.length
        · omega
        · rw [if_neg q] at ht; cases ht
      | cons b r ihr =>
        intro pre a c e ht ha hp
        obtain ⟨x, e', hx, he, -⟩ := tot_cons ht
        have kb := (cst_in hm hx).1
        have q := mb_in kb
        have hnf : nf l (b - a) a = true := by
          unfold mb at kb
          simp only [Bool.and_eq_true] at kb
          have := kb.2.2.2.2
          rw [show ((a : Int) - 1 + 1).toNat = a by omega, Int.toNat_natCast] at this
          exact this
        have h1 : (pre.length : Int) < ((pre ++ ints (b :: r)).length : Int) := by simp [ints]; omega
        have er : rd (pre ++ ints (b :: r)) (pre.length : Int) = (b : Int) := rd_mid pre (b : Int) (ints r)
        by_cases lt : b < i
        · have sw : wrap64 ((pre.length : Int) + 1) = ((pre.length + 1 : Nat) : Int) := succ_w _ (by omega)
          have el : pre ++ ints (b :: r) = (pre ++ [(b : Int)]) ++ ints r := by simp [ints]
          have := ihr (pre ++ [(b : Int)]) (b + 1) x.2 e' he (by omega) (by rw [List.length_append, List.length_singleton]; omega)
          rw [← el, List.length_append, List.length_singleton] at this
          refine Ev.step (fun k => ?_) this
          simp only [variorumlaw11_BreakerForced.l1]
          rw [if_pos h1, if_pos (show (0 : Int) ≤ (pre.length : Int) by omega), er, if_pos (show (b : Int) < (i : Int) by omega), sw]
        · have sw : wrap64 ((i : Int) + 1) = ((i + 1 : Nat) : Int) := succ_w _ (by omega)
          have nx := ih (i + 1) (by omega) (b :: r) pre a c e ht (by omega) hp
          refine Ev.step (fun k => ?_) nx
          simp only [variorumlaw11_BreakerForced.l1]
          rw [if_pos h1, if_pos (show (0 : Int) ≤ (pre.length : Int) by omega), er, if_neg (show ¬ (b : Int) < (i : Int) by omega), if_pos (show (0 : Int) ≤ (i : Int) by omega), if_pos (show (i : Int) < (l.length : Int) by omega), rforced_f]
          simp only [Option.bind_some]
          by_cases z : fz (rd_T47 l (i : Int)) = true
          · have eb : b = i := by
              rcases Nat.lt_or_ge i b with p | p
              · rw [nf_stop l (b - a) a i ha (by omega) z] at hnf; exact absurd hnf (by decide)
              · omega
            rw [if_pos z, if_neg (show ¬ (pre.length : Int) ≥ ((pre ++ ints (b :: r)).length : Int) by omega), if_pos (show (b : Int) = (i : Int) by omega), sw]
          · rw [if_neg z, sw]
    intro r pre a c e ht ha hp
    refine Ev.step (f := fun k => variorumlaw11_BreakerForced.j3 k l (pre ++ ints r) (pre.length : Int) (i : Int) true 0 f) (fun k => ?_) ?_
    · simp only [variorumlaw11_BreakerForced.l0]; rw [if_pos (show (i : Int) < (l.length : Int) by omega)]; rfl
    · exact Ev.step (fun k => by simp only [variorumlaw11_BreakerForced.j3]; rw [if_pos trivial]) (inner r pre a c e ht ha hp)
theorem cst_more {l : List S47} {w : Int} {a b : Nat} {x : Int × Nat} (h : cst l w 200 a b = some x) : cst l w 10000 a b = some x := by
  unfold cst at h ⊢
  by_cases c : (cv l ((a : Int) - 1) (b : Int) w 200).2.2 = true
  · have k := cv_ok c
    have e : cv l ((a : Int) - 1) (b : Int) w 10000 = cv l ((a : Int) - 1) (b : Int) w 200 := by
      have hle := k.2.2.2.2
      have m1 : mn 200 10000 = 200 := rfl
      have m2 : mn 10000 10000 = 10000 := rfl
      rw [m1] at hle
      unfold cv
      rw [if_pos k.2.2.2.1, if_pos k.2.2.2.1, m1, m2, if_neg (show ¬ (lv l ((a : Int) - 1) (b : Int) w).2.2.2.1 > 10000 by omega), if_neg (show ¬ (lv l ((a : Int) - 1) (b : Int) w).2.2.2.1 > 200 by omega)]
    rw [e]; exact h
  · rw [if_neg c] at h; cases h
theorem BreakerForced : variorumlaw11_BreakerForced.Pure := by
  intro x0 x1 h0 h1
  refine Ev.rounds (g := fun k => variorumlaw11_BreakerForced.f k x0 x1) ?_
  have no : Ev (fun k => variorumlaw11_BreakerForced.j0 k x0 x1 true) true :=
    Ev.step (f := fun k => (variorumlaw11_fixed.f k).bind fun t => some t) (fun k => by simp only [variorumlaw11_BreakerForced.j0]; rw [if_pos trivial]) (Ev.bind fixed_ev (Ev.now _))
  have j1 : ∀ xs c f, Ev (fun k => variorumlaw11_BreakerForced.l0 k x0 xs 0 0 c f) true → Ev (fun k => variorumlaw11_BreakerForced.j1 k x0 xs false c f) true := fun xs c f h => Ev.step (fun k => by simp only [variorumlaw11_BreakerForced.j1]; rw [if_neg (by decide)]) h
  unfold variorumlaw11_BreakerForced.f
  refine Ev.bind fixed_ev ?_
  simp only [if_true]
  by_cases c : (x0.length : Int) > 200
  · rw [decide_eq_true c]; exact no
  · rw [decide_eq_false c]
    refine Ev.step (fun k => by simp only [variorumlaw11_BreakerForced.j0]; rw [if_neg (by decide)]) (Ev.bind (best_ev x0 x1 200) (Ev.bind (best_ev x0 x1 10000) (Ev.bind (break_ev x0 x1) ?_)))
    by_cases hm : mi x0 = true
    · cases hv : VF x0 x1 200 0 2 with
      | none =>
        have e1 : bv x0 x1 200 = ([], 0, false) := by unfold bv; rw [if_pos hm, hv]
        cases hv2 : VF x0 x1 10000 0 2 with
        | none =>
          have e2 : bv x0 x1 10000 = ([], 0, false) := by unfold bv; rw [if_pos hm, hv2]
          have e3 : brk x0 x1 = ([], false, 110, 0) := by unfold brk; rw [if_pos hm, e1, e2]; rfl
          rw [e1, e2, e3]
          simp only [Bool.false_eq_true, if_false]
          refine Ev.bind (rmay9_ev x0 (by omega)) ?_
          rw [hm]
          simp only [if_true]
          exact j1 _ _ _ (forced_no x0 _ 110 0 (by decide))
        | some v2 =>
          have e2 : bv x0 x1 10000 = (ints (told x0 x1 10000), v2.1, true) := by unfold bv; rw [if_pos hm, hv2]; rfl
          have e3 : brk x0 x1 = (ints (told x0 x1 10000), true, 0, 0) := by unfold brk; rw [if_pos hm, e1, e2]; rfl
          rw [e1, e2, e3]
          simp only [Bool.false_eq_true, if_false]
          refine Ev.bind (rmay9_ev x0 (by omega)) ?_
          rw [hm]
          simp only [if_true]
          exact j1 _ _ _ (forced_loop hm x1 10000 0 x0.length 0 (by omega) (told x0 x1 10000) [] 0 2 v2.1 (told_cost hm hv2) (Nat.le_refl _) (Nat.le_refl _))
      | some v =>
        obtain ⟨v2, hv2, hle⟩ := rises (filled hm x1 200) (filled hm x1 10000) (fun a b x hx => cst_more hx) (.inl rfl) (.inl rfl) (vf_pos hv) (by omega) hv
        have e1 : bv x0 x1 200 = (ints (told x0 x1 200), v.1, true) := by unfold bv; rw [if_pos hm, hv]; rfl
        have e2 : bv x0 x1 10000 = (ints (told x0 x1 10000), v2.1, true) := by unfold bv; rw [if_pos hm, hv2]; rfl
        have e3 : brk x0 x1 = (ints (told x0 x1 200), false, 0, 0) := by unfold brk; rw [if_pos hm, e1]; rfl
        rw [e1, e2, e3]
        simp only [if_true]
        simp only [if_neg (show ¬ v2.1 > v.1 by omega)]
        refine Ev.bind (rmay9_ev x0 (by omega)) ?_
        rw [hm]
        simp only [if_true]
        have hcost := told_cost hm hv
        have hlen : (told x0 x1 200).length ≤ x0.length := by
          have key : ∀ (r : List Nat) (a c : Nat) (e : Int), a ≤ x0.length → tot x0.length (cst x0 x1 200) apn a c r = some e → r.length + a ≤ x0.length := by
            intro r
            induction r with
            | nil => intro a c e ha _; simp; exact ha
            | cons b r ih =>
              intro a c e ha h
              obtain ⟨x, e', hx, he, -⟩ := tot_cons h
              have kb := (cst_in hm hx).1
              have q := mb_in kb
              have := ih (b + 1) x.2 e' (by omega) he
              rw [List.length_cons]; omega
          have := key _ 0 2 v.1 (Nat.zero_le _) hcost
          omega
        refine Ev.bind (same_ev _ (by simp only [ints, List.length_map]; omega)) ?_
        exact j1 _ _ _ (forced_loop hm x1 200 0 x0.length 0 (by omega) (told x0 x1 200) [] 0 2 v.1 hcost (Nat.le_refl _) (Nat.le_refl _))
    · have e1 : ∀ t, bv x0 x1 t = ([], 0, false) := fun t => by unfold bv; rw [if_neg hm]
      have e3 : brk x0 x1 = ([], false, 90, 0) := by unfold brk; rw [if_neg hm]
      rw [e1, e1, e3]
      simp only [Bool.false_eq_true, if_false]
      refine Ev.bind (rmay9_ev x0 (by omega)) ?_
      rw [Bool.eq_false_iff.mpr hm]
      simp only [Bool.false_eq_true, if_false]
      exact j1 _ _ _ (forced_no x0 _ 90 0 (by decide))

end Go.Proofs.Ytnkdopihaohimaa.Pure

/- DemeritParts: breaks that may be cost what their beginning costs, as the breaks of the items up to there, and their last line, and no more but for the classes. -/
import Derived.Test.YtagpdpcodcmgkaaPDmx9
import Derived.Test.YtagpdpcodcmgkaaDCost
namespace Go.Proofs.Ytagpdpcodcmgkaa.Pure
set_option linter.unusedVariables false
set_option linter.unusedSimpArgs false
open Go.RowKit Go.Proofs.Ytagpdpcodcmgkaa.PDm Go.Proofs.YtagpdpcodcmgkaaW.PrintWords Go.Proofs.YtagpdpcodcmgkaaW.PrintLast Go.Proofs.YtagpdpcodcmgkaaW.PrintMore

theorem wrap_add (x y : Int) : wrap64 (x + wrap64 y) = wrap64 (x + y) := by unfold wrap64; omega
theorem wrap_add3 (x y : Int) : wrap64 (x + wrap64 (y + 10000)) = wrap64 (wrap64 (x + y) + 10000) := by unfold wrap64; omega
theorem ap_two (c h : Int) : ap c h = 0 ∨ ap c h = 10000 := by
  unfold ap
  split
  · exact Or.inr rfl
  · split
    · exact Or.inr rfl
    · exact Or.inl rfl

theorem tl_runs (l : List S47) (w tol : Int) (bs : List Int) : ∀ (d i : Nat) (s a h : Int), (tl l w tol bs d i s a h).2 = true → ∀ j : Nat, i ≤ j → j < i + d → mb l (if j = i then a else rd bs ((j - 1 : Nat) : Int)) (rd bs (j : Int)) = true
  | 0, i, s, a, h => fun _ j h1 h2 => by omega
  | d + 1, i, s, a, h => fun ht j h1 h2 => by
    simp only [tl] at ht
    by_cases c : (cv l a (rd bs (i : Int)) w tol).2.2 = true
    · rw [if_pos c] at ht
      by_cases e : j = i
      · subst e; rw [if_pos rfl]; exact (cv_ok c).1
      · rw [if_neg e]
        have := tl_runs l w tol bs d (i + 1) _ _ _ ht j (by omega) (by omega)
        by_cases e2 : j = i + 1
        · subst e2; rw [if_pos rfl] at this; simpa using this
        · rw [if_neg e2] at this; exact this
    · rw [if_neg c] at ht; exact absurd ht (by decide)
theorem tl_snoc (l : List S47) (w tol : Int) (bs : List Int) : ∀ (d i : Nat) (s a h : Int), (tl l w tol bs (d + 1) i s a h).2 = true → ∃ u h', tl l w tol bs d i s a h = (u, true) ∧ (cv l (if d = 0 then a else rd bs ((i + d - 1 : Nat) : Int)) (rd bs ((i + d : Nat) : Int)) w tol).2.2 = true ∧ (tl l w tol bs (d + 1) i s a h).1 = wrap64 (u + wrap64 ((cv l (if d = 0 then a else rd bs ((i + d - 1 : Nat) : Int)) (rd bs ((i + d : Nat) : Int)) w tol).1 + ap (cv l (if d = 0 then a else rd bs ((i + d - 1 : Nat) : Int)) (rd bs ((i + d : Nat) : Int)) w tol).2.1 h'))
  | 0, i, s, a, h => fun ht => by
    simp only [tl] at ht ⊢
    by_cases c : (cv l a (rd bs (i : Int)) w tol).2.2 = true
    · exact ⟨s, h, rfl, by simpa using c, by simp [c]⟩
    · rw [if_neg c] at ht; exact absurd ht (by decide)
  | d + 1, i, s, a, h => fun ht => by
    have e1 : ∀ x, tl l w tol bs (x + 1) i s a h = if (cv l a (rd bs (i : Int)) w tol).2.2 = true then tl l w tol bs x (i + 1) (wrap64 (s + wrap64 ((cv l a (rd bs (i : Int)) w tol).1 + ap (cv l a (rd bs (i : Int)) w tol).2.1 h))) (rd bs (i : Int)) (cv l a (rd bs (i : Int)) w tol).2.1 else (0, false) := fun x => rfl
    rw [e1 (d + 1)] at ht ⊢
    rw [e1 d]
    by_cases c : (cv l a (rd bs (i : Int)) w tol).2.2 = true
    · rw [if_pos c] at ht ⊢
      rw [if_pos c]
      obtain ⟨u, h', q1, q2, q3⟩ := tl_snoc l w tol bs d (i + 1) _ _ _ ht
      have f1 : i + 1 + d = i + (d + 1) := by omega
      have f2 : (if d = 0 then rd bs (i : Int) else rd bs ((i + 1 + d - 1 : Nat) : Int)) = (if d + 1 = 0 then a else rd bs ((i + (d + 1) - 1 : Nat) : Int)) := by
        rw [if_neg (by omega : ¬ d + 1 = 0)]
        by_cases e : d = 0
        · subst e; rw [if_pos rfl]; rfl
        · rw [if_neg e, f1]
      rw [f2, f1] at q2 q3
      exact ⟨u, h', q1, q2, q3⟩
    · rw [if_neg c] at ht; exact absurd ht (by decide)
theorem tl_same (l m : List S47) (w tol : Int) (bs cs_ : List Int) : ∀ (d i : Nat) (s a h : Int), (∀ j : Nat, i ≤ j → j < i + d → rd bs (j : Int) = rd cs_ (j : Int) ∧ ∀ x, cv l x (rd bs (j : Int)) w tol = cv m x (rd bs (j : Int)) w tol) → tl l w tol bs d i s a h = tl m w tol cs_ d i s a h
  | 0, i, s, a, h => fun _ => rfl
  | d + 1, i, s, a, h => fun hs => by
    have q := hs i (Nat.le_refl _) (by omega)
    simp only [tl]
    rw [← q.1, q.2 a, tl_same l m w tol bs cs_ d (i + 1) _ _ _ (fun j h1 h2 => hs j (by omega) (by omega))]

theorem tl_no (l : List S47) (w tol : Int) (bs : List Int) : ∀ (d i : Nat) (s a h : Int), ¬ (tl l w tol bs d i s a h).2 = true → tl l w tol bs d i s a h = (0, false)
  | 0, i, s, a, h => fun ht => absurd rfl ht
  | d + 1, i, s, a, h => fun ht => by
    simp only [tl] at ht ⊢
    by_cases c : (cv l a (rd bs (i : Int)) w tol).2.2 = true
    · rw [if_pos c] at ht ⊢; exact tl_no l w tol bs d (i + 1) _ _ _ ht
    · rw [if_neg c]
theorem to_no {l : List S47} {bs : List Int} {w tol : Int} (h : ¬ (to_ l bs w tol).2 = true) : to_ l bs w tol = (0, false) := by
  unfold to_ at h ⊢
  split
  · rfl
  · split
    · rfl
    · rename_i a b
      rw [if_neg a, if_neg b] at h
      exact tl_no l w tol bs _ _ _ _ _ h
theorem rd_pre (l : List S47) (n : Nat) (i : Int) (hi : i < (n : Int)) (h0 : 0 ≤ i) : rd_T47 (l.take n) i = rd_T47 l i := by
  unfold rd_T47
  rw [List.getD_eq_getElem?_getD, List.getD_eq_getElem?_getD, List.getElem?_take_of_lt (by omega)]
theorem rd_prei (l : List Int) (n : Nat) (i : Int) (hi : i < (n : Int)) (h0 : 0 ≤ i) : rd (l.take n) i = rd l i := by
  unfold rd
  rw [List.getD_eq_getElem?_getD, List.getD_eq_getElem?_getD, List.getElem?_take_of_lt (by omega)]

theorem DemeritParts : variorumlaw10_DemeritParts.Pure := by
  intro x0 x1 x2 h0 h1 h2
  refine Ev.rounds (g := fun k => variorumlaw10_DemeritParts.f k x0 x1 x2.f0 x2.f1 x2.f2 x2.f3) ?_
  have no : Ev (fun k => variorumlaw10_DemeritParts.j0 k x0 x1 (x1.length : Int) true x2.f0 x2.f1 x2.f2 x2.f3) true :=
    Ev.step (f := fun k => (variorumlaw10_fixed.f k).bind fun t => some t) (fun k => by simp only [variorumlaw10_DemeritParts.j0]; rw [if_pos trivial]) (Ev.bind fixed_ev (Ev.now _))
  unfold variorumlaw10_DemeritParts.f
  refine Ev.bind fixed_ev ?_
  simp only [if_true]
  by_cases c1 : (x0.length : Int) > 500
  · simp only [if_pos c1]; exact no
  · simp only [if_neg c1]
    by_cases c2 : (x1.length : Int) > 50
    · simp only [if_pos c2]; exact no
    · simp only [if_neg c2]
      by_cases c3 : (x1.length : Int) < 2
      · simp only [decide_eq_true c3]; exact no
      · simp only [decide_eq_false c3]
        generalize x2.f0 = A at *
        generalize x2.f1 = B at *
        generalize x2.f2 = W at *
        generalize x2.f3 = T at *
        have g1 : 0 ≤ (x1.length : Int) - 2 := by omega
        have g2 : (x1.length : Int) - 2 < (x1.length : Int) := by omega
        have g3 : 0 ≤ (x1.length : Int) - 1 := by omega
        have g4 : (x1.length : Int) - 1 ≤ (x1.length : Int) := by omega
        have g5 : (x1.length : Int) - 1 < (x1.length : Int) := by omega
        have w2 : wrap64 ((x1.length : Int) - 2) = (x1.length : Int) - 2 := wrap_small (by omega)
        have w1 : wrap64 ((x1.length : Int) - 1) = (x1.length : Int) - 1 := wrap_small (by omega)
        by_cases ok : (to_ x0 x1 W T).2 = true
        · -- the total is told
          have hn0 : ¬ x1.length = 0 := by omega
          have hlast : rd x1 ((x1.length : Int) - 1) = (x0.length : Int) - 1 := by
            unfold to_ at ok
            rw [if_neg hn0] at ok
            by_cases c : rd x1 ((x1.length : Int) - 1) = (x0.length : Int) - 1
            · exact c
            · rw [if_pos c] at ok; exact absurd ok (by decide)
          have et : to_ x0 x1 W T = tl x0 W T x1 ((x1.length - 1) + 1) 0 0 (-1) 2 := by
            unfold to_
            rw [if_neg hn0, if_neg (not_not_intro hlast), show x1.length - 1 + 1 = x1.length by omega]
          rw [et] at ok
          obtain ⟨u, h', q1, q2, q3⟩ := tl_snoc x0 W T x1 _ 0 0 (-1) 2 ok
          rw [if_neg (by omega : ¬ x1.length - 1 = 0), show ((0 + (x1.length - 1) - 1 : Nat) : Int) = (x1.length : Int) - 2 by omega, show ((0 + (x1.length - 1) : Nat) : Int) = (x1.length : Int) - 1 by omega] at q2 q3
          have runs := tl_runs x0 W T x1 _ 0 0 (-1) 2 ok
          have rises : ∀ d j : Nat, j + d = x1.length - 2 → 0 ≤ rd x1 (j : Int) ∧ rd x1 (j : Int) ≤ rd x1 ((x1.length : Int) - 2) := by
            intro d
            induction d with
            | zero =>
              intro j hj
              have m := mb_in (runs j (by omega) (by omega))
              rw [show ((x1.length : Int) - 2) = (j : Int) by omega]
              exact ⟨m.2.2.1, Int.le_refl _⟩
            | succ d ih =>
              intro j hj
              have m := mb_in (runs j (by omega) (by omega))
              have m2 := mb_in (runs (j + 1) (by omega) (by omega))
              rw [if_neg (by omega : ¬ j + 1 = 0), show j + 1 - 1 = j by omega] at m2
              have := ih (j + 1) (by omega)
              exact ⟨m.2.2.1, by omega⟩
          have mlast := mb_in (runs (x1.length - 2) (by omega) (by omega))
          rw [show ((x1.length - 2 : Nat) : Int) = (x1.length : Int) - 2 by omega] at mlast
          have s1 : ¬ rd x1 ((x1.length : Int) - 2) < 0 := by omega
          have s2 : ¬ rd x1 ((x1.length : Int) - 2) ≥ (x0.length : Int) := by omega
          have et2 : to_ (x0.take (rd x1 ((x1.length : Int) - 2) + 1).toNat) (x1.take ((x1.length : Int) - 1).toNat) W T = (u, true) := by
            have l1 : (x1.take ((x1.length : Int) - 1).toNat).length = x1.length - 1 := by rw [List.length_take]; omega
            have l0 : (x0.take (rd x1 ((x1.length : Int) - 2) + 1).toNat).length = (rd x1 ((x1.length : Int) - 2) + 1).toNat := by rw [List.length_take]; omega
            unfold to_
            rw [l1, l0, if_neg (by omega), show ((x1.length - 1 : Nat) : Int) - 1 = (x1.length : Int) - 2 by omega, rd_prei _ _ _ (by omega) (by omega), if_neg (by omega), ← q1]
            symm
            refine tl_same _ _ W T _ _ _ _ _ _ _ (fun j j1 j2 => ⟨(rd_prei _ _ _ (by omega) (by omega)).symm, fun x => ?_⟩)
            have r := rises (x1.length - 2 - j) j (by omega)
            exact cv_same W T (fun i i0 i1 => (rd_pre x0 _ i (by omega) i0).symm) r.1 (by omega) (by rw [l0]; omega)
          have s3 : 0 ≤ rd x1 ((x1.length : Int) - 2) + 1 := by omega
          have s4 : rd x1 ((x1.length : Int) - 2) + 1 ≤ (x0.length : Int) := by omega
          have w3 : wrap64 (rd x1 ((x1.length : Int) - 2) + 1) = rd x1 ((x1.length : Int) - 2) + 1 := wrap_small (by omega)
          refine Ev.step (f := fun k => (demerit_Total.f k x0 x1 W T).bind fun t => (if t.2 = true then variorumlaw10_DemeritParts.j1 k x0 x1 (x1.length : Int) t.1 (rd x1 ((x1.length : Int) - 2)) false A B W T else some (t.1 == 0))) (fun k => ?_) ?_
          · simp only [variorumlaw10_DemeritParts.j0]
            rw [if_neg (by decide), w2]
            simp only [if_pos g1, if_pos g2, if_neg s1, decide_eq_false s2]
          · refine Ev.bind (dtotal_ev x0 x1 W T (by omega) (by omega)) ?_
            rw [et]
            simp only [if_pos ok]
            refine Ev.step (f := fun k => (demerit_Total.f k (x0.take (rd x1 ((x1.length : Int) - 2) + 1).toNat) (x1.take ((x1.length : Int) - 1).toNat) W T).bind fun t => ((demerit_Cost.f k x0 (rd x1 ((x1.length : Int) - 2)) (rd x1 ((x1.length : Int) - 1)) W T).bind fun c => (if t.2 = true then (if c.2.2 = true then (if (tl x0 W T x1 ((x1.length - 1) + 1) 0 0 (-1) 2).1 = (wrap64 (t.1 + c.1)) then (some true) else (some ((tl x0 W T x1 ((x1.length - 1) + 1) 0 0 (-1) 2).1 == (wrap64 ((wrap64 (t.1 + c.1)) + 10000))))) else none) else none))) (fun k => ?_) ?_
            · simp only [variorumlaw10_DemeritParts.j1]
              rw [if_neg (by decide), w3, if_pos s3, if_pos s4, w1, if_pos g3, if_pos g4]
              simp only [if_pos g5]
            · refine Ev.bind (dtotal_ev _ _ W T (by rw [List.length_take]; omega) (by rw [List.length_take]; omega)) (Ev.bind (cost_ev x0 _ _ W T (by omega)) ?_)
              rw [et2]
              simp only [if_true, if_pos q2]
              rw [q3]
              rcases ap_two (cv x0 (rd x1 ((x1.length : Int) - 2)) (rd x1 ((x1.length : Int) - 1)) W T).2.1 h' with e | e
              · rw [e, Int.add_zero, wrap_add, if_pos rfl]; exact Ev.now _
              · rw [e, wrap_add3]
                split
                · exact Ev.now _
                · rw [beq_self_eq_true]; exact Ev.now _
        · obtain ⟨K, hK⟩ := dtotal_ev x0 x1 W T (by omega) (by omega)
          refine ⟨K + 1, fun n hn => ?_⟩
          obtain ⟨m, rfl⟩ : ∃ m, n = m + 1 := ⟨n - 1, by omega⟩
          simp only [variorumlaw10_DemeritParts.j0]
          have hK' : demerit_Total.f m x0 x1 W T = some (to_ x0 x1 W T) := hK m (by omega)
          rw [if_neg (by decide), hK']
          simp only [Option.bind_some]
          rw [if_neg ok, to_no ok]
          rfl

end Go.Proofs.Ytagpdpcodcmgkaa.Pure

/- SetterFirst: the first lines of a paragraph are set as the whole paragraph sets them. -/
import Derived.Test.YtpfnfofaajpdmaaPKex15
import Derived.Test.YtpfnfofaajpdmaaSLine
import Derived.Test.YtpfnfofaajpdmaaSMi
namespace Go.Proofs.Ytpfnfofaajpdmaa.Pure
set_option linter.unusedVariables false
set_option linter.unusedSimpArgs false
open Go.RowKit Go.Proofs.Ytpfnfofaajpdmaa.PKe Go.Proofs.YtpfnfofaajpdmaaW.PrintWords Go.Proofs.YtpfnfofaajpdmaaW.PrintLast Go.Proofs.YtpfnfofaajpdmaaW.PrintMore

/-! ## A line hangs on its own items alone -/
theorem bl_same {l m : List S40} (w : List Int) (b : Nat) (h : ∀ i : Nat, i ≤ b → rd_T40 l (i : Int) = rd_T40 m (i : Int)) : ∀ (d i j : Nat) (X : Int), i + d ≤ b → bl l w d i j X = bl m w d i j X
  | 0, _, _, _ => fun _ => rfl
  | d + 1, i, j, X => fun hi => by
    simp only [bl]
    rw [h i (by omega), bl_same w b h d (i + 1) (j + 1) _ (by omega), bl_same w b h d (i + 1) j _ (by omega)]
theorem ln_same {l m : List S40} {a b t : Int} (h : ∀ i : Int, 0 ≤ i → i ≤ b → rd_T40 l i = rd_T40 m i) (hl : b < (l.length : Int)) (hm : b < (m.length : Int)) (c : ok l a b t = true) : ok m a b t = true ∧ ln m a b t = ln l a b t := by
  have i := mb_in (ok_in c).1
  have e1 := lv_same (a := a) t h i.2.2.1 hl hm
  have c' : ok m a b t = true := by unfold ok at c ⊢; rw [← e1]; exact c
  have e := (st_same h i.2.2.1 hl hm i.2.1).2 i.2.2.2.2
  have h' : ∀ j : Nat, j ≤ b.toNat → rd_T40 l (j : Int) = rd_T40 m (j : Int) := fun j hj => h j (by omega) (by omega)
  have e2 : gs l a b = gs m a b := by
    unfold gs gt
    rw [h b i.2.2.1 (Int.le_refl _), e, cl_same b.toNat h' (b.toNat - st m a) (st m a) (by omega)]
  have e3 : lb l a b t = lb m a b t := by
    unfold lb
    rw [e2, e, bl_same _ b.toNat h' _ _ _ _ (by omega)]
  refine ⟨c', ?_⟩
  unfold ln
  rw [if_pos c, if_pos c', e, e1, e3, h b i.2.2.1 (Int.le_refl _)]

/-! ## The first lines -/
theorem chain_last {l : List S40} {t : Int} : ∀ (r : List Int) (a : Int), chain l t r a → a ≤ lastB r a ∧ ∀ x ∈ r, x ≤ lastB r a
  | [], a => fun _ => ⟨Int.le_refl _, fun x h => by cases h⟩
  | b :: r, a => fun h => by
    have hb := mb_in (ok_in h.1).1
    have ih := chain_last r b h.2
    refine ⟨by simp only [lastB]; omega, fun x hx => ?_⟩
    rcases List.mem_cons.1 hx with rfl | hx
    · exact ih.1
    · exact ih.2 x hx
theorem chain_same {l m : List S40} {t B : Int} (h : ∀ i : Int, 0 ≤ i → i ≤ B → rd_T40 l i = rd_T40 m i) (hl : B < (l.length : Int)) (hm : B < (m.length : Int)) : ∀ (r : List Int) (a : Int), chain l t r a → (∀ x ∈ r, x ≤ B) → chain m t r a ∧ lns m t r a = lns l t r a
  | [], a => fun _ _ => ⟨trivial, rfl⟩
  | b :: r, a => fun hc hx => by
    have hb := hx b (List.mem_cons_self ..)
    have e := ln_same (m := m) (fun i h0 h1 => h i h0 (by omega)) (by omega) (by omega) hc.1
    have ih := chain_same h hl hm r b hc.2 (fun x hx' => hx x (List.mem_cons_of_mem _ hx'))
    refine ⟨⟨e.1, ih.1⟩, ?_⟩
    simp only [lns]
    rw [e.2, ih.2]
theorem take_chain {l : List S40} {t : Int} : ∀ (n : Nat) (r : List Int) (a : Int), chain l t r a → chain l t (r.take n) a ∧ lns l t (r.take n) a = (lns l t r a).take n
  | 0, r, a => fun _ => ⟨by rw [List.take_zero]; trivial, by rw [List.take_zero, List.take_zero]; rfl⟩
  | n + 1, [], a => fun _ => ⟨trivial, by rw [List.take_nil]; rfl⟩
  | n + 1, b :: r, a => fun h => by
    have ih := take_chain n r b h.2
    rw [List.take_succ_cons]
    refine ⟨⟨h.1, ih.1⟩, ?_⟩
    simp only [lns]
    rw [ih.2, List.take_succ_cons]
theorem last_take : ∀ (n : Nat) (r : List Int) (a : Int) (h : n < r.length), lastB (r.take (n + 1)) a = r[n]
  | n, [], a => fun h => by simp at h
  | 0, b :: r, a => fun h => by rw [List.take_succ_cons, List.take_zero]; rfl
  | n + 1, b :: r, a => fun h => by
    rw [List.take_succ_cons]
    exact last_take n r b (by simpa using h)

theorem lns_in {l : List S40} {t : Int} : ∀ (r : List Int) (a : Int) (i : Nat) (hi : i < r.length), -1 ≤ a → chain l t r a → ∃ a' : Int, -1 ≤ a' ∧ (i = 0 → a' = a) ∧ (∀ j (hj : j + 1 = i), a' = r[j]) ∧ ok l a' r[i] t = true ∧ (lns l t r a)[i]'(by rw [lns_len]; exact hi) = toL (ln l a' r[i] t)
  | [], a, i => fun hi _ _ => by simp at hi
  | b :: r, a, 0 => fun hi ha hc => ⟨a, ha, fun _ => rfl, fun j hj => by omega, hc.1, rfl⟩
  | b :: r, a, i + 1 => fun hi ha hc => by
    have hb := mb_in (ok_in hc.1).1
    obtain ⟨a', h1, h2, h3, h4, h5⟩ := lns_in r b i (by simpa using hi) (by omega) hc.2
    refine ⟨a', h1, fun h => by omega, fun j hj => ?_, h4, h5⟩
    cases j with
    | zero => exact h2 (by omega)
    | succ j => exact h3 j (by omega)

/-! ## Lines are the same as themselves -/
theorem placed_ev (A : List S42) (hA : A.length ≤ 2000) : Ev (fun k => variorumref12_Placed.f k A A) true := by
  unfold variorumref12_Placed.f
  simp only [if_true]
  have : ∀ (d i : Nat), i + d = A.length → Ev (fun k => variorumref12_Placed.l0 k A A (i : Int)) true := by
    intro d
    induction d with
    | zero =>
      intro i hi
      refine Ev.step (f := fun _ => some true) (fun k => ?_) (Ev.now _)
      simp only [variorumref12_Placed.l0]
      rw [if_neg (by omega)]
    | succ d ih =>
      intro i hi
      have g1 : (i : Int) < (A.length : Int) := by omega
      have g2 : (0 : Int) ≤ (i : Int) := by omega
      refine Ev.step (fun k => ?_) (ih (i + 1) (by omega))
      simp only [variorumref12_Placed.l0]
      rw [if_pos g1, if_pos g2, if_pos g1, if_neg (by simp), succ_w i (by omega)]
  exact this A.length 0 (by omega)
theorem same_ev (A : List S44) (hA : A.length ≤ 2000) (hf : ∀ x ∈ A, x.f2.length ≤ 2000) : Ev (fun k => variorumref12_Same.f k A A) true := by
  unfold variorumref12_Same.f
  simp only [if_true]
  have : ∀ (d i : Nat), i + d = A.length → Ev (fun k => variorumref12_Same.l0 k A A (i : Int)) true := by
    intro d
    induction d with
    | zero =>
      intro i hi
      refine Ev.step (f := fun _ => some true) (fun k => ?_) (Ev.now _)
      simp only [variorumref12_Same.l0]
      rw [if_neg (by omega)]
    | succ d ih =>
      intro i hi
      have hi' : i < A.length := by omega
      have g1 : (i : Int) < (A.length : Int) := by omega
      have g2 : (0 : Int) ≤ (i : Int) := by omega
      have hp := placed_ev (rd_T44 A (i : Int)).f2 (by rw [rd44 hi']; exact hf _ (List.getElem_mem hi'))
      have h := ih (i + 1) (by omega)
      refine Ev.step (f := fun k => (variorumref12_Placed.f k ((rd_T44 A (i : Int)).f2) ((rd_T44 A (i : Int)).f2)).bind fun t342 => (if t342 = true then (variorumref12_Same.l0 k A A ((i + 1 : Nat) : Int)) else (none))) (fun k => ?_) (Ev.bind hp ?_)
      · simp only [variorumref12_Same.l0]
        rw [if_pos g1, if_pos g2, if_pos g1, succ_w i (by omega)]
        simp
      · simpa using h
  exact this A.length 0 (by omega)

theorem first_yes (l : List S40) (bs : List Int) (n t : Int) : Ev (fun k => variorumlaw12_SetterFirst.j0 k l bs true n t) true := by
  refine Ev.step (f := fun k => (variorumlaw12_fixed.f k).bind fun t => some t) (fun k => ?_) (Ev.bind fixed_ev (Ev.now _))
  simp only [variorumlaw12_SetterFirst.j0]
  rfl
theorem first_no (l : List S40) (bs : List Int) (n t : Int) (hb : bs.length ≤ 100) (h1 : 1 ≤ n) (h2 : n ≤ (bs.length : Int)) : Ev (fun k => variorumlaw12_SetterFirst.j0 k l bs false n t) true := by
  refine Ev.step (f := fun k => (setter_Lines.f k l bs t).bind fun bt346 => (if bt346.2.1 = 0 then (variorumlaw12_SetterFirst.j1 k l bs bt346.1 ((bt346.1.length : Int) != (bs.length : Int)) n t bt346.2.1 bt346.2.2) else (variorumlaw12_SetterFirst.j1 k l bs bt346.1 true n t bt346.2.1 bt346.2.2))) (fun k => ?_) (Ev.bind (lines_ev l bs t (by omega)) ?_)
  · simp only [variorumlaw12_SetterFirst.j0]
    rw [if_neg (by decide)]
  · rcases lines_cases l bs t with ⟨q1, q2⟩ | ⟨hm, hc, e, hn, hlast⟩
    · simp only [if_neg q1]
      refine Ev.step (f := fun _ => some ((lines l bs t).2.1 != 0)) (fun k => ?_) ?_
      · simp only [variorumlaw12_SetterFirst.j1]
        rfl
      · rw [bne_iff_ne.2 q1]; exact Ev.now _
    · have hl := mi_len hm
      obtain ⟨m, rfl⟩ : ∃ m : Nat, n = ((m + 1 : Nat) : Int) := ⟨(n - 1).toNat, by omega⟩
      have hmb : m < bs.length := by omega
      have g2 : (((lns l t bs (-1)).length : Int) != (bs.length : Int)) = false := by rw [lns_len]; simp
      obtain ⟨a, _, _, _, h3, _⟩ := lns_in bs (-1) m hmb (by omega) hc
      have hB := mb_in (ok_in h3).1
      have w1 : wrap64 (((m + 1 : Nat) : Int) - 1) = (m : Int) := by rw [wrap_small (by omega)]; omega
      have r1 : rd bs (m : Int) = bs[m] := rdi hmb
      generalize hBe : bs[m] = B at *
      have w2 : wrap64 (B + 1) = B + 1 := wrap_small (by omega)
      rw [e]
      simp only [if_true, g2]
      refine Ev.step (f := fun k => variorumlaw12_SetterFirst.j2 k l bs (lns l t bs (-1)) B false ((m + 1 : Nat) : Int) t) (fun k => ?_) ?_
      · simp only [variorumlaw12_SetterFirst.j1]
        rw [if_neg (by decide), w1, if_pos (by omega), if_pos (by omega), r1, if_neg (by omega), decide_eq_false (by omega)]
      · have hmi : mi (l.take (B + 1).toNat) = true := (mi_app (a := l.take (B + 1).toNat) (b := l.drop (B + 1).toNat) (by rw [List.take_append_drop]; exact hm)).1
        have hlen : (l.take (B + 1).toNat).length = (B + 1).toNat := by rw [List.length_take]; omega
        have hsame : ∀ i : Int, 0 ≤ i → i ≤ B → rd_T40 l i = rd_T40 (l.take (B + 1).toNat) i := by
          intro i i0 i1
          obtain ⟨i, rfl⟩ : ∃ j : Nat, i = j := ⟨i.toNat, by omega⟩
          rw [rd40 (by omega), rd40 (by omega), List.getElem_take]
        have tc := take_chain (m + 1) bs (-1) hc
        have lt := last_take m bs (-1) hmb
        rw [hBe] at lt
        have cb := (chain_last _ _ tc.1).2
        rw [lt] at cb
        have cs := chain_same (m := l.take (B + 1).toNat) hsame (by omega) (by omega) _ _ tc.1 cb
        have htl : (bs.take (m + 1)).length = m + 1 := by rw [List.length_take]; omega
        have hnew : lines (l.take (B + 1).toNat) (bs.take (m + 1)) t = ((lns l t bs (-1)).take (m + 1), 0, 0) := by
          unfold lines
          rw [if_pos hmi, fn_yes _ t _ (by omega) _ 0 (-1) [] cs.1 (by rw [lt, hlen]; omega), List.nil_append, cs.2, tc.2]
        have hll := lns_len l t bs (-1)
        have tn : ((m + 1 : Nat) : Int).toNat = m + 1 := by omega
        refine Ev.step (f := fun k => (setter_Lines.f k (l.take (B + 1).toNat) (bs.take (m + 1)) t).bind fun bt358 => (if bt358.2.1 = 0 then (if ((m + 1 : Nat) : Int) ≤ ((lns l t bs (-1)).length : Int) then ((variorumref12_Same.f k bt358.1 ((lns l t bs (-1)).take (m + 1))).bind fun t368 => (some t368)) else (none)) else (none))) (fun k => ?_) (Ev.bind (lines_ev _ _ t (by omega)) ?_)
        · simp only [variorumlaw12_SetterFirst.j2]
          rw [if_neg (by decide), w2, if_pos (by omega), if_pos (by omega), if_pos (by omega), if_pos h2, tn]
        · rw [hnew]
          have g : ((m + 1 : Nat) : Int) ≤ ((lns l t bs (-1)).length : Int) := by omega
          simp only [if_true, if_pos g]
          exact Ev.bind (same_ev _ (by rw [List.length_take]; omega) (fun x hx => lns_boxes l t hl bs (-1) x (List.mem_of_mem_take hx))) (Ev.now _)

theorem SetterFirst : variorumlaw12_SetterFirst.Pure := by
  intro l bs x _ _ _
  refine Ev.rounds (g := fun k => variorumlaw12_SetterFirst.f k l bs x.f0 x.f1) ?_
  generalize x.f0 = n
  generalize x.f1 = t
  unfold variorumlaw12_SetterFirst.f
  refine Ev.bind fixed_ev ?_
  simp only [if_true]
  by_cases c : (l.length : Int) > 300
  · simp only [if_pos c]; exact first_yes l bs n t
  · simp only [if_neg c]
    by_cases c2 : (bs.length : Int) > 100
    · simp only [if_pos c2]; exact first_yes l bs n t
    · simp only [if_neg c2]
      by_cases c3 : n < 1
      · simp only [if_pos c3]; exact first_yes l bs n t
      · simp only [if_neg c3]
        by_cases c4 : n > (bs.length : Int)
        · rw [decide_eq_true c4]; exact first_yes l bs n t
        · rw [decide_eq_false c4]; exact first_no l bs n t (by omega) (by omega) (by omega)

end Go.Proofs.Ytpfnfofaajpdmaa.Pure

/- LinenoSkips: rows that are left out change nothing of the other ones' numbers, if all are of one unit. For every input. -/
import Derived.Test.YtbpomibholcpfaaPAllx11
import Derived.Test.YtbpomibholcpfaaPLib
namespace Go.Proofs.Ytbpomibholcpfaa.Pure
set_option linter.unusedVariables false
set_option linter.unusedSimpArgs false
open Go.RowKit Go.Proofs.Ytbpomibholcpfaa.PAll Go.Proofs.YtbpomibholcpfaaW.PrintWords Go.Proofs.YtbpomibholcpfaaW.PrintLast Go.Proofs.YtbpomibholcpfaaW.PrintMore

def keepRows (l : List S29) : List S29 := l.filter fun r => !r.f5
/-- The numbers of the rows that are not left out. -/
def keepNums : List S29 → List S31 → List S31
  | r :: l, n :: ns => if r.f5 = true then keepNums l ns else n :: keepNums l ns
  | _, _ => []
theorem keepNums_cons (r : S29) (l : List S29) (n : S31) (ns : List S31) : keepNums (r :: l) (n :: ns) = if r.f5 = true then keepNums l ns else n :: keepNums l ns := rfl
theorem keepNums_snoc (l : List S29) : ∀ (ns : List S31) (r : S29) (n : S31), l.length = ns.length → keepNums (l ++ [r]) (ns ++ [n]) = keepNums l ns ++ (if r.f5 = true then [] else [n]) := by
  induction l with
  | nil =>
    intro ns r n h
    have : ns = [] := List.eq_nil_of_length_eq_zero (by simpa using h.symm)
    subst this
    rw [List.nil_append, List.nil_append, keepNums_cons]
    rfl
  | cons a l ih =>
    intro ns r n h
    match ns, h with
    | b :: ns, h =>
      rw [List.cons_append, List.cons_append, keepNums_cons, keepNums_cons, ih ns r n (by simpa using h)]
      split
      · rfl
      · rfl
theorem keepNums_le : ∀ (l : List S29) (ns : List S31), (keepNums l ns).length ≤ l.length
  | [], [] => by simp [keepNums]
  | [], _ :: _ => by simp [keepNums]
  | _ :: _, [] => by simp [keepNums]
  | a :: l, b :: ns => by
    have := keepNums_le l ns
    simp only [keepNums]
    split <;> simp <;> omega

theorem one_unit (by_ : Int) (u : Unit3) (l : List S29) (hu : ∀ r ∈ l, unit by_ r = u) : ∀ (p q : Option Unit3) (n : S31), (p = none ∨ p = some u) → (q = none ∨ q = some u) →
    nums by_ p n (keepRows l) = keepNums l (nums by_ q n l) := by
  induction l with
  | nil => intros; rfl
  | cons r l ih =>
    intro p q n hp hq
    have hr : unit by_ r = u := hu r List.mem_cons_self
    have ih := ih (fun x hx => hu x (List.mem_cons_of_mem _ hx))
    have hs : ∀ p, (p = none ∨ p = some u) → startN by_ p n r = n := by
      intro p hp
      unfold startN
      rw [if_neg]
      rintro ⟨h1, h2⟩
      rcases hp with rfl | rfl
      · exact h1 rfl
      · exact h2 (by rw [hr])
    by_cases h5 : r.f5 = true
    · have e1 : keepRows (r :: l) = keepRows l := by simp [keepRows, h5]
      rw [e1]
      simp only [nums, if_pos h5, keepNums]
      rw [hs q hq]
      exact ih p (some (unit by_ r)) n hp (.inr (by rw [hr]))
    · have e1 : keepRows (r :: l) = r :: keepRows l := by simp [keepRows, h5]
      rw [e1]
      simp only [nums, if_neg h5, keepNums]
      rw [hs q hq, hs p hp]
      rw [ih (some (unit by_ r)) (some (unit by_ r)) _ (.inr (by rw [hr])) (.inr (by rw [hr]))]

theorem skips_step (by_ : Int) (l : List S29) (hl : (l.length : Int) * 40 ≤ 140737488351232) (d : Nat) : ∀ (i : Nat), i + d = l.length → (∀ r ∈ l.take i, unit by_ r = unit by_ (rd_T29 l 0)) →
    Ev (fun k => variorumlaw16_LinenoSkips.l0 k l by_ (number by_ l) (keepRows (l.take i)) (keepNums (l.take i) ((number by_ l).take i)) i) true := by
  have hlen : (number by_ l).length = l.length := nums_length by_ l none ⟨0, 0⟩
  induction d with
  | zero =>
    intro i hi hu
    have ht : l.take i = l := List.take_of_length_le (by omega)
    have hk : (keepRows l).length ≤ l.length := List.length_filter_le _ _
    rw [ht] at hu ⊢
    have ht2 : (number by_ l).take i = number by_ l := List.take_of_length_le (by omega)
    rw [ht2]
    have e := one_unit by_ _ l hu none none ⟨0, 0⟩ (.inl rfl) (.inl rfl)
    refine Ev.step (f := fun k => (lineno_Number.f k (keepRows l) by_).bind fun t272 => ((variorumref16_Nums.f k t272 (keepNums l (number by_ l))).bind fun t275 => (some t275))) (fun k => ?_) (Ev.bind (number_ev by_ (keepRows l) (by omega)) ?_)
    · simp only [variorumlaw16_LinenoSkips.l0]
      rw [if_neg (by omega)]
    · have e2 : number by_ (keepRows l) = keepNums l (number by_ l) := e
      have hl2 := keepNums_le l (number by_ l)
      rw [e2]
      exact Ev.bind (nums_same _ (by omega)) (Ev.now true)
  | succ d ih =>
    intro i hi hu
    have hi' : i < l.length := by omega
    have hr : rd_T29 l (i : Int) = l[i] := by
      unfold rd_T29
      rw [Int.toNat_natCast, List.getD_eq_getElem?_getD, List.getElem?_eq_getElem hi']
      rfl
    generalize hrr : rd_T29 l (i : Int) = r at hr
    have htk : l.take (i + 1) = l.take i ++ [r] := by rw [List.take_succ_eq_append_getElem hi', hr]
    have htk2 : (number by_ l).take (i + 1) = (number by_ l).take i ++ [(number by_ l)[i]] := List.take_succ_eq_append_getElem (by omega)
    have hrd : rd_T31 (number by_ l) (i : Int) = (number by_ l)[i] := rd31 _ _ (by omega)
    by_cases hun : unit by_ r = unit by_ (rd_T29 l 0)
    · have h := ih (i + 1) (by omega) (by
        rw [htk]
        intro x hx
        rcases List.mem_append.1 hx with hx | hx
        · exact hu x hx
        · rw [List.mem_singleton.1 hx]; exact hun)
      rw [htk, htk2, keepNums_snoc _ _ _ _ (by simp; omega)] at h
      refine Ev.step (f := fun k => variorumlaw16_LinenoSkips.l0 k l by_ (number by_ l) (keepRows (l.take i ++ [r])) (keepNums (l.take i) ((number by_ l).take i) ++ if r.f5 = true then [] else [(number by_ l)[i]]) ((i + 1 : Nat) : Int)) (fun k => ?_) h
      have hk1 : (keepRows (l.take i)).length ≤ i := Nat.le_trans (List.length_filter_le _ _) (List.length_take_le _ _)
      have hk2 : (keepNums (l.take i) ((number by_ l).take i)).length ≤ i := Nat.le_trans (keepNums_le _ _) (List.length_take_le _ _)
      simp only [variorumlaw16_LinenoSkips.l0]
      rw [if_pos (by omega), if_pos (by omega), hrr, unit_f]
      simp only [Option.bind_some]
      rw [if_pos (by omega), unit_f]
      simp only [Option.bind_some]
      rw [hun, if_neg (by simp)]
      by_cases h5 : r.f5 = true
      · rw [if_pos h5, if_pos h5, wrap_small (by omega), List.append_nil]
        have e1 : keepRows (l.take i ++ [r]) = keepRows (l.take i) := by simp [keepRows, h5]
        rw [e1]
        rfl
      · rw [if_neg h5, if_neg h5, if_pos (by omega), if_pos (by omega), if_pos (by omega), wrap_small (by omega), hrd]
        have e1 : keepRows (l.take i ++ [r]) = keepRows (l.take i) ++ [r] := by simp [keepRows, h5]
        rw [e1]
        rfl
    · refine Ev.step (f := fun _ => some true) (fun k => ?_) (Ev.now true)
      simp only [variorumlaw16_LinenoSkips.l0]
      rw [if_pos (by omega), if_pos (by omega), hrr, unit_f]
      simp only [Option.bind_some]
      rw [if_pos (by omega), unit_f]
      simp only [Option.bind_some]
      rw [if_pos]
      generalize unit by_ r = a at hun
      generalize unit by_ (rd_T29 l 0) = b at hun
      obtain ⟨a1, a2, a3⟩ := a
      obtain ⟨b1, b2, b3⟩ := b
      by_cases x1 : a1 = b1
      · by_cases x2 : a2 = b2
        · have x3 : a3 ≠ b3 := fun x3 => hun (by rw [x1, x2, x3])
          simp [x3]
        · simp [x2]
      · simp [x1]

theorem LinenoSkips : variorumlaw16_LinenoSkips.Pure := by
  intro l by_ hl _
  have hl1 : (l.length : Int) * 40 ≤ 140737488351232 := by have := hl.1; omega
  have hlen : (number by_ l).length = l.length := nums_length by_ l none ⟨0, 0⟩
  refine Ev.rounds (g := fun k => variorumlaw16_LinenoSkips.f k l by_) ?_
  unfold variorumlaw16_LinenoSkips.f
  refine Ev.bind (number_ev by_ l hl1) (Ev.bind fixed_ev ?_)
  simp only [if_true]
  have h := skips_step by_ l hl1 l.length 0 (by omega) (by simp)
  refine Ev.step (f := fun k => variorumlaw16_LinenoSkips.l0 k l by_ (number by_ l) [] [] 0) (fun k => ?_) ?_
  · rw [hlen]
    simp [variorumlaw16_LinenoSkips.j0]
  · exact h

end Go.Proofs.Ytbpomibholcpfaa.Pure

/- LinenoUnits: numbers hang on one's own unit alone: rows that are cut where a unit begins are numbered, each part by itself, as they were; a plain row behind a plain one of its unit has the next number. For every input. -/
import Derived.Test.YtbpomibholcpfaaPAllx8
import Derived.Test.YtbpomibholcpfaaPLib
namespace Go.Proofs.Ytbpomibholcpfaa.Pure
set_option linter.unusedVariables false
set_option linter.unusedSimpArgs false
open Go.RowKit Go.Proofs.Ytbpomibholcpfaa.PAll Go.Proofs.YtbpomibholcpfaaW.PrintWords Go.Proofs.YtbpomibholcpfaaW.PrintLast Go.Proofs.YtbpomibholcpfaaW.PrintMore

theorem rd29 (a : List S29) (i : Nat) (h : i < a.length) : rd_T29 a i = a[i] := by
  unfold rd_T29
  rw [Int.toNat_natCast, List.getD_eq_getElem?_getD, List.getElem?_eq_getElem h]
  rfl

/-- The state behind rows. -/
def behind (by_ : Int) : Option Unit3 → S31 → List S29 → Option Unit3 × S31
  | p, n, [] => (p, n)
  | p, n, r :: rest => if r.f5 = true then behind by_ (some (unit by_ r)) (startN by_ p n r) rest else behind by_ (some (unit by_ r)) (nextN (startN by_ p n r) r) rest
theorem nums_split (by_ : Int) (a b : List S29) : ∀ p n, nums by_ p n (a ++ b) = nums by_ p n a ++ nums by_ (behind by_ p n a).1 (behind by_ p n a).2 b := by
  induction a with
  | nil => intros; rfl
  | cons r a ih =>
    intro p n
    simp only [List.cons_append, nums, behind]
    split
    · rw [ih]; rfl
    · rw [ih]; rfl
theorem behind_split (by_ : Int) (a b : List S29) : ∀ p n, behind by_ p n (a ++ b) = behind by_ (behind by_ p n a).1 (behind by_ p n a).2 b := by
  induction a with
  | nil => intros; rfl
  | cons r a ih =>
    intro p n
    simp only [List.cons_append, behind]
    split <;> exact ih _ _
theorem behind_unit (by_ : Int) (l : List S29) (i : Nat) (h0 : 0 < i) (hi : i ≤ l.length) : (behind by_ none ⟨0, 0⟩ (l.take i)).1 = some (unit by_ (rd_T29 l ((i - 1 : Nat) : Int))) := by
  have hi' : i - 1 < l.length := by omega
  have e : l.take i = l.take (i - 1) ++ [l[i - 1]] := by
    have := List.take_succ_eq_append_getElem hi'
    rw [Nat.sub_add_cancel (by omega)] at this
    exact this
  rw [e, behind_split, rd29 l (i - 1) hi']
  simp only [behind]
  split <;> rfl

/-- A part that begins where a unit begins is numbered by itself. -/
theorem part_number (by_ : Int) (l : List S29) (from_ to_ : Nat) (h1 : from_ ≤ to_) (h2 : to_ ≤ l.length) (hb : from_ = 0 ∨ from_ = l.length ∨ unit by_ (rd_T29 l from_) ≠ unit by_ (rd_T29 l ((from_ - 1 : Nat) : Int))) :
    number by_ ((l.take to_).drop from_) = ((number by_ l).take to_).drop from_ := by
  have hall : l = l.take from_ ++ ((l.take to_).drop from_ ++ l.drop to_) := by
    have e1 : l.take from_ = (l.take to_).take from_ := by rw [List.take_take, Nat.min_eq_left h1]
    rw [← List.append_assoc, e1, List.take_append_drop, List.take_append_drop]
  have hnum : number by_ l = nums by_ none ⟨0, 0⟩ (l.take from_) ++ (nums by_ (behind by_ none ⟨0, 0⟩ (l.take from_)).1 (behind by_ none ⟨0, 0⟩ (l.take from_)).2 ((l.take to_).drop from_) ++ nums by_ (behind by_ (behind by_ none ⟨0, 0⟩ (l.take from_)).1 (behind by_ none ⟨0, 0⟩ (l.take from_)).2 ((l.take to_).drop from_)).1 (behind by_ (behind by_ none ⟨0, 0⟩ (l.take from_)).1 (behind by_ none ⟨0, 0⟩ (l.take from_)).2 ((l.take to_).drop from_)).2 (l.drop to_)) := by
    unfold number
    conv => lhs; rw [hall]
    rw [nums_split, nums_split]
  have hl1 : (nums by_ none ⟨0, 0⟩ (l.take from_)).length = from_ := by rw [nums_length, List.length_take]; omega
  have hl2 : (nums by_ (behind by_ none ⟨0, 0⟩ (l.take from_)).1 (behind by_ none ⟨0, 0⟩ (l.take from_)).2 ((l.take to_).drop from_)).length = to_ - from_ := by rw [nums_length, List.length_drop, List.length_take]; omega
  have hcut : ((number by_ l).take to_).drop from_ = nums by_ (behind by_ none ⟨0, 0⟩ (l.take from_)).1 (behind by_ none ⟨0, 0⟩ (l.take from_)).2 ((l.take to_).drop from_) := by
    rw [hnum]
    generalize nums by_ none ⟨0, 0⟩ (l.take from_) = A at hl1 ⊢
    generalize nums by_ (behind by_ none ⟨0, 0⟩ (l.take from_)).1 (behind by_ none ⟨0, 0⟩ (l.take from_)).2 ((l.take to_).drop from_) = M at hl2 ⊢
    rw [← List.append_assoc, List.take_left' (by rw [List.length_append]; omega), List.drop_left' hl1]
  rw [hcut]
  unfold number
  by_cases h0 : from_ = 0
  · subst h0; rfl
  · by_cases he : (l.take to_).drop from_ = []
    · rw [he]; rfl
    · have hlt : from_ < to_ := by
        rcases Nat.lt_or_ge from_ to_ with h | h
        · exact h
        · exact absurd (List.drop_of_length_le (by rw [List.length_take]; omega)) he
      have hd : (l.take to_).drop from_ = rd_T29 l from_ :: (l.take to_).drop (from_ + 1) := by
        rw [List.drop_eq_getElem_cons (by rw [List.length_take]; omega), rd29 l from_ (by omega)]
        simp
      have hu := behind_unit by_ l from_ (by omega) (by omega)
      rw [hd]
      simp only [nums]
      have e1 : startN by_ none ⟨0, 0⟩ (rd_T29 l from_) = ⟨0, 0⟩ := by unfold startN; rw [if_neg (by simp)]
      have e2 : startN by_ (behind by_ none ⟨0, 0⟩ (l.take from_)).1 (behind by_ none ⟨0, 0⟩ (l.take from_)).2 (rd_T29 l from_) = ⟨0, 0⟩ := by
        unfold startN
        rw [hu, if_pos]
        refine ⟨by simp, fun h => ?_⟩
        rcases hb with hb | hb | hb
        · exact h0 hb
        · omega
        · exact hb (Option.some.inj h).symm
      rw [e1, e2]

/-- A plain row behind one of its unit that is not left out. -/
theorem next_plain (by_ : Int) (l : List S29) (i : Nat) (h0 : 0 < i) (hi : i < l.length) (hu : unit by_ (rd_T29 l i) = unit by_ (rd_T29 l ((i - 1 : Nat) : Int)))
    (p5 : (rd_T29 l i).f5 = false) (p4 : (rd_T29 l i).f4 = false) (p6 : (rd_T29 l i).f6 = false) (p3 : (rd_T29 l i).f3 < 1) (q5 : (rd_T29 l ((i - 1 : Nat) : Int)).f5 = false) :
    rd_T31 (number by_ l) i = ⟨wrap64 ((rd_T31 (number by_ l) ((i - 1 : Nat) : Int)).f0 + 1), 0⟩ := by
  have hi' : i - 1 < l.length := by omega
  have hall : l = l.take (i - 1) ++ (rd_T29 l ((i - 1 : Nat) : Int) :: rd_T29 l i :: l.drop (i + 1)) := by
    have e1 := List.drop_eq_getElem_cons hi'
    have e2 := List.drop_eq_getElem_cons hi
    rw [Nat.sub_add_cancel (by omega), e2] at e1
    rw [rd29 l (i - 1) hi', rd29 l i hi, ← e1, List.take_append_drop]
  have hlen : (number by_ l).length = l.length := nums_length by_ l none ⟨0, 0⟩
  generalize rd_T29 l i = r at *
  generalize rd_T29 l ((i - 1 : Nat) : Int) = s at *
  have hnum : number by_ l = nums by_ none ⟨0, 0⟩ (l.take (i - 1)) ++ nums by_ (behind by_ none ⟨0, 0⟩ (l.take (i - 1))).1 (behind by_ none ⟨0, 0⟩ (l.take (i - 1))).2 (s :: r :: l.drop (i + 1)) := by
    unfold number
    conv => lhs; rw [hall]
    rw [nums_split]
  have hl1 : (nums by_ none ⟨0, 0⟩ (l.take (i - 1))).length = i - 1 := by rw [nums_length, List.length_take]; omega
  generalize nums by_ none ⟨0, 0⟩ (l.take (i - 1)) = A at hnum hl1
  generalize (behind by_ none ⟨0, 0⟩ (l.take (i - 1))) = B at hnum
  simp only [nums, q5, p5, Bool.false_eq_true, if_false] at hnum
  generalize hm : nextN (startN by_ B.1 B.2 s) s = m at hnum
  have hst : startN by_ (some (unit by_ s)) m r = m := by
    unfold startN
    rw [if_neg]
    rintro ⟨_, h⟩
    exact h (by rw [hu])
  have hnx : nextN m r = ⟨wrap64 (m.f0 + 1), 0⟩ := by
    unfold nextN
    rw [if_neg (by omega), if_neg (by simp [p6]), if_neg (by simp [p4])]
  rw [hst, hnx] at hnum
  have g1 : rd_T31 (number by_ l) ((i - 1 : Nat) : Int) = m := by
    rw [rd31 _ _ (by omega)]
    have : (number by_ l)[i - 1]? = some m := by
      rw [hnum, List.getElem?_append_right (by omega), hl1, Nat.sub_self]
      rfl
    rw [List.getElem?_eq_getElem (by omega)] at this
    exact Option.some.inj this
  have g2 : rd_T31 (number by_ l) (i : Int) = ⟨wrap64 (m.f0 + 1), 0⟩ := by
    rw [rd31 _ _ (by omega)]
    have : (number by_ l)[i]? = some ⟨wrap64 (m.f0 + 1), 0⟩ := by
      rw [hnum, List.getElem?_append_right (by omega), hl1, show i - (i - 1) = 1 by omega]
      rfl
    rw [List.getElem?_eq_getElem (by omega)] at this
    exact Option.some.inj this
  rw [g1, g2]

theorem units_step (by_ : Int) (l : List S29) (hl : (l.length : Int) * 40 ≤ 140737488351232) (d : Nat) : ∀ (i from_ : Nat), i + d = l.length + 1 → from_ < i → (from_ = 0 ∨ from_ = l.length ∨ unit by_ (rd_T29 l from_) ≠ unit by_ (rd_T29 l ((from_ - 1 : Nat) : Int))) →
    Ev (fun k => variorumlaw16_LinenoUnits.l0 k l by_ (number by_ l) from_ i) true := by
  have hlen : (number by_ l).length = l.length := nums_length by_ l none ⟨0, 0⟩
  induction d with
  | zero =>
    intro i from_ hi _ _
    refine Ev.step (f := fun _ => some true) (fun k => ?_) (Ev.now true)
    simp only [variorumlaw16_LinenoUnits.l0]
    rw [if_neg (by omega)]
  | succ d ih =>
    intro i from_ hi hf hb
    have hgo : Ev (fun k => variorumlaw16_LinenoUnits.l0 k l by_ (number by_ l) from_ (wrap64 ((i : Int) + 1))) true := by
      have h := ih (i + 1) from_ (by omega) (by omega) hb
      rw [wrap_small (by omega)]
      exact h
    have hcut : (i = l.length ∨ unit by_ (rd_T29 l i) ≠ unit by_ (rd_T29 l ((i - 1 : Nat) : Int))) → Ev (fun k => variorumlaw16_LinenoUnits.j2 k l by_ (number by_ l) from_ i false) true := by
      intro hc
      have hp := part_number by_ l from_ i (by omega) (by omega) hb
      have h := ih (i + 1) i (by omega) (by omega) (by rcases hc with h | h; exact .inr (.inl h); exact .inr (.inr h))
      have hpl : (((l.take i).drop from_).length : Int) * 40 ≤ 140737488351232 := by
        have : ((l.take i).drop from_).length ≤ l.length := by rw [List.length_drop, List.length_take]; omega
        omega
      refine Ev.step (f := fun k => (lineno_Number.f k ((l.take i).drop from_) by_).bind fun t186 => ((variorumref16_Nums.f k t186 (((number by_ l).take i).drop from_)).bind fun t193 => (if t193 = true then (variorumlaw16_LinenoUnits.l0 k l by_ (number by_ l) i (wrap64 ((i : Int) + 1))) else (some false)))) (fun k => ?_) (Ev.bind (number_ev by_ _ hpl) ?_)
      · simp only [variorumlaw16_LinenoUnits.j2]
        rw [if_neg (by decide), if_pos (by omega), if_pos (by omega), if_pos (by omega), hlen]
        simp only [if_pos (show (i : Int) ≤ (l.length : Int) by omega), Int.toNat_natCast]
      · rw [hp]
        refine Ev.bind (nums_same _ (by rw [← hp, show number by_ ((l.take i).drop from_) = nums by_ none ⟨0, 0⟩ ((l.take i).drop from_) from rfl, nums_length]; omega)) ?_
        simp only [if_true]
        rw [wrap_small (by omega)]
        exact h
    by_cases hil : i < l.length
    · have e1 : wrap64 ((i : Int) - 1) = ((i - 1 : Nat) : Int) := by rw [wrap_small (by omega)]; omega
      generalize hr : rd_T29 l (i : Int) = r
      generalize hs : rd_T29 l ((i - 1 : Nat) : Int) = s
      refine Ev.step (f := fun k => variorumlaw16_LinenoUnits.j2 k l by_ (number by_ l) from_ i (decide (unit by_ r = unit by_ s))) (fun k => ?_) ?_
      · simp only [variorumlaw16_LinenoUnits.l0]
        rw [if_pos (by omega), if_pos (by omega), if_pos (by omega), hr, unit_f]
        simp only [Option.bind_some]
        rw [e1, if_pos (by omega), if_pos (by omega), hs, unit_f]
        simp only [Option.bind_some]
        congr 1
        generalize unit by_ r = u
        generalize unit by_ s = v
        obtain ⟨u1, u2, u3⟩ := u
        obtain ⟨v1, v2, v3⟩ := v
        rw [Bool.eq_iff_iff]
        simp [Prod.ext_iff]
      · by_cases hu : unit by_ r = unit by_ s
        · rw [decide_eq_true hu]
          have j4 : Ev (fun k => variorumlaw16_LinenoUnits.j4 k l by_ (number by_ l) from_ i false) true := by
            refine Ev.step (f := fun k => variorumlaw16_LinenoUnits.l0 k l by_ (number by_ l) from_ (wrap64 ((i : Int) + 1))) (fun k => ?_) hgo
            simp [variorumlaw16_LinenoUnits.j4]
          have j3f : Ev (fun k => variorumlaw16_LinenoUnits.j3 k l by_ (number by_ l) from_ i false) true := by
            refine Ev.step (f := fun k => variorumlaw16_LinenoUnits.j4 k l by_ (number by_ l) from_ i false) (fun k => ?_) j4
            simp [variorumlaw16_LinenoUnits.j3]
          have hj : ∀ b : Bool, (b = true → r.f5 = false ∧ r.f4 = false ∧ r.f6 = false ∧ r.f3 < 1) → Ev (fun k => variorumlaw16_LinenoUnits.j3 k l by_ (number by_ l) from_ i b) true := by
            intro b hb2
            cases b with
            | false => exact j3f
            | true =>
              obtain ⟨p5, p4, p6, p3⟩ := hb2 rfl
              refine Ev.step (f := fun k => variorumlaw16_LinenoUnits.j4 k l by_ (number by_ l) from_ i false) (fun k => ?_) j4
              simp only [variorumlaw16_LinenoUnits.j3]
              rw [if_pos trivial, e1, if_pos (by omega), if_pos (by omega), hs]
              by_cases q5 : s.f5 = true
              · rw [if_pos q5]
              · have hn := next_plain by_ l i (by omega) hil (by rw [hr, hs]; exact hu) (by rw [hr]; exact p5) (by rw [hr]; exact p4) (by rw [hr]; exact p6) (by rw [hr]; exact p3) (by rw [hs]; simpa using q5)
                rw [if_neg q5, if_pos (by omega), hlen, if_pos (by omega), if_pos (by omega), hn]
                dsimp only
                rw [if_pos rfl]
                rfl
          refine Ev.step (f := fun k => variorumlaw16_LinenoUnits.j3 k l by_ (number by_ l) from_ i (!r.f5 && (!r.f4 && (!r.f6 && decide (r.f3 < 1))))) (fun k => ?_) (hj _ (by
            intro h
            simp only [Bool.and_eq_true, Bool.not_eq_true', decide_eq_true_eq] at h
            exact h))
          simp only [variorumlaw16_LinenoUnits.j2]
          rw [if_pos trivial, if_pos (by omega), if_pos (by omega), hr]
          cases r.f5 <;> cases r.f4 <;> cases r.f6 <;> simp
        · rw [decide_eq_false hu]
          exact hcut (.inr (by rw [hr, hs]; exact hu))
    · refine Ev.step (f := fun k => variorumlaw16_LinenoUnits.j2 k l by_ (number by_ l) from_ i false) (fun k => ?_) (hcut (.inl (by omega)))
      simp only [variorumlaw16_LinenoUnits.l0]
      rw [if_pos (by omega), if_neg (by omega)]

theorem LinenoUnits : variorumlaw16_LinenoUnits.Pure := by
  intro l by_ hl _
  have hl1 : (l.length : Int) * 40 ≤ 140737488351232 := by have := hl.1; omega
  have hlen : (number by_ l).length = l.length := nums_length by_ l none ⟨0, 0⟩
  refine Ev.rounds (g := fun k => variorumlaw16_LinenoUnits.f k l by_) ?_
  unfold variorumlaw16_LinenoUnits.f
  refine Ev.bind (number_ev by_ l hl1) (Ev.bind fixed_ev ?_)
  simp only [if_true]
  have h := units_step by_ l hl1 l.length 1 0 (by omega) (by omega) (.inl rfl)
  refine Ev.step (f := fun k => variorumlaw16_LinenoUnits.l0 k l by_ (number by_ l) 0 1) (fun k => ?_) h
  rw [hlen]
  simp [variorumlaw16_LinenoUnits.j0]

end Go.Proofs.Ytbpomibholcpfaa.Pure

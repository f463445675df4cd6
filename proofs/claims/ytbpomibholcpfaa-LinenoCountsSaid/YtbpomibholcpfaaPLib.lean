/- Plain lemmas on the printed functions of the package lineno: what Number and Margin come to. -/
import Derived.Test.YtbpomibholcpfaaPAllx7
namespace Go.Proofs.Ytbpomibholcpfaa.Pure
set_option linter.unusedVariables false
set_option linter.unusedSimpArgs false
open Go.RowKit Go.Proofs.Ytbpomibholcpfaa.PAll Go.Proofs.YtbpomibholcpfaaW.PrintWords Go.Proofs.YtbpomibholcpfaaW.PrintLast Go.Proofs.YtbpomibholcpfaaW.PrintMore

theorem wrap_small {x : Int} (h : -9223372036854775808 ≤ x ∧ x ≤ 9223372036854775807) : wrap64 x = x := by
  unfold wrap64
  omega

abbrev Unit3 := Int × Int × Int
def unit (by_ : Int) (r : S29) : Unit3 := if by_ = 0 then (r.f0, 0, 0) else if by_ = 1 then (r.f1, 0, 0) else if by_ = 2 then (r.f1, r.f2, 1) else (0, 0, 0)
theorem unit_f (by_ : Int) (r : S29) : lineno_Unit.f r.f0 r.f1 r.f2 r.f3 r.f4 r.f5 r.f6 by_ = some (unit by_ r) := by
  unfold lineno_Unit.f unit
  split
  · rfl
  · split
    · rfl
    · split <;> rfl
/-- A row's number, behind one. -/
def nextN (n : S31) (r : S29) : S31 := if r.f3 > 0 then ⟨r.f3, 0⟩ else if r.f6 = true then ⟨mx n.f0 1, n.f1⟩ else if r.f4 = true then ⟨mx n.f0 1, wrap64 (n.f1 + 1)⟩ else ⟨wrap64 (n.f0 + 1), 0⟩
theorem next_f (n : S31) (r : S29) : lineno_next.f n.f0 n.f1 r.f0 r.f1 r.f2 r.f3 r.f4 r.f5 r.f6 = some ((nextN n r).f0, (nextN n r).f1) := by
  unfold lineno_next.f nextN
  split
  · rfl
  · split
    · rfl
    · split <;> rfl

/-- Numbers of rows, behind a row ahead (its unit) and its state. -/
def startN (by_ : Int) (p : Option Unit3) (n : S31) (r : S29) : S31 := if p ≠ none ∧ p ≠ some (unit by_ r) then ⟨0, 0⟩ else n
def nums (by_ : Int) : Option Unit3 → S31 → List S29 → List S31
  | _, _, [] => []
  | p, n, r :: rest => if r.f5 = true then ⟨0, 0⟩ :: nums by_ (some (unit by_ r)) (startN by_ p n r) rest else nextN (startN by_ p n r) r :: nums by_ (some (unit by_ r)) (nextN (startN by_ p n r) r) rest
theorem nums_length (by_ : Int) (l : List S29) : ∀ p n, (nums by_ p n l).length = l.length := by
  induction l with
  | nil => intros; rfl
  | cons r l ih => intro p n; unfold nums; split <;> simp [ih]

theorem drop_rd (l : List S29) (i : Nat) (h : i < l.length) : l.drop i = rd_T29 l i :: l.drop (i + 1) := by
  rw [List.drop_eq_getElem_cons h]
  congr 1
  unfold rd_T29
  rw [Int.toNat_natCast, List.getD_eq_getElem?_getD, List.getElem?_eq_getElem h]
  rfl

/-- The unit of the row ahead. -/
def ahead (by_ : Int) (l : List S29) (i : Nat) : Option Unit3 := if i = 0 then none else some (unit by_ (rd_T29 l ((i - 1 : Nat) : Int)))

theorem number_step (by_ : Int) (l : List S29) (hl : (l.length : Int) * 40 ≤ 140737488351232) (d : Nat) : ∀ (i : Nat) (n : S31) (pre : List S31), pre.length = i → i + d = l.length →
    Ev (fun k => lineno_Number.l0 k l by_ (pre ++ List.replicate d z31) l (l.length : Int) i n.f0 n.f1) (pre ++ nums by_ (ahead by_ l i) n (l.drop i)) := by
  induction d with
  | zero =>
    intro i n pre hp hd
    refine Ev.step (f := fun _ => some _) (fun k => ?_) (Ev.now _)
    simp only [lineno_Number.l0]
    rw [if_neg (by omega), List.drop_eq_nil_of_le (by omega)]
    rfl
  | succ d ih =>
    intro i n pre hp hd
    have hi : i < l.length := by omega
    generalize hr : rd_T29 l i = r
    have hdr := drop_rd l i hi
    rw [hr] at hdr
    have hstart : ∀ b : Bool, (b = true ↔ (ahead by_ l i ≠ none ∧ ahead by_ l i ≠ some (unit by_ r))) → Ev (fun k => lineno_Number.j1 k l by_ (pre ++ List.replicate (d + 1) z31) i l (l.length : Int) i b n.f0 n.f1 r.f0 r.f1 r.f2 r.f3 r.f4 r.f5 r.f6) (pre ++ nums by_ (ahead by_ l i) n (l.drop i)) := by
      intro b hb
      have hm : startN by_ (ahead by_ l i) n r = if b = true then ⟨0, 0⟩ else n := by
        unfold startN
        by_cases hbt : b = true
        · rw [if_pos hbt, if_pos (hb.1 hbt)]
        · rw [if_neg hbt, if_neg (fun h => hbt (hb.2 h))]
      have hnext : ahead by_ l (i + 1) = some (unit by_ r) := by
        unfold ahead
        rw [if_neg (by omega), Nat.add_sub_cancel, hr]
      generalize hst : startN by_ (ahead by_ l i) n r = st at hm
      refine Ev.step (f := fun k => lineno_Number.j2 k l by_ (pre ++ List.replicate (d + 1) z31) i l (l.length : Int) i st.f0 st.f1 r.f0 r.f1 r.f2 r.f3 r.f4 r.f5 r.f6) (fun k => ?_) ?_
      · simp only [lineno_Number.j1]
        subst hm
        cases b <;> simp
      rw [hdr]
      unfold nums
      rw [hst]
      by_cases h5 : r.f5 = true
      · rw [if_pos h5]
        have h := ih (i + 1) st (pre ++ [⟨0, 0⟩]) (by simp [hp]) (by omega)
        rw [hnext] at h
        refine Ev.step (f := fun k => lineno_Number.l0 k l by_ (pre ++ List.replicate (d + 1) z31) l (l.length : Int) ((i + 1 : Nat) : Int) st.f0 st.f1) (fun k => ?_) ?_
        · simp only [lineno_Number.j2]
          rw [if_pos h5, wrap_small (by omega)]
          rfl
        · have e : pre ++ List.replicate (d + 1) z31 = (pre ++ [⟨0, 0⟩]) ++ List.replicate d z31 := by
            rw [List.append_assoc, List.replicate_succ]; rfl
          rw [e]
          have e2 : pre ++ ⟨0, 0⟩ :: nums by_ (some (unit by_ r)) st (l.drop (i + 1)) = (pre ++ [⟨0, 0⟩]) ++ nums by_ (some (unit by_ r)) st (l.drop (i + 1)) := by rw [List.append_assoc]; rfl
          rw [e2]
          exact h
      · rw [if_neg h5]
        have h := ih (i + 1) (nextN st r) (pre ++ [nextN st r]) (by simp [hp]) (by omega)
        rw [hnext] at h
        refine Ev.step (f := fun k => lineno_Number.l0 k l by_ ((pre ++ [nextN st r]) ++ List.replicate d z31) l (l.length : Int) ((i + 1 : Nat) : Int) (nextN st r).f0 (nextN st r).f1) (fun k => ?_) ?_
        · simp only [lineno_Number.j2]
          rw [if_neg h5, next_f]
          simp only [Option.bind_some]
          rw [if_pos (by omega), if_pos (by simp; omega), wrap_small (by omega)]
          have e : (pre ++ List.replicate (d + 1) z31).set (i : Int).toNat (⟨(nextN st r).f0, (nextN st r).f1⟩ : S31) = (pre ++ [nextN st r]) ++ List.replicate d z31 := by
            rw [Int.toNat_natCast, List.set_append_right _ _ (by omega), hp, Nat.sub_self, List.replicate_succ, List.set_cons_zero, List.append_assoc]
            rfl
          rw [e]
          rfl
        · have e2 : pre ++ nextN st r :: nums by_ (some (unit by_ r)) (nextN st r) (l.drop (i + 1)) = (pre ++ [nextN st r]) ++ nums by_ (some (unit by_ r)) (nextN st r) (l.drop (i + 1)) := by rw [List.append_assoc]; rfl
          rw [e2]
          exact h
    by_cases h0 : i = 0
    · have h := hstart false (by unfold ahead; rw [if_pos h0]; simp)
      refine Ev.step (f := fun k => lineno_Number.j1 k l by_ (pre ++ List.replicate (d + 1) z31) i l (l.length : Int) i false n.f0 n.f1 r.f0 r.f1 r.f2 r.f3 r.f4 r.f5 r.f6) (fun k => ?_) h
      simp only [lineno_Number.l0]
      rw [if_pos (by omega), if_pos (by omega), if_pos (by omega), if_neg (by omega), hr]
    · have e1 : wrap64 ((i : Int) - 1) = ((i - 1 : Nat) : Int) := by rw [wrap_small (by omega)]; omega
      have h := hstart (decide (unit by_ r ≠ unit by_ (rd_T29 l ((i - 1 : Nat) : Int)))) (by
        unfold ahead
        rw [if_neg h0, decide_eq_true_iff]
        exact ⟨fun h => ⟨by simp, fun e => h (Option.some.inj e).symm⟩, fun h e => h.2 (by rw [e])⟩)
      refine Ev.step (f := fun k => lineno_Number.j1 k l by_ (pre ++ List.replicate (d + 1) z31) i l (l.length : Int) i (decide (unit by_ r ≠ unit by_ (rd_T29 l ((i - 1 : Nat) : Int)))) n.f0 n.f1 r.f0 r.f1 r.f2 r.f3 r.f4 r.f5 r.f6) (fun k => ?_) h
      simp only [lineno_Number.l0]
      rw [if_pos (by omega), if_pos (by omega), if_pos (by omega), if_pos (by omega), hr, unit_f, e1]
      simp only [Option.bind_some]
      rw [if_pos (by omega), if_pos (by omega), unit_f]
      simp only [Option.bind_some]
      congr 1
      generalize unit by_ r = u
      generalize unit by_ (rd_T29 l ((i - 1 : Nat) : Int)) = v
      obtain ⟨u1, u2, u3⟩ := u
      obtain ⟨v1, v2, v3⟩ := v
      rw [Bool.eq_iff_iff]
      simp [Prod.ext_iff]

/-- The numbers of rows. -/
def number (by_ : Int) (l : List S29) : List S31 := nums by_ none ⟨0, 0⟩ l
theorem number_ev (by_ : Int) (l : List S29) (hl : (l.length : Int) * 40 ≤ 140737488351232) : Ev (fun k => lineno_Number.f k l by_) (number by_ l) := by
  have h := number_step by_ l hl l.length 0 ⟨0, 0⟩ [] rfl (by omega)
  refine Ev.congr (fun k => ?_) h
  unfold lineno_Number.f
  rw [if_pos (by omega), if_pos (by omega), Int.toNat_natCast]
  rfl

theorem fixed_ev : Ev (fun k => variorumlaw16_fixed.f k) true := Ev.of variorumlaw16_fixed.mono (k := 60) (by decide +kernel)

theorem rd31 (a : List S31) (i : Nat) (h : i < a.length) : rd_T31 a i = a[i] := by
  unfold rd_T31
  rw [Int.toNat_natCast, List.getD_eq_getElem?_getD, List.getElem?_eq_getElem h]
  rfl

/-- A list is the same as itself. -/
theorem nums_same (xs : List S31) (hn : (xs.length : Int) ≤ 9223372036854775806) : Ev (fun k => variorumref16_Nums.f k xs xs) true := by
  have key : ∀ (d : Nat) (i : Int), 0 ≤ i → i ≤ xs.length → ((xs.length : Int) - i).toNat = d → Ev (fun k => variorumref16_Nums.l0 k xs xs i) true := by
    intro d
    induction d with
    | zero =>
      intro i h0 h1 hd
      refine Ev.step (f := fun _ => some true) (fun k => ?_) (Ev.now _)
      simp only [variorumref16_Nums.l0]
      rw [if_neg (by omega)]
    | succ d ih =>
      intro i h0 h1 hd
      refine Ev.step (f := fun k => variorumref16_Nums.l0 k xs xs (i + 1)) (fun k => ?_) (ih (i + 1) (by omega) (by omega) (by omega))
      simp only [variorumref16_Nums.l0]
      rw [if_pos (by omega), if_pos h0, if_pos (by omega), if_neg (by simp), wrap_small (by omega)]
  refine Ev.congr (fun k => ?_) (key xs.length 0 (Int.le_refl _) (by omega) (by omega))
  unfold variorumref16_Nums.f
  rw [if_pos rfl]

theorem nums_append (by_ : Int) (a b : List S29) : ∀ p n, ∃ q m, nums by_ p n (a ++ b) = nums by_ p n a ++ nums by_ q m b := by
  induction a with
  | nil => intro p n; exact ⟨p, n, rfl⟩
  | cons r a ih =>
    intro p n
    simp only [List.cons_append, nums]
    split
    · obtain ⟨q, m, h⟩ := ih (some (unit by_ r)) (startN by_ p n r)
      exact ⟨q, m, by rw [h]; rfl⟩
    · obtain ⟨q, m, h⟩ := ih (some (unit by_ r)) (nextN (startN by_ p n r) r)
      exact ⟨q, m, by rw [h]; rfl⟩

end Go.Proofs.Ytbpomibholcpfaa.Pure

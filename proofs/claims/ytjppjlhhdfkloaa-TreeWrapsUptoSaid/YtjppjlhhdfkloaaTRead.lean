/- What the parser reads: peek, nodes, args and Parse. -/
import Derived.Test.YtjppjlhhdfkloaaPTpx3
import Derived.Test.YtjppjlhhdfkloaaTMath
namespace Go.Proofs.Ytjppjlhhdfkloaa.Pure
set_option linter.unusedVariables false
set_option linter.unusedSimpArgs false
open Go.RowKit Go.Proofs.Ytjppjlhhdfkloaa.PTp Go.Proofs.YtjppjlhhdfkloaaW.PrintWords Go.Proofs.YtjppjlhhdfkloaaW.PrintLast Go.Proofs.YtjppjlhhdfkloaaW.PrintMore

theorem wrap_small {x : Int} (h : -9223372036854775808 ≤ x ∧ x ≤ 9223372036854775807) : wrap64 x = x := by
  unfold wrap64
  omega
theorem succ_w (n : Nat) (h : n ≤ 1000000000000000) : wrap64 ((n : Int) + 1) = ((n + 1 : Nat) : Int) := by rw [wrap_small (by omega)]; omega
theorem rd44 {ls : List S44} {i : Nat} (h : i < ls.length) : rd_T44 ls (i : Int) = ls[i] := by
  unfold rd_T44; rw [Int.toNat_natCast, List.getD_eq_getElem?_getD, List.getElem?_eq_getElem h]; rfl
theorem rd38 {ls : List S38} {i : Nat} (h : i < ls.length) : rd_T38 ls (i : Int) = ls[i] := by
  unfold rd_T38; rw [Int.toNat_natCast, List.getD_eq_getElem?_getD, List.getElem?_eq_getElem h]; rfl
theorem rdL5 {ls : List (List S38)} {i : Nat} (h : i < ls.length) : rd_L5 ls (i : Int) = ls[i] := by
  unfold rd_L5; rw [Int.toNat_natCast, List.getD_eq_getElem?_getD, List.getElem?_eq_getElem h]; rfl
/-- A token of the kinds that there are. -/
def real (t : S44) : Bool := decide (0 ≤ t.f0) && decide (t.f0 ≤ 3)
def rest (l : List S44) (i : Nat) : List S44 := (l.drop i).filter real
theorem rest_end {l : List S44} {i : Nat} (h : l.length ≤ i) : rest l i = [] := by unfold rest; rw [List.drop_eq_nil_of_le h]; rfl
theorem rest_yes {l : List S44} {i : Nat} (h : i < l.length) (r : real l[i] = true) : rest l i = l[i] :: rest l (i + 1) := by
  unfold rest; rw [List.drop_eq_getElem_cons h, List.filter_cons_of_pos r]
theorem rest_no {l : List S44} {i : Nat} (h : i < l.length) (r : ¬ real l[i] = true) : rest l i = rest l (i + 1) := by
  unfold rest; rw [List.drop_eq_getElem_cons h, List.filter_cons_of_neg r]
theorem rest_kinds (l : List S44) (i : Nat) : Kinds (rest l i) := fun t h => by
  have := (List.mem_filter.1 h).2
  unfold real at this
  simp only [Bool.and_eq_true, decide_eq_true_eq] at this
  exact this
theorem rest_len (l : List S44) (i : Nat) : (rest l i).length ≤ l.length - i := by
  unfold rest
  exact Nat.le_trans (List.length_filter_le _ _) (by rw [List.length_drop]; exact Nat.le_refl _)
def Pk (l : List S44) (i : Nat) (p : Int × S44 × Bool) : Prop := (rest l i = [] ∧ p = ((l.length : Int), z44, false)) ∨ (∃ j : Nat, i ≤ j ∧ ∃ h : j < l.length, p = ((j : Int), l[j], true) ∧ rest l i = l[j] :: rest l (j + 1))
theorem peek_ev (l : List S44) (hl : l.length ≤ 4194304) : ∀ (d i : Nat), i + d = l.length → ∃ p, Ev (fun k => tpeek.f k l (i : Int)) p ∧ Pk l i p
  | 0, i => fun hi => by
    refine ⟨((l.length : Int), z44, false), Ev.step (f := fun _ => some _) (fun k => ?_) (Ev.now _), .inl ⟨rest_end (by omega), rfl⟩⟩
    simp only [tpeek.f]
    rw [if_neg (by omega), show (i : Int) = (l.length : Int) by omega]
  | d + 1, i => fun hi => by
    have hil : i < l.length := by omega
    have g1 : (i : Int) < (l.length : Int) := by omega
    have g2 : (0 : Int) ≤ (i : Int) := by omega
    by_cases r : real l[i] = true
    · have hk : 0 ≤ l[i].f0 ∧ l[i].f0 ≤ 3 := by
        unfold real at r
        simpa only [Bool.and_eq_true, decide_eq_true_eq] using r
      refine ⟨((i : Int), l[i], true), Ev.step (f := fun _ => some _) (fun k => ?_) (Ev.now _), .inr ⟨i, Nat.le_refl _, hil, rfl, rest_yes hil r⟩⟩
      simp only [tpeek.f, rd44 hil]
      rw [if_pos g1, if_pos g2, if_pos (by omega), if_pos (by omega)]
    · obtain ⟨p, h1, h2⟩ := peek_ev l hl d (i + 1) (by omega)
      have hk : ¬ (0 ≤ l[i].f0 ∧ l[i].f0 ≤ 3) := by
        unfold real at r
        simpa only [Bool.and_eq_true, decide_eq_true_eq] using r
      refine ⟨p, Ev.step (fun k => ?_) h1, ?_⟩
      · simp only [tpeek.f, rd44 hil]
        rw [if_pos g1, if_pos g2, succ_w i (by omega)]
        by_cases c : l[i].f0 ≥ 0
        · rw [if_pos c, if_neg (by omega)]
        · rw [if_neg c]
      · unfold Pk
        rw [rest_no hil r]
        rcases h2 with h | ⟨j, h, hj, e⟩
        · exact .inl h
        · exact .inr ⟨j, by omega, hj, e⟩
theorem peek_at (l : List S44) (hl : l.length ≤ 4194304) (i : Nat) (hi : i ≤ l.length) : ∃ p, Ev (fun k => tpeek.f k l (i : Int)) p ∧ Pk l i p := peek_ev l hl (l.length - i) i (by omega)
theorem z_nodes (l : List S44) (d : Int) (out : List S38) (a fc fa : Int) (h : ¬ fc = 0) : Ev (fun k => tnodes.l k l d out a fc fa) (out, a, fc, fa) :=
  Ev.step (f := fun _ => some _) (fun k => by simp only [tnodes.l]; rw [if_neg h]) (Ev.now _)
theorem z_args (l : List S44) (d : Int) (out : List (List S38)) (a fc fa : Int) (h : ¬ fc = 0) : Ev (fun k => targs.l k l d out a fc fa) (out, a, fc, fa) :=
  Ev.step (f := fun _ => some _) (fun k => by simp only [targs.l]; rw [if_neg h]) (Ev.now _)
/-- What nodes and args read. -/
def GN (l : List S44) (n d : Nat) (r : List S44) (out : List S38) (i : Nat) : Prop := ∃ i' : Nat, i ≤ i' ∧ i' ≤ l.length ∧ Ev (fun k => tnodes.l k l (d : Int) out (i : Int) 0 0) (out ++ (sN n d r).1, (i' : Int), (sN n d r).2.2) ∧ rest l i' = (sN n d r).2.1
def GA (l : List S44) (n d : Nat) (r : List S44) (out : List (List S38)) (i : Nat) : Prop := ∃ i' : Nat, i ≤ i' ∧ i' ≤ l.length ∧ Ev (fun k => targs.l k l (d : Int) out (i : Int) 0 0) (out ++ (sA n d r).1, (i' : Int), (sA n d r).2.2) ∧ rest l i' = (sA n d r).2.1
/-- What is left is no longer; without a fault there is no place of one. -/
theorem s_len : ∀ n, (∀ d r, (sN n d r).2.1.length ≤ r.length) ∧ (∀ d r, (sA n d r).2.1.length ≤ r.length)
  | 0 => ⟨fun _ _ => Nat.le_refl _, fun _ _ => Nat.le_refl _⟩
  | n + 1 => by
    obtain ⟨h1, h2⟩ := s_len n
    constructor
    · intro d r
      cases r with
      | nil => exact Nat.le_refl _
      | cons t r =>
        have a1 := h1 d r
        have a2 := h2 d r
        have a3 := h1 d (sA n d r).2.1
        simp only [sN, List.length_cons]
        repeat' split
        all_goals (try simp only [List.length_cons])
        all_goals omega
    · intro d r
      cases r with
      | nil => exact Nat.le_refl _
      | cons t r =>
        have a1 := h1 (d + 1) r
        simp only [sA, List.length_cons]
        split
        · split
          · simp only [List.length_cons]; omega
          · cases hm : (sN n (d + 1) r).2.1 with
            | nil => dsimp only; simp only [List.length_nil]; omega
            | cons e r2 =>
              rw [hm] at a1
              have a2 := h2 d r2
              simp only [List.length_cons] at a1
              dsimp only
              repeat' split
              all_goals (try simp only [List.length_cons])
              all_goals omega
        · simp only [List.length_cons]; omega
theorem s_zero : ∀ n, (∀ d r, (sN n d r).2.2.1 = 0 → (sN n d r).2.2 = (0, 0)) ∧ (∀ d r, (sA n d r).2.2.1 = 0 → (sA n d r).2.2 = (0, 0))
  | 0 => ⟨fun _ _ _ => rfl, fun _ _ _ => rfl⟩
  | n + 1 => by
    obtain ⟨h1, h2⟩ := s_zero n
    constructor
    · intro d r
      cases r with
      | nil => exact fun _ => rfl
      | cons t r =>
        simp only [sN]
        by_cases c0 : t.f0 = 0
        · rw [if_pos c0]; exact h1 d r
        · rw [if_neg c0]
          by_cases c1 : t.f0 = 1
          · rw [if_pos c1]
            by_cases cA : (sA n d r).2.2.1 = 0
            · rw [if_pos cA]; exact h1 d _
            · rw [if_neg cA]; exact fun h => absurd h cA
          · rw [if_neg c1]
            by_cases c2 : t.f0 = 2
            · rw [if_pos c2]; exact fun h => absurd h (show ¬ (60 : Int) = 0 by decide)
            · rw [if_neg c2]
              by_cases c3 : d > 0
              · rw [if_pos c3]; exact fun _ => rfl
              · rw [if_neg c3]; exact fun h => absurd h (show ¬ (61 : Int) = 0 by decide)
    · intro d r
      cases r with
      | nil => exact fun _ => rfl
      | cons t r =>
        have nz : ¬ (if (sN n (d + 1) r).2.2.1 = 0 then ((62 : Int), t.f2) else (sN n (d + 1) r).2.2).1 = 0 := by
          split
          · exact show ¬ (62 : Int) = 0 by decide
          · assumption
        simp only [sA]
        by_cases c2 : t.f0 = 2
        · rw [if_pos c2]
          by_cases c3 : d ≥ 64
          · rw [if_pos c3]; exact fun h => absurd h (show ¬ (63 : Int) = 0 by decide)
          · rw [if_neg c3]
            cases hm : (sN n (d + 1) r).2.1 with
            | nil => exact fun h => absurd h nz
            | cons e r2 =>
              dsimp only
              by_cases ce : e.f0 = 3
              · rw [if_pos ce]
                by_cases cf : (sN n (d + 1) r).2.2.1 = 0
                · rw [if_pos cf]; exact h2 d r2
                · rw [if_neg cf]; exact fun h => absurd h cf
              · rw [if_neg ce]; exact fun h => absurd h nz
        · rw [if_neg c2]; exact fun _ => rfl
def nB (k : Nat) (l : List S44) (d : Int) (out : List S38) (p : Int × S44 × Bool) : Option (List S38 × Int × Int × Int) := if p.2.2 = true then (if p.2.1.f0 = 0 then (if out.length < 2513169434916 then tnodes.l k l d (out ++ [(⟨false, p.2.1.f1, [], p.2.1.f2⟩ : S38)]) (wrap64 (p.1 + 1)) 0 0 else none) else if p.2.1.f0 = 1 then ((targs.l k l d [] (wrap64 (p.1 + 1)) 0 0).bind fun y => if out.length < 2513169434916 then tnodes.l k l d (out ++ [(⟨true, p.2.1.f1, y.1, p.2.1.f2⟩ : S38)]) y.2.1 y.2.2.1 y.2.2.2 else none) else if p.2.1.f0 = 2 then tnodes.l k l d out p.1 60 p.2.1.f2 else if p.2.1.f0 = 3 then (if d > 0 then some (out, p.1, 0, 0) else tnodes.l k l d out p.1 61 p.2.1.f2) else tnodes.l k l d out p.1 0 0) else some (out, p.1, 0, 0)
theorem n_step (l : List S44) (d : Int) (out : List S38) (a : Int) (k : Nat) : tnodes.l (k + 1) l d out a 0 0 = (tpeek.f k l a).bind (nB k l d out) := by
  simp only [tnodes.l]
  rw [if_pos trivial]; rfl
def aC (k : Nat) (l : List S44) (d : Int) (out : List (List S38)) (t : S44) (y : List S38 × Int × Int × Int) (q : Int × S44 × Bool) : Option (List (List S38) × Int × Int × Int) := if out.length < 5864062014805 then (if q.2.2 = true then (if q.2.1.f0 = 3 then targs.l k l d (out ++ [y.1]) (wrap64 (q.1 + 1)) y.2.2.1 y.2.2.2 else (if y.2.2.1 = 0 then targs.l k l d (out ++ [y.1]) q.1 62 t.f2 else targs.l k l d (out ++ [y.1]) q.1 y.2.2.1 y.2.2.2)) else (if y.2.2.1 = 0 then targs.l k l d (out ++ [y.1]) q.1 62 t.f2 else targs.l k l d (out ++ [y.1]) q.1 y.2.2.1 y.2.2.2)) else none
def aB (k : Nat) (l : List S44) (d : Int) (out : List (List S38)) (p : Int × S44 × Bool) : Option (List (List S38) × Int × Int × Int) := if p.2.2 = true then (if p.2.1.f0 = 2 then (if d ≥ 64 then some (out, p.1, 63, p.2.1.f2) else ((tnodes.l k l (wrap64 (d + 1)) [] (wrap64 (p.1 + 1)) 0 0).bind fun y => (tpeek.f k l y.2.1).bind (aC k l d out p.2.1 y))) else some (out, p.1, 0, 0)) else some (out, p.1, 0, 0)
theorem a_step (l : List S44) (d : Int) (out : List (List S38)) (a : Int) (k : Nat) : targs.l (k + 1) l d out a 0 0 = (tpeek.f k l a).bind (aB k l d out) := by
  simp only [targs.l]
  rw [if_pos trivial]; rfl
set_option maxHeartbeats 2000000 in
theorem read_n (l : List S44) (hl : l.length ≤ 4194304) (n : Nat) (ihN : (∀ (d : Nat) (r : List S44) (out : List S38) (i : Nat), d ≤ 64 → r.length < n → i ≤ l.length → out.length ≤ i → rest l i = r → GN l n d r out i)) (ihA : (∀ (d : Nat) (r : List S44) (out : List (List S38)) (i : Nat), d ≤ 64 → r.length < n → i ≤ l.length → out.length ≤ i → rest l i = r → GA l n d r out i)) (d : Nat) (r : List S44) (out : List S38) (i : Nat) (hd : d ≤ 64) (hr : r.length < n + 1) (hi : i ≤ l.length) (ho : out.length ≤ i) (hrest : rest l i = r) : GN l (n + 1) d r out i := by
  obtain ⟨slN, slA⟩ := s_len n
  obtain ⟨szN, szA⟩ := s_zero n
  obtain ⟨p, hp, hk⟩ := peek_at l hl i hi
  rcases hk with ⟨e0, rfl⟩ | ⟨j, hij, hj, rfl, e0⟩
  · rw [hrest] at e0
    subst e0
    refine ⟨l.length, hi, Nat.le_refl _, ?_, by rw [rest_end (Nat.le_refl _)]; rfl⟩
    simp only [sN, List.append_nil]
    exact Ev.step (n_step _ _ _ _) (Ev.bind hp (Ev.congr (fun k => by simp only [nB]; rw [if_neg (by decide)]) (Ev.now _)))
  · rw [hrest] at e0
    have hreal : real l[j] = true := by
      have : l[j] ∈ rest l i := by rw [hrest, e0]; exact List.mem_cons_self ..
      exact (List.mem_filter.1 this).2
    have hrj := rest_yes hj hreal
    have hkd : 0 ≤ l[j].f0 ∧ l[j].f0 ≤ 3 := by
      unfold real at hreal
      simpa only [Bool.and_eq_true, decide_eq_true_eq] using hreal
    generalize l[j] = t at hp e0 hrj hkd
    subst e0
    have hr' : (rest l (j + 1)).length < n := by simpa using hr
    have lo : out.length < 2513169434916 := by omega
    have go : ∀ x, Ev (fun k => nB k l (d : Int) out ((j : Int), t, true)) x → Ev (fun k => tnodes.l k l (d : Int) out (i : Int) 0 0) x := fun x h => Ev.step (n_step _ _ _ _) (Ev.bind hp h)
    by_cases c0 : t.f0 = 0
    · obtain ⟨i', b1, b2, b3, b4⟩ := ihN d (rest l (j + 1)) (out ++ [(⟨false, t.f1, [], t.f2⟩ : S38)]) (j + 1) hd hr' (by omega) (by rw [List.length_append, List.length_singleton]; omega) rfl
      refine ⟨i', by omega, b2, go _ ?_, by simp only [sN]; rw [if_pos c0]; exact b4⟩
      simp only [sN]
      rw [if_pos c0]
      rw [List.append_assoc] at b3
      exact Ev.congr (fun k => by simp only [nB, succ_w j (show j ≤ 1000000000000000 by omega)]; rw [if_pos trivial, if_pos c0, if_pos lo]) b3
    · by_cases c1 : t.f0 = 1
      · obtain ⟨i1, a1, a2, a3, a4⟩ := ihA d (rest l (j + 1)) [] (j + 1) hd hr' (by omega) (by simp) rfl
        rw [List.nil_append] at a3
        by_cases cA : (sA n d (rest l (j + 1))).2.2.1 = 0
        · have z := szA d _ cA
          have l2 := slA d (rest l (j + 1))
          obtain ⟨i', b1, b2, b3, b4⟩ := ihN d (sA n d (rest l (j + 1))).2.1 (out ++ [(⟨true, t.f1, (sA n d (rest l (j + 1))).1, t.f2⟩ : S38)]) i1 hd (by omega) a2 (by rw [List.length_append, List.length_singleton]; omega) a4
          refine ⟨i', by omega, b2, go _ ?_, by simp only [sN]; rw [if_neg c0, if_pos c1, if_pos cA]; exact b4⟩
          simp only [sN]
          rw [if_neg c0, if_pos c1, if_pos cA]
          rw [List.append_assoc] at b3
          refine Ev.congr (f := fun k => (targs.l k l (d : Int) [] ((j + 1 : Nat) : Int) 0 0).bind fun y => if out.length < 2513169434916 then tnodes.l k l (d : Int) (out ++ [(⟨true, t.f1, y.1, t.f2⟩ : S38)]) y.2.1 y.2.2.1 y.2.2.2 else none) (fun k => by simp only [nB, succ_w j (show j ≤ 1000000000000000 by omega)]; rw [if_pos trivial, if_neg c0, if_pos c1]) (Ev.bind a3 ?_)
          simp only [if_pos lo, z]
          exact b3
        · refine ⟨i1, by omega, a2, go _ ?_, by simp only [sN]; rw [if_neg c0, if_pos c1, if_neg cA]; exact a4⟩
          simp only [sN]
          rw [if_neg c0, if_pos c1, if_neg cA]
          refine Ev.congr (f := fun k => (targs.l k l (d : Int) [] ((j + 1 : Nat) : Int) 0 0).bind fun y => if out.length < 2513169434916 then tnodes.l k l (d : Int) (out ++ [(⟨true, t.f1, y.1, t.f2⟩ : S38)]) y.2.1 y.2.2.1 y.2.2.2 else none) (fun k => by simp only [nB, succ_w j (show j ≤ 1000000000000000 by omega)]; rw [if_pos trivial, if_neg c0, if_pos c1]) (Ev.bind a3 ?_)
          simp only [if_pos lo]
          exact z_nodes _ _ _ _ _ _ cA
      · by_cases c2 : t.f0 = 2
        · refine ⟨j, hij, by omega, go _ ?_, by simp only [sN]; rw [if_neg c0, if_neg c1, if_pos c2]; exact hrj⟩
          simp only [sN]
          rw [if_neg c0, if_neg c1, if_pos c2, List.append_nil]
          exact Ev.congr (fun k => by simp only [nB]; rw [if_pos trivial, if_neg c0, if_neg c1, if_pos c2]) (z_nodes _ _ _ _ _ _ (by decide))
        · have c3 : t.f0 = 3 := by omega
          by_cases c4 : d > 0
          · refine ⟨j, hij, by omega, go _ ?_, by simp only [sN]; rw [if_neg c0, if_neg c1, if_neg c2, if_pos c4]; exact hrj⟩
            simp only [sN]
            rw [if_neg c0, if_neg c1, if_neg c2, if_pos c4, List.append_nil]
            exact Ev.congr (fun k => by simp only [nB]; rw [if_pos trivial, if_neg c0, if_neg c1, if_neg c2, if_pos c3, if_pos (show (d : Int) > 0 by omega)]) (Ev.now _)
          · refine ⟨j, hij, by omega, go _ ?_, by simp only [sN]; rw [if_neg c0, if_neg c1, if_neg c2, if_neg c4]; exact hrj⟩
            simp only [sN]
            rw [if_neg c0, if_neg c1, if_neg c2, if_neg c4, List.append_nil]
            exact Ev.congr (fun k => by simp only [nB]; rw [if_pos trivial, if_neg c0, if_neg c1, if_neg c2, if_pos c3, if_neg (show ¬ (d : Int) > 0 by omega)]) (z_nodes _ _ _ _ _ _ (by decide))
def mA (n d : Nat) (t : S44) (ns : List S38) (rr : List S44) (xc xf : Int) : List (List S38) × List S44 × Int × Int := match rr with
  | [] => ([ns], [], if xc = 0 then (62, t.f2) else (xc, xf))
  | e :: r2 => if e.f0 = 3 then (if xc = 0 then (ns :: (sA n d r2).1, (sA n d r2).2) else ([ns], r2, (xc, xf))) else ([ns], e :: r2, if xc = 0 then (62, t.f2) else (xc, xf))
set_option maxHeartbeats 2000000 in
theorem read_a (l : List S44) (hl : l.length ≤ 4194304) (n : Nat) (ihN : (∀ (d : Nat) (r : List S44) (out : List S38) (i : Nat), d ≤ 64 → r.length < n → i ≤ l.length → out.length ≤ i → rest l i = r → GN l n d r out i)) (ihA : (∀ (d : Nat) (r : List S44) (out : List (List S38)) (i : Nat), d ≤ 64 → r.length < n → i ≤ l.length → out.length ≤ i → rest l i = r → GA l n d r out i)) (d : Nat) (r : List S44) (out : List (List S38)) (i : Nat) (hd : d ≤ 64) (hr : r.length < n + 1) (hi : i ≤ l.length) (ho : out.length ≤ i) (hrest : rest l i = r) : GA l (n + 1) d r out i := by
  obtain ⟨slN, slA⟩ := s_len n
  obtain ⟨szN, szA⟩ := s_zero n
  obtain ⟨p, hp, hk⟩ := peek_at l hl i hi
  rcases hk with ⟨e0, rfl⟩ | ⟨j, hij, hj, rfl, e0⟩
  · rw [hrest] at e0
    subst e0
    refine ⟨l.length, hi, Nat.le_refl _, ?_, by rw [rest_end (Nat.le_refl _)]; rfl⟩
    simp only [sA, List.append_nil]
    exact Ev.step (a_step _ _ _ _) (Ev.bind hp (Ev.congr (fun k => by simp only [aB]; rw [if_neg (by decide)]) (Ev.now _)))
  · rw [hrest] at e0
    have hreal : real l[j] = true := by
      have : l[j] ∈ rest l i := by rw [hrest, e0]; exact List.mem_cons_self ..
      exact (List.mem_filter.1 this).2
    have hrj := rest_yes hj hreal
    generalize l[j] = t at hp e0 hrj
    subst e0
    have hr' : (rest l (j + 1)).length < n := by simpa using hr
    have lo : out.length < 5864062014805 := by omega
    have go : ∀ x, Ev (fun k => aB k l (d : Int) out ((j : Int), t, true)) x → Ev (fun k => targs.l k l (d : Int) out (i : Int) 0 0) x := fun x h => Ev.step (a_step _ _ _ _) (Ev.bind hp h)
    by_cases c2 : t.f0 = 2
    · by_cases c3 : d ≥ 64
      · refine ⟨j, hij, by omega, go _ ?_, by simp only [sA]; rw [if_pos c2, if_pos c3]; exact hrj⟩
        simp only [sA]
        rw [if_pos c2, if_pos c3, List.append_nil]
        exact Ev.congr (fun k => by simp only [aB]; rw [if_pos trivial, if_pos c2, if_pos (show (d : Int) ≥ 64 by omega)]) (Ev.now _)
      · have ed : wrap64 ((d : Int) + 1) = ((d + 1 : Nat) : Int) := succ_w d (by omega)
        obtain ⟨i1, a1, a2, a3, a4⟩ := ihN (d + 1) (rest l (j + 1)) [] (j + 1) (by omega) hr' (by omega) (by simp) rfl
        rw [List.nil_append] at a3
        have l2 := slN (d + 1) (rest l (j + 1))
        have z := szN (d + 1) (rest l (j + 1))
        obtain ⟨q, hq, hkq⟩ := peek_at l hl i1 a2
        rw [Pk, a4] at hkq
        have go2 : ∀ x, Ev (fun k => aC k l (d : Int) out t ((sN n (d + 1) (rest l (j + 1))).1, (i1 : Int), (sN n (d + 1) (rest l (j + 1))).2.2) q) x → Ev (fun k => targs.l k l (d : Int) out (i : Int) 0 0) x := fun x h => by
          refine go _ (Ev.congr (f := fun k => (tnodes.l k l ((d + 1 : Nat) : Int) [] ((j + 1 : Nat) : Int) 0 0).bind fun y => (tpeek.f k l y.2.1).bind (aC k l (d : Int) out t y)) (fun k => by simp only [aB, succ_w j (show j ≤ 1000000000000000 by omega), succ_w d (show d ≤ 1000000000000000 by omega)]; rw [if_pos trivial, if_pos c2, if_neg (show ¬ (d : Int) ≥ 64 by omega)]) (Ev.bind a3 (Ev.bind hq h)))
        generalize hx : sN n (d + 1) (rest l (j + 1)) = x at hkq go2 l2 z a4
        obtain ⟨ns, rr, xc, xf⟩ := x
        dsimp only at hkq go2 l2 z a4
        have fl : ∀ (u : Int) (e : Bool) (s : S44), (e = true → ¬ s.f0 = 3) → q = (u, s, e) → Ev (fun k => aC k l (d : Int) out t (ns, (i1 : Int), xc, xf) q) (out ++ [ns], u, if xc = 0 then (62, t.f2) else (xc, xf)) := by
          intro u e s hs hqe
          subst hqe
          by_cases cf : xc = 0
          · rw [if_pos cf]
            refine Ev.congr (fun k => ?_) (z_args l (d : Int) (out ++ [ns]) u 62 t.f2 (by decide))
            simp only [aC]
            rw [if_pos lo]
            cases e with
            | true => rw [if_pos rfl, if_neg (hs rfl), if_pos cf]
            | false => rw [if_neg (by decide), if_pos cf]
          · rw [if_neg cf]
            refine Ev.congr (fun k => ?_) (z_args l (d : Int) (out ++ [ns]) u xc xf cf)
            simp only [aC]
            rw [if_pos lo]
            cases e with
            | true => rw [if_pos rfl, if_neg (hs rfl), if_neg cf]
            | false => rw [if_neg (by decide), if_neg cf]
        have hsA : sA (n + 1) d (t :: rest l (j + 1)) = mA n d t ns rr xc xf := by
          simp only [sA, hx]
          rw [if_pos c2, if_neg c3]
          cases rr <;> rfl
        unfold GA
        rw [hsA]
        rcases hkq with ⟨e0, hqe⟩ | ⟨j2, hij2, hj2, hqe, e0⟩
        · subst e0
          exact ⟨l.length, hi, Nat.le_refl _, go2 _ (fl _ _ _ (fun h => absurd h (by decide)) hqe), by rw [rest_end (Nat.le_refl _)]; rfl⟩
        · have hreal2 : real l[j2] = true := by
            have : l[j2] ∈ rest l i1 := by rw [a4, e0]; exact List.mem_cons_self ..
            exact (List.mem_filter.1 this).2
          have hrj2 := rest_yes hj2 hreal2
          generalize l[j2] = e at hqe e0 hrj2
          subst e0
          simp only [mA]
          by_cases ce : e.f0 = 3
          · rw [if_pos ce]
            have st : ∀ x, Ev (fun k => targs.l k l (d : Int) (out ++ [ns]) ((j2 + 1 : Nat) : Int) xc xf) x → Ev (fun k => aC k l (d : Int) out t (ns, (i1 : Int), xc, xf) q) x := fun x h => by
              subst hqe
              exact Ev.congr (fun k => by simp only [aC, succ_w j2 (show j2 ≤ 1000000000000000 by omega)]; rw [if_pos lo, if_pos trivial, if_pos ce]) h
            by_cases cf : xc = 0
            · have zz := z cf
              simp only [Prod.mk.injEq] at zz
              obtain ⟨rfl, rfl⟩ := zz
              have hl3 : (rest l (j2 + 1)).length < n := by simp only [List.length_cons] at l2; omega
              obtain ⟨i', b1, b2, b3, b4⟩ := ihA d (rest l (j2 + 1)) (out ++ [ns]) (j2 + 1) hd hl3 (by omega) (by rw [List.length_append, List.length_singleton]; omega) rfl
              rw [if_pos rfl]
              rw [List.append_assoc] at b3
              exact ⟨i', by omega, b2, go2 _ (st _ b3), b4⟩
            · rw [if_neg cf]
              exact ⟨j2 + 1, by omega, by omega, go2 _ (st _ (z_args _ _ _ _ _ _ cf)), rfl⟩
          · rw [if_neg ce]
            exact ⟨j2, by omega, by omega, go2 _ (fl _ _ _ (fun _ => ce) hqe), hrj2⟩
    · refine ⟨j, hij, by omega, go _ ?_, by simp only [sA]; rw [if_neg c2]; exact hrj⟩
      simp only [sA]
      rw [if_neg c2, List.append_nil]
      exact Ev.congr (fun k => by simp only [aB]; rw [if_pos trivial, if_neg c2]) (Ev.now _)
theorem read_ev (l : List S44) (hl : l.length ≤ 4194304) : ∀ n, (∀ (d : Nat) (r : List S44) (out : List S38) (i : Nat), d ≤ 64 → r.length < n → i ≤ l.length → out.length ≤ i → rest l i = r → GN l n d r out i) ∧ (∀ (d : Nat) (r : List S44) (out : List (List S38)) (i : Nat), d ≤ 64 → r.length < n → i ≤ l.length → out.length ≤ i → rest l i = r → GA l n d r out i)
  | 0 => ⟨fun _ _ _ _ _ h => absurd h (by omega), fun _ _ _ _ _ h => absurd h (by omega)⟩
  | n + 1 => ⟨read_n l hl n (read_ev l hl n).1 (read_ev l hl n).2, read_a l hl n (read_ev l hl n).1 (read_ev l hl n).2⟩
/-- What Parse tells. -/
def pv (l : List S44) : List S38 × Int × Int := if (sN ((rest l 0).length + 1) 0 (rest l 0)).2.2.1 = 0 then ((sN ((rest l 0).length + 1) 0 (rest l 0)).1, 0, 0) else ([], (sN ((rest l 0).length + 1) 0 (rest l 0)).2.2)
theorem parse_ev (l : List S44) (hl : l.length ≤ 4194304) : Ev (fun k => tree_Parse.f k l) (pv l) := by
  obtain ⟨i', h1, h2, h3, h4⟩ := (read_ev l hl ((rest l 0).length + 1)).1 0 (rest l 0) [] 0 (by omega) (Nat.lt_succ_self _) (Nat.zero_le _) (Nat.le_refl _) rfl
  unfold tree_Parse.f pv
  refine Ev.bind h3 ?_
  rw [List.nil_append]
  by_cases c : (sN ((rest l 0).length + 1) 0 (rest l 0)).2.2.1 = 0
  · simp only [if_pos c]; exact Ev.now _
  · simp only [if_neg c]; exact Ev.now _
end Go.Proofs.Ytjppjlhhdfkloaa.Pure

/- A paragraph's lines: what line, Lines and Words come to. -/
import Derived.Test.YtpfnfofaajpdmaaPWix12
import Derived.Test.YtpfnfofaajpdmaaVWid
import Derived.Test.YtpfnfofaajpdmaaVPlain
namespace Go.Proofs.Ytpfnfofaajpdmaa.Pure
set_option linter.unusedVariables false
set_option linter.unusedSimpArgs false
open Go.RowKit Go.Proofs.Ytpfnfofaajpdmaa.PWi Go.Proofs.YtpfnfofaajpdmaaW.PrintWords Go.Proofs.YtpfnfofaajpdmaaW.PrintLast Go.Proofs.YtpfnfofaajpdmaaW.PrintMore

/-! ## One line -/
def bl (l : List S40) (w : List Int) : Nat → Nat → Nat → Int → List S42 × Int
  | 0, _, _, X => ([], X)
  | d + 1, i, j, X =>
    if (rd_T40 l (i : Int)).f0 = 0 then ((⟨(rd_T40 l (i : Int)).f4, (rd_T40 l (i : Int)).f5, X, (rd_T40 l (i : Int)).f1.f0⟩ : S42) :: (bl l w d (i + 1) (j + 1) (wrap64 (X + rd w (j : Int)))).1, (bl l w d (i + 1) (j + 1) (wrap64 (X + rd w (j : Int)))).2)
    else if (rd_T40 l (i : Int)).f0 = 1 then bl l w d (i + 1) (j + 1) (wrap64 (X + rd w (j : Int)))
    else bl l w d (i + 1) j X
theorem bl_ev (l : List S40) (w : List Int) (b : Nat) (hl : l.length ≤ 2000) (hb : b < l.length) (fr tO : Int) (hy : Bool) (bad : Int) : ∀ (d i j : Nat) (acc : List S42) (X : Int), i + d = b → acc.length ≤ i → j ≤ i → j + (cl l d i).length ≤ w.length →
    Ev (fun k => setter_line.l0 k l (b : Int) w (j : Int) (i : Int) fr tO acc hy X bad) (fr, tO, acc ++ (bl l w d i j X).1, hy, (bl l w d i j X).2, bad, true) := by
  intro d
  induction d with
  | zero =>
    intro i j acc X hi ha hj hw
    refine Ev.step (f := fun _ => some _) (fun k => ?_) (Ev.now _)
    simp only [setter_line.l0, bl, List.append_nil]
    rw [if_neg (by omega)]
  | succ d ih =>
    intro i j acc X hi ha hj hw
    have g1 : (i : Int) < (b : Int) := by omega
    have g2 : (0 : Int) ≤ (i : Int) := by omega
    have g3 : (i : Int) < (l.length : Int) := by omega
    have g4 : (0 : Int) ≤ (j : Int) := by omega
    have g6 : acc.length < 4398046511104 := by omega
    simp only [cl] at hw
    by_cases c0 : (rd_T40 l (i : Int)).f0 = 0
    · rw [if_pos c0, List.length_append, List.length_singleton] at hw
      have g5 : (j : Int) < (w.length : Int) := by omega
      have h := ih (i + 1) (j + 1) (acc ++ [(⟨(rd_T40 l (i : Int)).f4, (rd_T40 l (i : Int)).f5, X, (rd_T40 l (i : Int)).f1.f0⟩ : S42)]) (wrap64 (X + rd w (j : Int))) (by omega) (by rw [List.length_append, List.length_singleton]; omega) (by omega) (by omega)
      rw [List.append_assoc] at h
      simp only [bl, if_pos c0]
      refine Ev.step (fun k => ?_) h
      simp only [setter_line.l0]
      rw [if_pos g1, if_pos g2, if_pos g3, if_pos c0, if_pos g6, if_pos g4, if_pos g5, succ_w i (by omega), succ_w j (by omega)]
    · rw [if_neg c0] at hw
      by_cases c1 : (rd_T40 l (i : Int)).f0 = 1
      · rw [if_pos c1, List.length_append, List.length_singleton] at hw
        have g5 : (j : Int) < (w.length : Int) := by omega
        have h := ih (i + 1) (j + 1) acc (wrap64 (X + rd w (j : Int))) (by omega) (by omega) (by omega) (by omega)
        simp only [bl, if_neg c0, if_pos c1]
        refine Ev.step (fun k => ?_) h
        simp only [setter_line.l0]
        rw [if_pos g1, if_pos g2, if_pos g3, if_neg c0, if_pos c1, if_pos g4, if_pos g5, succ_w i (by omega), succ_w j (by omega)]
      · rw [if_neg c1, List.nil_append] at hw
        have h := ih (i + 1) j acc X (by omega) (by omega) (by omega) (by omega)
        simp only [bl, if_neg c0, if_neg c1]
        refine Ev.step (fun k => ?_) h
        simp only [setter_line.l0]
        rw [if_pos g1, if_pos g2, if_pos g3, if_neg c0, if_neg c1, succ_w i (by omega)]
abbrev T7 := Int × Int × List S42 × Bool × Int × Int × Bool
def lb (l : List S40) (a b t : Int) : List S42 × Int := bl l (ws (gs l a b) t) (b.toNat - st l a) (st l a) 0 0
def ok (l : List S40) (a b t : Int) : Bool := (lv l a b t).2.2.2.2
def ln (l : List S40) (a b t : Int) : T7 := if ok l a b t = true then ((st l a : Int), b, (lb l a b t).1, (rd_T40 l b).f3, (lb l a b t).2, (lv l a b t).2.2.2.1, true) else (0, 0, [], false, 0, 0, false)
theorem ok_in {l : List S40} {a b t : Int} (h : ok l a b t = true) : mb l a b = true ∧ (sv (gs l a b) t).2.2.2.2 = true := by
  have hm := lv_ok h
  unfold ok lv at h
  rw [if_pos hm] at h
  exact ⟨hm, h⟩
theorem sline_ev (l : List S40) (a b t : Int) (hl : l.length ≤ 2000) (ha : -9223372036854775808 ≤ a) : Ev (fun k => setter_line.f k l a b t) (ln l a b t) := by
  unfold setter_line.f
  refine Ev.bind (line_ev l a b t hl) ?_
  by_cases c : ok l a b t = true
  · obtain ⟨hm, hs⟩ := ok_in c
    have hb := mb_in hm
    have c' : (lv l a b t).2.2.2.2 = true := c
    have e : ln l a b t = ((st l a : Int), b, (lb l a b t).1, (rd_T40 l b).f3, (lb l a b t).2, (lv l a b t).2.2.2.1, true) := by unfold ln; rw [if_pos c]
    rw [e]
    simp only [if_pos c']
    refine Ev.bind (start_ev l a hl ha) ?_
    simp only [if_pos hb.2.2.1, if_pos hb.2.2.2.1]
    refine Ev.bind (glues_ev l a b hl ha hb.2.2.1 hb.2.2.2.1 hb.2.2.2.2) (Ev.bind (widths_ev hs) ?_)
    obtain ⟨b, rfl⟩ : ∃ n : Nat, b = n := ⟨b.toNat, by omega⟩
    have hlen : (gs l a (b : Int)).length = (ws (gs l a (b : Int)) t).length := (ws_len _ _).symm
    have hgl : (cl l (b - st l a) (st l a)).length ≤ (gs l a (b : Int)).length := by unfold gs; rw [List.length_append, Int.toNat_natCast]; omega
    have h := bl_ev l (ws (gs l a (b : Int)) t) b hl (by omega) (st l a : Int) (b : Int) ((rd_T40 l (b : Int)).f3) ((lv l a (b : Int) t).2.2.2.1) (b - st l a) (st l a) 0 [] 0 (by omega) (by simp) (by omega) (by omega)
    rw [List.nil_append] at h
    exact h
  · have c' : ¬ (lv l a b t).2.2.2.2 = true := c
    have e : ln l a b t = (0, 0, [], false, 0, 0, false) := by unfold ln; rw [if_neg c]
    rw [e]
    simp only [if_neg c']
    exact Ev.now _

/-! ## All lines -/
def toL (x : T7) : S44 := ⟨x.1, x.2.1, x.2.2.1, x.2.2.2.1, x.2.2.2.2.1, x.2.2.2.2.2.1⟩
def fn (l : List S40) (t : Int) (m : Nat) : List Int → Nat → Int → List S44 → List S44 × Int × Int
  | [], i, a, acc => if (m : Int) = 0 then ([], 120, (m : Int)) else if a = (l.length : Int) - 1 then (acc, 0, 0) else ([], 120, (m : Int))
  | b :: r, i, a, acc => if ok l a b t = true then fn l t m r (i + 1) b (acc ++ [toL (ln l a b t)]) else ([], 120, (i : Int))
theorem ln_flag (l : List S40) (a b t : Int) : (ln l a b t).2.2.2.2.2.2 = ok l a b t := by
  unfold ln
  by_cases c : ok l a b t = true
  · rw [if_pos c, c]
  · rw [if_neg c]; simpa using c
theorem lines_loop (l : List S40) (bs : List Int) (t : Int) (hl : l.length ≤ 2000) (hb : bs.length ≤ 2000) : ∀ (r : List Int) (i : Nat) (a : Int) (acc : List S44), bs.drop i = r → i ≤ bs.length → acc.length ≤ i → -9223372036854775808 ≤ a → Ev (fun k => setter_Lines.l0 k l bs t acc a bs (bs.length : Int) (i : Int)) (fn l t bs.length r i a acc) := by
  intro r
  induction r with
  | nil =>
    intro i a acc hr hi ha haa
    have hlen := congrArg List.length hr
    rw [List.length_drop, List.length_nil] at hlen
    have g1 : ¬ (i : Int) < (bs.length : Int) := by omega
    have e : wrap64 ((l.length : Int) - 1) = (l.length : Int) - 1 := wrap_small (by omega)
    refine Ev.step (f := fun _ => some (fn l t bs.length [] i a acc)) (fun k => ?_) (Ev.now _)
    simp only [setter_Lines.l0, fn]
    rw [if_neg g1, e]
    by_cases c : (bs.length : Int) = 0
    · rw [if_pos c, if_pos c]
    · rw [if_neg c, if_neg c]
      by_cases c2 : a = (l.length : Int) - 1
      · rw [if_pos c2, if_pos c2]
      · rw [if_neg c2, if_neg c2]
  | cons b r ih =>
    intro i a acc hr hi ha haa
    have hlen := congrArg List.length hr
    rw [List.length_drop, List.length_cons] at hlen
    have hib : i < bs.length := by omega
    have g1 : (i : Int) < (bs.length : Int) := by omega
    have g2 : (0 : Int) ≤ (i : Int) := by omega
    have g3 : acc.length < 2199023255552 := by omega
    have eb : rd bs (i : Int) = b := by
      unfold rd
      rw [Int.toNat_natCast, List.getD_eq_getElem?_getD]
      have := congrArg List.head? hr
      rw [List.head?_drop] at this
      rw [this]; rfl
    have er : bs.drop (i + 1) = r := by
      have := congrArg List.tail hr
      rwa [List.tail_drop] at this
    refine Ev.step (f := fun k => (setter_line.f k l a b t).bind fun x => (if x.2.2.2.2.2.2 = true then (if acc.length < 2199023255552 then (setter_Lines.l0 k l bs t (acc ++ [toL x]) b bs (bs.length : Int) ((i + 1 : Nat) : Int)) else (none)) else (some (([] : List (S44)), 120, (i : Int))))) (fun k => ?_) (Ev.bind (sline_ev l a b t hl haa) ?_)
    · simp only [setter_Lines.l0]
      rw [if_pos g1, if_pos g2, if_pos g1, eb, succ_w i (by omega)]
      rfl
    · rw [ln_flag]
      by_cases c : ok l a b t = true
      · have hbb := mb_in (ok_in c).1
        simp only [if_pos c, if_pos g3, fn]
        exact ih (i + 1) b _ er (by omega) (by rw [List.length_append, List.length_singleton]; omega) (by omega)
      · simp only [if_neg c, fn]
        exact Ev.now _
def lines (l : List S40) (bs : List Int) (t : Int) : List S44 × Int × Int := if mi l = true then fn l t bs.length bs 0 (-1) [] else ([], 90, 0)
theorem mi_len {l : List S40} (h : mi l = true) : l.length ≤ 2000 := by
  unfold mi at h
  simp only [Bool.and_eq_true, decide_eq_true_eq] at h
  omega
theorem lines_ev (l : List S40) (bs : List Int) (t : Int) (hb : bs.length ≤ 2000) : Ev (fun k => setter_Lines.f k l bs t) (lines l bs t) := by
  unfold setter_Lines.f lines
  refine Ev.bind (imay_ev l) ?_
  by_cases c : mi l = true
  · simp only [if_pos c]
    exact lines_loop l bs t (mi_len c) hb bs 0 (-1) [] rfl (by omega) (by simp) (by decide)
  · simp only [if_neg c]
    exact Ev.now _
/-- Breaks, each of which may be, behind a. -/
def chain (l : List S40) (t : Int) : List Int → Int → Prop
  | [], _ => True
  | b :: r, a => ok l a b t = true ∧ chain l t r b
def lns (l : List S40) (t : Int) : List Int → Int → List S44
  | [], _ => []
  | b :: r, a => toL (ln l a b t) :: lns l t r b
def lastB : List Int → Int → Int
  | [], a => a
  | b :: r, _ => lastB r b
theorem lns_len (l : List S40) (t : Int) : ∀ r a, (lns l t r a).length = r.length
  | [], _ => rfl
  | b :: r, a => by simp only [lns, List.length_cons, lns_len l t r b]
theorem fn_yes (l : List S40) (t : Int) (m : Nat) (hm : ¬ (m : Int) = 0) : ∀ r i a acc, chain l t r a → lastB r a = (l.length : Int) - 1 → fn l t m r i a acc = (acc ++ lns l t r a, 0, 0)
  | [], i, a, acc => fun _ h => by
    simp only [lastB] at h
    simp only [fn]
    rw [if_neg hm, if_pos h]; simp [lns]
  | b :: r, i, a, acc => fun hc h => by
    simp only [fn]
    rw [if_pos hc.1, fn_yes l t m hm r (i + 1) b _ hc.2 h]; simp [lns]
/-! ## Words -/
theorem rd44 {ls : List S44} {i : Nat} (h : i < ls.length) : rd_T44 ls (i : Int) = ls[i] := by
  unfold rd_T44; rw [Int.toNat_natCast, List.getD_eq_getElem?_getD, List.getElem?_eq_getElem h]; rfl
theorem fixed_ev : Ev (fun k => variorumlaw12_fixed.f k) true := Ev.of variorumlaw12_fixed.mono (k := 80) (by decide +kernel)
end Go.Proofs.Ytpfnfofaajpdmaa.Pure

/- SetterWide: a line whose badness is below 10000 is just as wide as it must be, with its hyphen; broken as the best breaks say, no line is wider. -/
import Derived.Test.YtpfnfofaajpdmaaPWix21
import Derived.Test.YtpfnfofaajpdmaaVBest
import Derived.Test.YtpfnfofaajpdmaaVFill
namespace Go.Proofs.Ytpfnfofaajpdmaa.Pure
set_option linter.unusedVariables false
set_option linter.unusedSimpArgs false
open Go.RowKit Go.Proofs.Ytpfnfofaajpdmaa.PWi Go.Proofs.YtpfnfofaajpdmaaW.PrintWords Go.Proofs.YtpfnfofaajpdmaaW.PrintLast Go.Proofs.YtpfnfofaajpdmaaW.PrintMore

theorem lns_at {l : List S40} {t : Int} : ∀ (r : List Int) (a : Int) (i : Nat) (hi : i < r.length), chain l t r a → ∃ a' : Int, ok l a' r[i] t = true ∧ (lns l t r a)[i]'(by rw [lns_len]; exact hi) = toL (ln l a' r[i] t)
  | [], a, i => fun hi _ => by simp at hi
  | b :: r, a, 0 => fun hi hc => ⟨a, hc.1, rfl⟩
  | b :: r, a, i + 1 => fun hi hc => by
    obtain ⟨a', h1, h2⟩ := lns_at r b i (by simpa using hi) hc.2
    exact ⟨a', h1, h2⟩
/-- Where each line may be, none is worse than 10000. -/
def mild (l : List S40) (t : Int) (x : S44) : Prop := 0 ≤ x.f1 ∧ x.f1 < (l.length : Int) ∧ en l x.f1 x.f4 ≤ t ∧ (x.f5 < 10000 → en l x.f1 x.f4 = t)
theorem gch_mild {l : List S40} {t tol : Int} : ∀ (r : List Int) (a : Int), gch l t tol r a → chain l t r a ∧ ∀ x ∈ lns l t r a, mild l t x
  | [], a => fun _ => ⟨trivial, fun x hx => by simp [lns] at hx⟩
  | b :: r, a => fun h => by
    have ih := gch_mild r b h.2
    have k := cv_ok h.1
    have hok : ok l a b t = true := k.2.2.2.1
    have hb : (lv l a b t).2.2.2.1 ≤ 10000 := by
      have : mn tol 10000 ≤ 10000 := by unfold mn; split <;> omega
      omega
    have hw := line_wide hok hb
    have hm := mb_in k.1
    refine ⟨⟨hok, ih.1⟩, fun x hx => ?_⟩
    simp only [lns, List.mem_cons] at hx
    rcases hx with rfl | hx
    · have s1 : (toL (ln l a b t)).f1 = b := by unfold ln toL; rw [if_pos hok]
      have s5 : (toL (ln l a b t)).f5 = (lv l a b t).2.2.2.1 := by unfold ln toL; rw [if_pos hok]
      unfold mild
      rw [s1, s5]
      exact ⟨hm.2.2.1, hm.2.2.2.1, hw⟩
    · exact ih.2 x hx
theorem wide_l0 {l : List S40} {t : Int} {ls : List S44} (hl : ls.length ≤ 2000) (h : ∀ x ∈ ls, mild l t x) : ∀ (d i : Nat), i + d = ls.length → Ev (fun k => variorumlaw12_SetterWide.l0 k l t ls (i : Int)) true
  | 0, i => fun hi => by
    refine Ev.step (f := fun _ => some true) (fun k => ?_) (Ev.now _)
    simp only [variorumlaw12_SetterWide.l0]
    rw [if_neg (by omega)]
  | d + 1, i => fun hi => by
    have hil : i < ls.length := by omega
    have hx := h ls[i] (List.getElem_mem hil)
    have e : rd_T44 ls (i : Int) = ls[i] := rd44 hil
    obtain ⟨m0, m1, m2, m3⟩ := hx
    refine Ev.step (fun k => ?_) (wide_l0 hl h d (i + 1) (by omega))
    simp only [variorumlaw12_SetterWide.l0, e]
    rw [if_pos (by omega), if_pos (by omega), if_pos m0, if_pos m1, succ_w i (by omega)]
    unfold en at m2 m3
    by_cases c : (rd_T40 l ls[i].f1).f0 = 2
    · rw [if_pos c] at m2 m3 ⊢
      rw [if_neg (by omega)]
      by_cases c2 : ls[i].f5 < 10000
      · rw [if_pos c2, if_pos (m3 c2)]
      · rw [if_neg c2]
    · rw [if_neg c] at m2 m3 ⊢
      rw [if_neg (by omega)]
      by_cases c2 : ls[i].f5 < 10000
      · rw [if_pos c2, if_pos (m3 c2)]
      · rw [if_neg c2]
theorem wide_yes (l : List S40) (t : Int) : Ev (fun k => variorumlaw12_SetterWide.j0 k l t true) true := by
  refine Ev.step (f := fun k => (variorumlaw12_fixed.f k).bind fun t => some t) (fun k => ?_) (Ev.bind fixed_ev (Ev.now _))
  simp only [variorumlaw12_SetterWide.j0]
  rfl
theorem wide_no {l : List S40} (t : Int) (hm : mi l = true) : Ev (fun k => variorumlaw12_SetterWide.j0 k l t false) true := by
  have hl := mi_len hm
  obtain ⟨r, h1, h2⟩ := break_good hm t
  refine Ev.step (f := fun k => (variorumref11_Break.f k l t).bind fun bt425 => (if bt425.2.2.1 = 0 then ((setter_Lines.f k l bt425.1 t).bind fun bt432 => (if bt432.2.1 = 0 then (variorumlaw12_SetterWide.j1 k l t bt432.1 ((bt432.1.length : Int) != (bt425.1.length : Int))) else (variorumlaw12_SetterWide.j1 k l t bt432.1 true))) else (some true))) (fun k => ?_) (Ev.bind h1 ?_)
  · simp only [variorumlaw12_SetterWide.j0]
    rw [if_neg (by decide)]
  · by_cases c : r.2.2.1 = 0
    · obtain ⟨tol, hz, hg⟩ := h2 c
      have hlen := hg.len
      have g := gch_mild r.1 (-1) hg.ch
      have hne : ¬ (r.1.length : Int) = 0 := by
        intro q
        have e : r.1 = [] := List.length_eq_zero_iff.mp (by omega)
        have := hg.la
        rw [e] at this
        simp only [lastB] at this; omega
      have hf := fn_yes l t r.1.length hne r.1 0 (-1) [] g.1 hg.la
      have hlines : lines l r.1 t = (lns l t r.1 (-1), 0, 0) := by unfold lines; rw [if_pos hm, hf, List.nil_append]
      have hb : r.1.length ≤ 2000 := by omega
      simp only [if_pos c]
      refine Ev.bind (lines_ev l r.1 t hb) ?_
      rw [hlines]
      simp only [if_true, lns_len, bne_self_eq_false]
      refine Ev.step (f := fun k => variorumlaw12_SetterWide.l0 k l t (lns l t r.1 (-1)) 0) (fun k => ?_) ?_
      · simp only [variorumlaw12_SetterWide.j1]
        rw [if_neg (by decide)]
      · exact wide_l0 (by rw [lns_len]; exact hb) g.2 (lns l t r.1 (-1)).length 0 (by omega)
    · simp only [if_neg c]
      exact Ev.now _

theorem SetterWide : variorumlaw12_SetterWide.Pure := by
  intro l t _ _
  refine Ev.rounds (g := fun k => variorumlaw12_SetterWide.f k l t) ?_
  unfold variorumlaw12_SetterWide.f
  refine Ev.bind fixed_ev ?_
  simp only [if_true]
  by_cases c : (l.length : Int) > 100
  · simp only [if_pos c]; exact wide_yes l t
  · simp only [if_neg c]
    refine Ev.bind (rmay9_ev l (by omega)) ?_
    by_cases hm : mi l = true
    · rw [hm]; exact wide_no t hm
    · rw [Bool.eq_false_iff.mpr hm]; exact wide_yes l t

end Go.Proofs.Ytpfnfofaajpdmaa.Pure

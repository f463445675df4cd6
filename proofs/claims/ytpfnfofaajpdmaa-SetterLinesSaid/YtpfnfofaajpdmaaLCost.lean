/- Lines: how one is set, and that it hangs on its own items alone. -/
import Derived.Test.YtpfnfofaajpdmaaPLnx10
import Derived.Test.YtpfnfofaajpdmaaLGlue
namespace Go.Proofs.Ytpfnfofaajpdmaa.Pure
set_option linter.unusedVariables false
set_option linter.unusedSimpArgs false
open Go.RowKit Go.Proofs.Ytpfnfofaajpdmaa.PLn Go.Proofs.YtpfnfofaajpdmaaW.PrintWords Go.Proofs.YtpfnfofaajpdmaaW.PrintLast Go.Proofs.YtpfnfofaajpdmaaW.PrintMore

def lv (l : List S40) (a b w : Int) : T5 := if mb l a b = true then sv (gs l a b) w else (0, 0, 0, 0, false)
theorem line_ev (l : List S40) (a b w : Int) (hl : l.length ≤ 2000) : Ev (fun k => demerit_Line.f k l a b w) (lv l a b w) := by
  unfold demerit_Line.f lv
  refine Ev.bind (may_ev l a b hl) ?_
  by_cases h : mb l a b = true
  · have i := mb_in h
    simp only [if_pos h]
    exact Ev.bind (glues_ev l a b hl (by omega) i.2.2.1 i.2.2.2.1 i.2.2.2.2) (Ev.bind (set_ev _ _) (Ev.now _))
  · simp only [if_neg h]; exact Ev.now _

theorem lv_ok {l : List S40} {a b w : Int} (h : (lv l a b w).2.2.2.2 = true) : mb l a b = true := by
  unfold lv at h
  by_cases c : mb l a b = true
  · exact c
  · rw [if_neg c] at h; exact absurd h (by decide)
theorem lg_same {l m : List S40} {b : Int} (h : ∀ i : Int, 0 ≤ i → i ≤ b → rd_T40 l i = rd_T40 m i) (hl : b < (l.length : Int)) (hm : b < (m.length : Int)) : lg l b = lg m b := by
  by_cases h0 : 0 ≤ b
  · unfold lg
    rw [decide_eq_true hl, decide_eq_true hm, h b h0 (by omega)]
    by_cases h1 : b > 0
    · rw [h (b - 1) (by omega) (by omega)]
    · simp only [if_neg h1]
  · unfold lg; rw [decide_eq_false h0]; rfl
theorem sk_same {l m : List S40} (b : Nat) (h : ∀ i : Nat, i ≤ b → rd_T40 l (i : Int) = rd_T40 m (i : Int)) (hl : b < l.length) (hm : b < m.length) : ∀ (n i : Nat), i + n = b + 1 → (sk l (l.length - i) i ≤ b ↔ sk m (m.length - i) i ≤ b) ∧ (sk l (l.length - i) i ≤ b → sk l (l.length - i) i = sk m (m.length - i) i)
  | 0, i => fun hi => by
    have a1 := le_sk l (l.length - i) i
    have a2 := le_sk m (m.length - i) i
    exact ⟨⟨fun _ => by omega, fun _ => by omega⟩, fun _ => by omega⟩
  | n + 1, i => fun hi => by
    have e1 : l.length - i = (l.length - (i + 1)) + 1 := by omega
    have e2 : m.length - i = (m.length - (i + 1)) + 1 := by omega
    rw [e1, e2]
    simp only [sk]
    rw [h i (by omega)]
    split
    · exact ⟨Iff.rfl, fun _ => rfl⟩
    · exact sk_same b h hl hm n (i + 1) (by omega)
theorem st_same {l m : List S40} {a b : Int} (h : ∀ i : Int, 0 ≤ i → i ≤ b → rd_T40 l i = rd_T40 m i) (h0 : 0 ≤ b) (hl : b < (l.length : Int)) (hm : b < (m.length : Int)) (ha : a < b) : ((st l a : Int) ≤ b ↔ (st m a : Int) ≤ b) ∧ ((st l a : Int) ≤ b → st l a = st m a) := by
  unfold st
  rw [if_neg (by omega), if_neg (by omega)]
  have f : from_ a ≤ b.toNat := by unfold from_ mx; split <;> omega
  have := sk_same b.toNat (fun i hi => h i (by omega) (by omega)) (by omega) (by omega) (b.toNat + 1 - from_ a) (from_ a) (by omega)
  refine ⟨⟨fun x => ?_, fun x => ?_⟩, fun x => this.2 (by omega)⟩
  · have := this.1.1 (by omega); omega
  · have := this.1.2 (by omega); omega
theorem nf_same {l m : List S40} (b : Nat) (h : ∀ i : Nat, i ≤ b → rd_T40 l (i : Int) = rd_T40 m (i : Int)) : ∀ (d i : Nat), i + d ≤ b → nf l d i = nf m d i
  | 0, _ => fun _ => rfl
  | d + 1, i => fun hi => by simp only [nf]; rw [h i (by omega), nf_same b h d (i + 1) (by omega)]
theorem cl_same {l m : List S40} (b : Nat) (h : ∀ i : Nat, i ≤ b → rd_T40 l (i : Int) = rd_T40 m (i : Int)) : ∀ (d i : Nat), i + d ≤ b → cl l d i = cl m d i
  | 0, _ => fun _ => rfl
  | d + 1, i => fun hi => by simp only [cl]; rw [h i (by omega), cl_same b h d (i + 1) (by omega)]
theorem mb_same {l m : List S40} {a b : Int} (h : ∀ i : Int, 0 ≤ i → i ≤ b → rd_T40 l i = rd_T40 m i) (h0 : 0 ≤ b) (hl : b < (l.length : Int)) (hm : b < (m.length : Int)) : mb l a b = mb m a b := by
  by_cases ha : a < b
  · have e1 : lg l a = lg m a := lg_same (fun i i0 i1 => h i i0 (by omega)) (by omega) (by omega)
    have e2 : lg l b = lg m b := lg_same h hl hm
    have e3 := st_same h h0 hl hm ha
    unfold mb
    rw [e1, e2]
    by_cases hA : (decide (a = -1) || lg m a) = true
    · have a1 : -1 ≤ a := by
        simp only [Bool.or_eq_true, decide_eq_true_eq] at hA
        rcases hA with c | c
        · omega
        · have := lg_in c; omega
      rw [nf_same b.toNat (fun i hi => h i (by omega) (by omega)) _ _ (by omega : (a + 1).toNat + (b.toNat - (a + 1).toNat) ≤ b.toNat)]
      rw [decide_eq_decide.2 e3.1]
    · rw [Bool.eq_false_iff.mpr hA]; rfl
  · unfold mb; rw [decide_eq_false ha]; simp
theorem lv_same {l m : List S40} {a b : Int} (w : Int) (h : ∀ i : Int, 0 ≤ i → i ≤ b → rd_T40 l i = rd_T40 m i) (h0 : 0 ≤ b) (hl : b < (l.length : Int)) (hm : b < (m.length : Int)) : lv l a b w = lv m a b w := by
  unfold lv
  rw [mb_same h h0 hl hm]
  by_cases c : mb m a b = true
  · rw [if_pos c, if_pos c]
    have c' : mb l a b = true := by rw [mb_same h h0 hl hm]; exact c
    have i := mb_in c'
    have e := (st_same h h0 hl hm i.2.1).2 i.2.2.2.2
    have e2 : gs l a b = gs m a b := by
      unfold gs gt
      rw [h b h0 (Int.le_refl _), e, cl_same b.toNat (fun i hi => h i (by omega) (by omega)) (b.toNat - st m a) (st m a) (by omega)]
    rw [e2]
  · rw [if_neg c, if_neg c]

end Go.Proofs.Ytpfnfofaajpdmaa.Pure

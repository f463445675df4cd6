/- The best breaks, as far as a line's width needs them: there are some or none, and each of their lines may be, at a badness of 10000 at most. -/
import Derived.Test.YtpfnfofaajpdmaaVRef
import Derived.Test.YtpfnfofaajpdmaaVLine
namespace Go.Proofs.Ytpfnfofaajpdmaa.Pure
set_option linter.unusedVariables false
set_option linter.unusedSimpArgs false
open Go.RowKit Go.Proofs.Ytpfnfofaajpdmaa.PWi Go.Proofs.YtpfnfofaajpdmaaW.PrintWords Go.Proofs.YtpfnfofaajpdmaaW.PrintLast Go.Proofs.YtpfnfofaajpdmaaW.PrintMore

def gch (l : List S40) (w tol : Int) : List Int → Int → Prop
  | [], _ => True
  | b :: r, a => (cv l a b w tol).2.2 = true ∧ gch l w tol r b
structure Good (l : List S40) (w tol : Int) (a : Int) (bs : List Int) : Prop where
  ch : gch l w tol bs a
  la : lastB bs a = (l.length : Int) - 1
  len : (bs.length : Int) ≤ (l.length : Int) - 1 - a
structure Inv (l : List S40) (w tol : Int) (T : List WL) : Prop where
  len : T.length = 4 * (l.length + 1)
  val : ∀ r c : Nat, r ≤ l.length → c < 4 → (wg T (4 * r + c)).ok = true → Good l w tol ((r : Int) - 1) (wg T (4 * r + c)).bs
theorem put_is {T : List WL} {j : Nat} (h : j < T.length) (m : Int) (bs : List Int) (i : Nat) : wg (rb.put T j m bs) i = wg T i ∨ (i = j ∧ wg (rb.put T j m bs) i = ⟨true, m, bs⟩) := by
  unfold rb.put
  by_cases e : i = j
  · subst e
    split
    · split
      · right; rw [wg_set h, if_pos rfl]; exact ⟨rfl, rfl⟩
      · left; rfl
    · right; rw [wg_set h, if_pos rfl]; exact ⟨rfl, rfl⟩
  · left
    split
    · split
      · rw [wg_set h, if_neg e]
      · rfl
    · rw [wg_set h, if_neg e]
theorem put_inv {l : List S40} {w tol : Int} {T : List WL} (h : Inv l w tol T) {r i : Nat} (hr : r ≤ l.length) (hi : i < 4) (m : Int) {bs : List Int} (hb : Good l w tol ((r : Int) - 1) bs) : Inv l w tol (rb.put T (4 * r + i) m bs) := by
  have hj : 4 * r + i < T.length := by rw [h.len]; omega
  refine ⟨by rw [rb.put_len, h.len], fun x y hx hy ho => ?_⟩
  rcases put_is hj m bs (4 * x + y) with e | ⟨e, e2⟩
  · rw [e] at ho ⊢; exact h.val x y hx hy ho
  · have ex : x = r := by omega
    rw [e2, ex]; exact hb
theorem apart_some (c h : Int) : ∃ t, variorumref10_Apart.f c h = some t := by
  unfold variorumref10_Apart.f
  repeat' split
  all_goals exact ⟨_, rfl⟩
theorem wl_inv {l : List S40} {w tol : Int} {r : Nat} (hr : r ≤ l.length) (d e : Int) (bs : List Int) (b c : Int) (hb : Good l w tol ((r : Int) - 1) (b :: bs)) :
    ∀ (m i : Nat) (T : List WL), i + m = 4 → Inv l w tol T → ∃ T', rb.l (m + 1) (4 * r) d e bs b c T (i : Int) = some T' ∧ Inv l w tol T'
  | 0, i, T => fun hi h => by
    have e4 : i = 4 := by omega
    subst e4
    exact ⟨T, by simp only [rb.l]; rw [if_neg (by decide)], h⟩
  | m + 1, i, T => fun hi h => by
    obtain ⟨t, ht⟩ := apart_some c (i : Int)
    obtain ⟨T', h1, h2⟩ := wl_inv hr d e bs b c hb m (i + 1) _ (by omega) (put_inv h hr (i := i) (by omega) (wrap64 (wrap64 (d + t) + e)) hb)
    refine ⟨T', ?_, h2⟩
    rw [← h1]
    simp only [rb.l]
    rw [if_pos (by omega), if_pos (by omega), ht, succ_w i (by omega)]
    simp only [Option.bind_some, Int.toNat_natCast]
theorem wopt_inv {l : List S40} {w tol : Int} {T : List WL} (hl : l.length ≤ 2000) (h : Inv l w tol T) {r b : Nat} (hrb : r ≤ b) (hb : b < l.length) {d c : Int} (hc : 0 ≤ c ∧ c ≤ 3) (hk : (cv l ((r : Int) - 1) (b : Int) w tol).2.2 = true) :
    ∃ T', rb.opt l T ((r : Int) - 1) (b : Int) d c = some T' ∧ Inv l w tol T' := by
  obtain ⟨c, rfl⟩ : ∃ n : Nat, c = n := ⟨c.toNat, by omega⟩
  have er : (4 * ((r : Int) - 1 + 1).toNat) = 4 * r := by omega
  unfold rb.opt
  rw [if_pos hc.1, if_pos (show (c : Int) < 4 by omega), er]
  by_cases ho : (rb.rest l T (b : Int) (c : Int)).ok = true
  · have hg : Good l w tol (b : Int) (rb.rest l T (b : Int) (c : Int)).bs := by
      unfold rb.rest at ho ⊢
      by_cases q : (b : Int) = (l.length : Int) - 1
      · rw [if_pos q]; exact ⟨trivial, q, by simp only [List.length_nil]; omega⟩
      · have e1 : ((b : Int) + 1).toNat = b + 1 := by omega
        rw [if_neg q, e1, Int.toNat_natCast] at ho ⊢
        have := h.val (b + 1) c (by omega) (by omega) ho
        rwa [show ((b + 1 : Nat) : Int) - 1 = (b : Int) by omega] at this
    have hlen := hg.len
    rw [if_pos ho, if_pos (by omega)]
    exact wl_inv (by omega) d _ _ _ _ ⟨⟨hk, hg.ch⟩, hg.la, by rw [List.length_cons]; omega⟩ 4 0 T (by omega) h
  · rw [if_neg ho]; exact ⟨T, rfl, h⟩
theorem wrow_inv {l : List S40} (hl : l.length ≤ 2000) (w tol : Int) {r : Nat} : ∀ (d b : Nat) (T : List WL), b + d = l.length → r ≤ b → Inv l w tol T →
    ∃ T', Ev (fun k => rb.lb k l w tol ((r : Int) - 1) T (b : Int)) T' ∧ Inv l w tol T'
  | 0, b, T => fun hi hab hT => by
    refine ⟨T, Ev.step (f := fun _ => some T) (fun k => ?_) (Ev.now _), hT⟩
    simp only [rb.lb]
    rw [if_neg (by omega)]
  | d + 1, b, T => fun hi hab hT => by
    have g1 : (b : Int) < (l.length : Int) := by omega
    have g0 : (0 : Int) ≤ (b : Int) := by omega
    have sw : wrap64 ((b : Int) + 1) = ((b + 1 : Nat) : Int) := succ_w b (by omega)
    have step : ∀ k, rb.lb (k + 1) l w tol ((r : Int) - 1) T (b : Int) = (variorumref10_Cost.f k l ((r : Int) - 1) (b : Int) w tol).bind fun x => (if x.2.2 = true then rb.opt l T ((r : Int) - 1) (b : Int) x.1 x.2.1 else some T).bind fun T1 => rb.lb k l w tol ((r : Int) - 1) T1 ((b + 1 : Nat) : Int) := by
      intro k
      simp only [rb.lb]
      rw [if_pos g1, if_pos g0, sw]
    by_cases hk : (cv l ((r : Int) - 1) (b : Int) w tol).2.2 = true
    · have k := cv_ok hk
      have hc : 0 ≤ (cv l ((r : Int) - 1) (b : Int) w tol).2.1 ∧ (cv l ((r : Int) - 1) (b : Int) w tol).2.1 ≤ 3 := by rw [k.2.2.1]; exact cs_in _ _
      obtain ⟨T1, h1, hT1⟩ := wopt_inv hl hT hab (by omega) (d := (cv l ((r : Int) - 1) (b : Int) w tol).1) hc hk
      obtain ⟨T', h2, hT2⟩ := wrow_inv (r := r) hl w tol d (b + 1) T1 (by omega) (by omega) hT1
      refine ⟨T', Ev.step step (Ev.bind (rcost_ev l _ _ w tol hl) ?_), hT2⟩
      rw [if_pos hk, h1]
      exact h2
    · obtain ⟨T', h2, hT2⟩ := wrow_inv (r := r) hl w tol d (b + 1) T (by omega) (by omega) hT
      refine ⟨T', Ev.step step (Ev.bind (rcost_ev l _ _ w tol hl) ?_), hT2⟩
      rw [if_neg hk]
      exact h2
theorem wall_inv {l : List S40} (hl : l.length ≤ 2000) (w tol : Int) : ∀ (m : Nat) (T : List WL), m ≤ l.length + 1 → Inv l w tol T → ∃ T', Ev (fun k => rb.la k l w tol T ((m : Int) - 2)) T' ∧ Inv l w tol T'
  | 0, T => fun _ hT => by
    refine ⟨T, Ev.step (f := fun _ => some T) (fun k => ?_) (Ev.now _), hT⟩
    simp only [rb.la]
    rw [if_neg (by omega)]
  | m + 1, T => fun hmn hT => by
    have g0 : ((m + 1 : Nat) : Int) - 2 ≥ -1 := by omega
    have g1 : ((m + 1 : Nat) : Int) - 2 < (l.length : Int) := by omega
    have ew : wrap64 (((m + 1 : Nat) : Int) - 2 - 1) = (m : Int) - 2 := by rw [wrap_small (by omega)]; omega
    have em : ((m + 1 : Nat) : Int) - 2 = (m : Int) - 1 := by omega
    have e1 : (m : Int) - 1 + 1 = (m : Int) := by omega
    have ht : ∃ t, Ev (fun k => rb.t k l ((m : Int) - 1)) t := by
      unfold rb.t
      by_cases q : (m : Int) - 1 ≥ 0
      · simp only [if_pos q]; exact ⟨_, rlegal_ev l _ hl⟩
      · simp only [if_neg q]; exact ⟨_, Ev.now _⟩
    obtain ⟨t, ht⟩ := ht
    have step : ∀ k, rb.la (k + 1) l w tol T (((m + 1 : Nat) : Int) - 2) = (rb.t k l ((m : Int) - 1)).bind fun t => (if t = true then rb.lb k l w tol ((m : Int) - 1) T (m : Int) else some T).bind fun T1 => rb.la k l w tol T1 ((m : Int) - 2) := by
      intro k
      simp only [rb.la]
      rw [if_pos g0, if_pos g1, ew, em, e1]
    cases t with
    | true =>
      obtain ⟨T1, h1, hT1⟩ := wrow_inv (r := m) hl w tol (l.length - m) m T (by omega) (Nat.le_refl _) hT
      obtain ⟨T', h2, hT2⟩ := wall_inv hl w tol m T1 (by omega) hT1
      refine ⟨T', Ev.step step (Ev.bind ht ?_), hT2⟩
      simp only [if_true]
      exact Ev.bind h1 h2
    | false =>
      obtain ⟨T', h2, hT2⟩ := wall_inv hl w tol m T (by omega) hT
      refine ⟨T', Ev.step step (Ev.bind ht ?_), hT2⟩
      simp only [Bool.false_eq_true, if_false, Option.bind_some]
      exact h2
theorem best_good {l : List S40} (hm : mi l = true) (w tol : Int) : ∃ r, Ev (fun k => variorumref11_Best.f k l w tol) r ∧ (r.2.2 = true → ¬ l.length = 0 ∧ Good l w tol (-1) r.1) := by
  have hl := mi_len hm
  by_cases h0 : l.length = 0
  · refine ⟨([], 0, false), ?_, fun h => by cases h⟩
    unfold variorumref11_Best.f
    refine Ev.bind (rmay9_ev l (by omega)) ?_
    simp only [hm, if_true, if_pos h0]
    exact Ev.now _
  · have h00 : Inv l w tol (List.replicate (4 * (l.length + 1)) WL0) := by
      refine ⟨List.length_replicate .., fun r c _ _ ho => ?_⟩
      have : wg (List.replicate (4 * (l.length + 1)) WL0) (4 * r + c) = WL0 := by
        unfold wg
        rw [List.getD_eq_getElem?_getD, List.getElem?_replicate]
        split <;> rfl
      rw [this] at ho; cases ho
    obtain ⟨T, h1, hT⟩ := wall_inv hl w tol (l.length + 1) _ (Nat.le_refl _) h00
    rw [show ((l.length + 1 : Nat) : Int) - 2 = (l.length : Int) - 1 by omega] at h1
    refine ⟨((wg T 2).bs, (wg T 2).dm, (wg T 2).ok), ?_, fun h => ⟨h0, hT.val 0 2 (by omega) (by omega) h⟩⟩
    unfold variorumref11_Best.f
    refine Ev.bind (rmay9_ev l (by omega)) ?_
    simp only [hm, if_true, if_neg h0, if_pos (show l.length ≤ 100000 by omega)]
    exact Ev.bind h1 (Ev.now _)
theorem break_good {l : List S40} (hm : mi l = true) (w : Int) : ∃ r, Ev (fun k => variorumref11_Break.f k l w) r ∧ (r.2.2.1 = 0 → ∃ tol, ¬ l.length = 0 ∧ Good l w tol (-1) r.1) := by
  have hl := mi_len hm
  obtain ⟨r1, h1, g1⟩ := best_good hm w 200
  obtain ⟨r2, h2, g2⟩ := best_good hm w 10000
  unfold variorumref11_Break.f
  by_cases c1 : r1.2.2 = true
  · refine ⟨(r1.1, false, 0, 0), Ev.bind (rmay9_ev l (by omega)) ?_, fun _ => ⟨200, g1 c1⟩⟩
    simp only [hm, if_true]
    refine Ev.bind h1 ?_
    simp only [if_pos c1]
    exact Ev.now _
  · by_cases c2 : r2.2.2 = true
    · refine ⟨(r2.1, true, 0, 0), Ev.bind (rmay9_ev l (by omega)) ?_, fun _ => ⟨10000, g2 c2⟩⟩
      simp only [hm, if_true]
      refine Ev.bind h1 ?_
      simp only [if_neg c1]
      refine Ev.bind h2 ?_
      simp only [if_pos c2]
      exact Ev.now _
    · refine ⟨([], false, 110, 0), Ev.bind (rmay9_ev l (by omega)) ?_, fun h => absurd h (by decide)⟩
      simp only [hm, if_true]
      refine Ev.bind h1 ?_
      simp only [if_neg c1]
      refine Ev.bind h2 ?_
      simp only [if_neg c2]
      exact Ev.now _
end Go.Proofs.Ytpfnfofaajpdmaa.Pure

/- SetterKeeps: what may be set keeps every box once, in its order; no box lies ahead of the end of the one before; lines follow one another and end at their breaks. -/
import Derived.Test.YtpfnfofaajpdmaaPKex13
import Derived.Test.YtpfnfofaajpdmaaSLine
namespace Go.Proofs.Ytpfnfofaajpdmaa.Pure
set_option linter.unusedVariables false
set_option linter.unusedSimpArgs false
open Go.RowKit Go.Proofs.Ytpfnfofaajpdmaa.PKe Go.Proofs.YtpfnfofaajpdmaaW.PrintWords Go.Proofs.YtpfnfofaajpdmaaW.PrintLast Go.Proofs.YtpfnfofaajpdmaaW.PrintMore

/-! ## The boxes' keys -/
def k42 (x : S42) : Int × Int × Int := (x.f0, x.f1, x.f3)
def k40 (x : S40) : Int × Int × Int := (x.f4, x.f5, x.f1.f0)
theorem bl_keys (l : List S40) (w : List Int) : ∀ d i j X, (bl l w d i j X).1.map k42 = (bx l d i).map k40
  | 0, _, _, _ => rfl
  | d + 1, i, j, X => by
    have h1 := bl_keys l w d (i + 1) (j + 1) (wrap64 (X + rd w (j : Int)))
    have h2 := bl_keys l w d (i + 1) j X
    simp only [bl, bx]
    by_cases c : (rd_T40 l (i : Int)).f0 = 0
    · rw [if_pos c, if_pos c, List.map_cons, h1]; rfl
    · rw [if_neg c, if_neg c, List.nil_append]
      split
      · exact h1
      · exact h2
theorem bx_add (l : List S40) : ∀ d e i, bx l (d + e) i = bx l d i ++ bx l e (i + d)
  | 0, e, i => by rw [Nat.zero_add, Nat.add_zero]; rfl
  | d + 1, e, i => by
    have h := bx_add l d e (i + 1)
    rw [show d + 1 + e = (d + e) + 1 by omega, show i + (d + 1) = i + 1 + d by omega]
    simp only [bx, h, List.append_assoc]
theorem sk_gap (l : List S40) : ∀ d i, bx l (sk l d i - i) i = []
  | 0, i => by simp only [sk, Nat.sub_self]; rfl
  | d + 1, i => by
    have h := sk_gap l d (i + 1)
    have hle := le_sk l d (i + 1)
    simp only [sk]
    by_cases c : hit (rd_T40 l (i : Int)) = true
    · rw [if_pos c, Nat.sub_self]; rfl
    · rw [if_neg c, show sk l d (i + 1) - i = (sk l d (i + 1) - (i + 1)) + 1 by omega]
      have c0 : ¬ (rd_T40 l (i : Int)).f0 = 0 := fun e => c (by unfold hit; rw [decide_eq_true e]; rfl)
      simp only [bx, if_neg c0, h, List.append_nil]
theorem lg_box {l : List S40} {b : Int} (h : lg l b = true) : ¬ (rd_T40 l b).f0 = 0 := by
  unfold lg at h
  simp only [Bool.and_eq_true] at h
  intro e
  have := h.2.2
  rw [e] at this
  simp at this
theorem mb_lg {l : List S40} {a b : Int} (h : mb l a b = true) : lg l b = true := by
  unfold mb at h
  simp only [Bool.and_eq_true] at h
  exact h.2.1
theorem st_from {l : List S40} {a : Int} (ha : -1 ≤ a) (hl : a < (l.length : Int)) : st l a = sk l (l.length - (a + 1).toNat) (a + 1).toNat := by
  unfold st
  rw [if_neg (by omega)]
  have e : from_ a = (a + 1).toNat := by unfold from_ mx; split <;> congr 1 <;> omega
  rw [e]
theorem st_ge {l : List S40} {a : Int} (ha : -1 ≤ a) (hl : a < (l.length : Int)) : (a + 1).toNat ≤ st l a := by
  rw [st_from ha hl]; exact le_sk _ _ _
theorem line_keys {l : List S40} {a b t : Int} (h : ok l a b t = true) : (toL (ln l a b t)).f2.map k42 = (bx l (b - a).toNat (a + 1).toNat).map k40 := by
  have hm := (ok_in h).1
  have hb := mb_in hm
  have hlg := lg_box (mb_lg hm)
  have g1 := st_from (l := l) hb.1 (by omega)
  have g2 := st_ge (l := l) hb.1 (by omega)
  have g3 := sk_gap l (l.length - (a + 1).toNat) (a + 1).toNat
  rw [← g1] at g3
  have e1 : (b - a).toNat = (st l a - (a + 1).toNat) + ((b.toNat - st l a) + 1) := by omega
  have e2 : (a + 1).toNat + (st l a - (a + 1).toNat) = st l a := by omega
  have e3 : st l a + (b.toNat - st l a) = b.toNat := by omega
  rw [e1, bx_add, g3, List.nil_append, e2, bx_add, e3]
  have e4 : bx l 1 b.toNat = [] := by
    simp only [bx]
    rw [show ((b.toNat : Nat) : Int) = b by omega, if_neg hlg]; rfl
  rw [e4, List.append_nil]
  have : (toL (ln l a b t)).f2 = (lb l a b t).1 := by unfold ln toL; rw [if_pos h]
  rw [this]
  exact bl_keys _ _ _ _ _ _
theorem all_keys {l : List S40} {t : Int} : ∀ (r : List Int) (a : Int), -1 ≤ a → a < (l.length : Int) → chain l t r a → lastB r a = (l.length : Int) - 1 → ((lns l t r a).flatMap (·.f2)).map k42 = (bx l (l.length - (a + 1).toNat) (a + 1).toNat).map k40
  | [], a => fun ha hl hc hlast => by
    simp only [lastB] at hlast
    rw [show l.length - (a + 1).toNat = 0 by omega]; rfl
  | b :: r, a => fun ha hl hc hlast => by
    have hb := mb_in (ok_in hc.1).1
    have ih := all_keys r b (by omega) hb.2.2.2.1 hc.2 hlast
    simp only [lns, List.flatMap_cons, List.map_append]
    rw [ih, line_keys hc.1, ← List.map_append]
    have e1 : l.length - (a + 1).toNat = (b - a).toNat + (l.length - (b + 1).toNat) := by omega
    have e2 : (a + 1).toNat + (b - a).toNat = (b + 1).toNat := by omega
    rw [e1, bx_add, e2]

/-! ## No box ahead of the end of the one before -/
def Ch : List S42 → Int → Int → Prop
  | [], p, e => p ≤ e
  | x :: r, p, e => p ≤ x.f2 ∧ wrap64 (x.f2 + x.f3) = x.f2 + x.f3 ∧ Ch r (x.f2 + x.f3) e
theorem ar_all (l : List S40) : ∀ d i, ar l d i = true → ∀ j, i ≤ j → j < i + d → ri (rd_T40 l (j : Int)) = true
  | 0, i => fun _ j h1 h2 => by omega
  | d + 1, i => fun h j h1 h2 => by
    simp only [ar, Bool.and_eq_true] at h
    by_cases e : j = i
    · rw [e]; exact h.1
    · exact ar_all l d (i + 1) h.2 j (by omega) (by omega)
theorem mi_ri {l : List S40} (h : mi l = true) (j : Nat) (hj : j < l.length) : ri (rd_T40 l (j : Int)) = true := by
  unfold mi at h
  simp only [Bool.and_eq_true] at h
  exact ar_all l _ _ h.2.1 j (by omega) (by omega)
theorem ri_box {x : S40} (h : ri x = true) (c : x.f0 = 0) : x.f1.f2 = 0 ∧ 0 ≤ x.f1.f0 ∧ x.f1.f0 ≤ 1073741823 := by
  unfold ri rj at h
  rw [if_pos c] at h
  simp only [Bool.and_eq_true] at h
  have hp := h.1
  unfold pl at hp
  simp only [Bool.and_eq_true, beq_iff_eq] at hp
  exact ⟨hp.2.1, am_iff.1 hp.2.2.2⟩
theorem ri_glue {x : S40} (h : ri x = true) (c : x.f0 = 1) : x.f1.f2 ≤ x.f1.f0 := by
  unfold ri rj at h
  rw [if_neg (by omega), if_pos c] at h
  simp only [Bool.and_eq_true, decide_eq_true_eq] at h
  exact h.2.1
theorem rd38_drop {g r : List S38} {x : S38} {j : Nat} (h : g.drop j = x :: r) : j < g.length ∧ rd_T38 g (j : Int) = x ∧ g.drop (j + 1) = r := by
  have hlen := congrArg List.length h
  rw [List.length_drop, List.length_cons] at hlen
  have h1 := congrArg List.head? h
  rw [List.head?_drop] at h1
  have h2 := congrArg List.tail h
  rw [List.tail_drop] at h2
  refine ⟨by omega, ?_, h2⟩
  unfold rd_T38
  rw [Int.toNat_natCast, List.getD_eq_getElem?_getD, h1]; rfl
theorem bl_ch (l : List S40) (g : List S38) (w : List Int) (hg : g.length ≤ 2000) (hr : ∀ j : Nat, j < l.length → ri (rd_T40 l (j : Int)) = true)
    (hw : ∀ j : Nat, j < g.length → (rd_T38 g (j : Int)).f0 - (rd_T38 g (j : Int)).f2 ≤ rd w (j : Int) ∧ rd w (j : Int) ≤ 4294967296) :
    ∀ (d i j : Nat) (p X : Int), i + d ≤ l.length → j ≤ g.length → (∃ s, g.drop j = cl l d i ++ s) → 0 ≤ X → X ≤ (j : Int) * 4294967296 → p ≤ X → Ch (bl l w d i j X).1 p (bl l w d i j X).2
  | 0, i, j, p, X => fun hi hj hs h0 hX hp => hp
  | d + 1, i, j, p, X => fun hi hj hs h0 hX hp => by
    obtain ⟨s, hs⟩ := hs
    have r := hr i (by omega)
    simp only [cl] at hs
    simp only [bl]
    by_cases c0 : (rd_T40 l (i : Int)).f0 = 0
    · rw [if_pos c0] at hs
      have q := rd38_drop (r := cl l d (i + 1) ++ s) (x := (rd_T40 l (i : Int)).f1) (by rw [hs]; rfl)
      have b := ri_box r c0
      have ww := hw j q.1
      rw [q.2.1] at ww
      have e : wrap64 (X + rd w (j : Int)) = X + rd w (j : Int) := wrap_small (by omega)
      rw [if_pos c0, e]
      refine ⟨hp, show wrap64 (X + (rd_T40 l (i : Int)).f1.f0) = X + (rd_T40 l (i : Int)).f1.f0 from wrap_small (by omega), ?_⟩
      exact bl_ch l g w hg hr hw d (i + 1) (j + 1) _ _ (by omega) (by omega) ⟨s, q.2.2⟩ (by omega) (by omega) (by show X + (rd_T40 l (i : Int)).f1.f0 ≤ _; omega)
    · rw [if_neg c0] at hs
      by_cases c1 : (rd_T40 l (i : Int)).f0 = 1
      · rw [if_pos c1] at hs
        have q := rd38_drop (r := cl l d (i + 1) ++ s) (x := (rd_T40 l (i : Int)).f1) (by rw [hs]; rfl)
        have b := ri_glue r c1
        have ww := hw j q.1
        rw [q.2.1] at ww
        have e : wrap64 (X + rd w (j : Int)) = X + rd w (j : Int) := wrap_small (by omega)
        rw [if_neg c0, if_pos c1, e]
        exact bl_ch l g w hg hr hw d (i + 1) (j + 1) _ _ (by omega) (by omega) ⟨s, q.2.2⟩ (by omega) (by omega) (by omega)
      · rw [if_neg c1, List.nil_append] at hs
        rw [if_neg c0, if_neg c1]
        exact bl_ch l g w hg hr hw d (i + 1) j _ _ (by omega) hj ⟨s, hs⟩ h0 hX hp
theorem sv_len {g : List S38} {t : Int} (h : (sv g t).2.2.2.2 = true) : g.length ≤ 2000 := (my_all (sv_my h)).1
theorem line_ch {l : List S40} (hm : mi l = true) {a b t : Int} (h : ok l a b t = true) : Ch (toL (ln l a b t)).f2 0 (toL (ln l a b t)).f4 := by
  obtain ⟨hmb, hs⟩ := ok_in h
  have hb := mb_in hmb
  have e1 : (toL (ln l a b t)).f2 = (lb l a b t).1 := by unfold ln toL; rw [if_pos h]
  have e2 : (toL (ln l a b t)).f4 = (lb l a b t).2 := by unfold ln toL; rw [if_pos h]
  rw [e1, e2]
  unfold lb
  exact bl_ch l (gs l a b) _ (sv_len hs) (fun j hj => mi_ri hm j hj) (fun j hj => ws_ge hs j hj) (b.toNat - st l a) (st l a) 0 0 0 (by omega) (by omega) ⟨gt l b, by rw [List.drop_zero]; rfl⟩ (by omega) (by omega) (by omega)

/-! ## A line among its fellows -/
theorem lns_at {l : List S40} {t : Int} : ∀ (r : List Int) (a : Int) (i : Nat) (hi : i < r.length), -1 ≤ a → chain l t r a → ∃ a' : Int, -1 ≤ a' ∧ (i = 0 → a' = a) ∧ (∀ j (hj : j + 1 = i), a' = r[j]) ∧ ok l a' r[i] t = true ∧ (lns l t r a)[i]'(by rw [lns_len]; exact hi) = toL (ln l a' r[i] t)
  | [], a, i => fun hi _ _ => by simp at hi
  | b :: r, a, 0 => fun hi ha hc => ⟨a, ha, fun _ => rfl, fun j hj => by omega, hc.1, rfl⟩
  | b :: r, a, i + 1 => fun hi ha hc => by
    have hb := mb_in (ok_in hc.1).1
    obtain ⟨a', h1, h2, h3, h4, h5⟩ := lns_at r b i (by simpa using hi) (by omega) hc.2
    refine ⟨a', h1, fun h => by omega, fun j hj => ?_, h4, h5⟩
    cases j with
    | zero => exact h2 (by omega)
    | succ j => exact h3 j (by omega)
theorem ln_shape {l : List S40} {a b t : Int} (h : ok l a b t = true) : (toL (ln l a b t)).f0 = (st l a : Int) ∧ (toL (ln l a b t)).f1 = b := by
  unfold ln toL
  rw [if_pos h]
  exact ⟨rfl, rfl⟩

/-! ## The law's loops -/
theorem keeps_l2 (bs : List Int) (ls : List S44) (i : Nat) (f0 f1 : Int) (f2 : List S42) (f3 : Bool) (f4 f5 : Int) (hf : f2.length ≤ 2000)
    (hend : Ev (fun k => if (i : Int) > 0 then (if 0 ≤ (wrap64 ((i : Int) - 1)) then (if (wrap64 ((i : Int) - 1)) < (ls.length : Int) then (if ((rd_T44 ls (wrap64 ((i : Int) - 1))).f1) ≥ f0 then (none) else (if 0 ≤ (i : Int) then (if (i : Int) < (bs.length : Int) then (if f1 = (rd bs (i : Int)) then (if f0 > f1 then (none) else (variorumlaw12_SetterKeeps.l1 k bs ls (wrap64 ((i : Int) + 1)))) else (none)) else (none)) else (none))) else (none)) else (none)) else (if 0 ≤ (i : Int) then (if (i : Int) < (bs.length : Int) then (if f1 = (rd bs (i : Int)) then (if f0 > f1 then (none) else (variorumlaw12_SetterKeeps.l1 k bs ls (wrap64 ((i : Int) + 1)))) else (none)) else (none)) else (none))) true) :
    ∀ (d q : Nat) (p : Int), q + d = f2.length → Ch (f2.drop q) p f4 → Ev (fun k => variorumlaw12_SetterKeeps.l2 k bs ls (i : Int) p (q : Int) f0 f1 f2 f3 f4 f5) true := by
  intro d
  induction d with
  | zero =>
    intro q p hq hc
    rw [List.drop_of_length_le (by omega)] at hc
    have hc : p ≤ f4 := hc
    refine Ev.step (fun k => ?_) hend
    simp only [variorumlaw12_SetterKeeps.l2]
    rw [if_neg (show ¬ (q : Int) < (f2.length : Int) by omega), if_neg (show ¬ f4 < p by omega)]
  | succ d ih =>
    intro q p hq hc
    have hql : q < f2.length := by omega
    rw [List.drop_eq_getElem_cons hql] at hc
    have g1 : (q : Int) < (f2.length : Int) := by omega
    have g2 : (0 : Int) ≤ (q : Int) := by omega
    have h := ih (q + 1) _ (by omega) hc.2.2
    refine Ev.step (fun k => ?_) h
    simp only [variorumlaw12_SetterKeeps.l2]
    rw [if_pos g1, if_pos g2, rd42 hql, if_neg (by have := hc.1; omega), hc.2.1, succ_w q (by omega)]
theorem keeps_l1 {l : List S40} (hm : mi l = true) {bs : List Int} (hb : bs.length ≤ 2000) {t : Int} (hc : chain l t bs (-1)) :
    ∀ (d i : Nat), i + d = bs.length → Ev (fun k => variorumlaw12_SetterKeeps.l1 k bs (lns l t bs (-1)) (i : Int)) true := by
  have hl := mi_len hm
  have hlen := lns_len l t bs (-1)
  intro d
  induction d with
  | zero =>
    intro i hi
    refine Ev.step (f := fun _ => some true) (fun k => ?_) (Ev.now _)
    simp only [variorumlaw12_SetterKeeps.l1]
    rw [if_neg (by omega)]
  | succ d ih =>
    intro i hi
    have hib : i < bs.length := by omega
    have hil : i < (lns l t bs (-1)).length := by omega
    have g1 : (i : Int) < ((lns l t bs (-1)).length : Int) := by omega
    have g2 : (0 : Int) ≤ (i : Int) := by omega
    have g4 : (i : Int) < (bs.length : Int) := by omega
    obtain ⟨a, ha, h1, h2, h3, h4⟩ := lns_at bs (-1) i hib (by omega) hc
    have hmb := mb_in (ok_in h3).1
    have sh := ln_shape h3
    have hch := line_ch hm h3
    have hbx := ln_boxes l a bs[i] t hl
    have hge := st_ge (l := l) ha (by omega)
    have e : rd_T44 (lns l t bs (-1)) (i : Int) = toL (ln l a bs[i] t) := by rw [rd44 hil, h4]
    have k1 : (toL (ln l a bs[i] t)).f1 = rd bs (i : Int) := by rw [sh.2, rdi hib]
    have k2 : ¬ (toL (ln l a bs[i] t)).f0 > (toL (ln l a bs[i] t)).f1 := by rw [sh.1, sh.2]; omega
    have h := keeps_l2 bs (lns l t bs (-1)) i (toL (ln l a bs[i] t)).f0 (toL (ln l a bs[i] t)).f1 (toL (ln l a bs[i] t)).f2 (toL (ln l a bs[i] t)).f3 (toL (ln l a bs[i] t)).f4 (toL (ln l a bs[i] t)).f5 hbx ?_ (toL (ln l a bs[i] t)).f2.length 0 0 (by omega) hch
    · refine Ev.step (fun k => ?_) h
      simp only [variorumlaw12_SetterKeeps.l1]
      rw [if_pos g1, if_pos g2, e]; rfl
    · refine Ev.congr (fun k => ?_) (ih (i + 1) (by omega))
      by_cases c : (i : Int) > 0
      · have e1 : wrap64 ((i : Int) - 1) = ((i - 1 : Nat) : Int) := by rw [wrap_small (by omega)]; omega
        have hj : i - 1 < (lns l t bs (-1)).length := by omega
        obtain ⟨a2, _, _, _, q3, q4⟩ := lns_at bs (-1) (i - 1) (by omega) (by omega) hc
        have e2 : (rd_T44 (lns l t bs (-1)) ((i - 1 : Nat) : Int)).f1 = bs[i - 1] := by rw [rd44 hj, q4, (ln_shape q3).2]
        have e3 := h2 (i - 1) (by omega)
        have k3 : ¬ bs[i - 1] ≥ (toL (ln l a bs[i] t)).f0 := by rw [sh.1, ← e3]; omega
        rw [if_pos c, e1, if_pos (by omega), if_pos (by omega), e2, if_neg k3, if_pos g2, if_pos g4, if_pos k1, if_neg k2, succ_w i (by omega)]
      · rw [if_neg c, if_pos g2, if_pos g4, if_pos k1, if_neg k2, succ_w i (by omega)]
theorem keeps_l0 (bs : List Int) (ls : List S44) (A : List S40) (B : List S42) (hA : A.length ≤ 2000) (hk : B.map k42 = A.map k40) (hend : Ev (fun k => variorumlaw12_SetterKeeps.l1 k bs ls 0) true) :
    ∀ (d i : Nat), i + d = A.length → Ev (fun k => variorumlaw12_SetterKeeps.l0 k bs ls A B (i : Int)) true := by
  have hlen := congrArg List.length hk
  rw [List.length_map, List.length_map] at hlen
  intro d
  induction d with
  | zero =>
    intro i hi
    refine Ev.step (fun k => ?_) hend
    simp only [variorumlaw12_SetterKeeps.l0]
    rw [if_neg (by omega)]
  | succ d ih =>
    intro i hi
    have hiA : i < A.length := by omega
    have hiB : i < B.length := by omega
    have g1 : (i : Int) < (A.length : Int) := by omega
    have g2 : (0 : Int) ≤ (i : Int) := by omega
    have g3 : (i : Int) < (B.length : Int) := by omega
    have e : k42 B[i] = k40 A[i] := by
      have := congrArg (fun z => z[i]?) hk
      simp only [List.getElem?_map, List.getElem?_eq_getElem hiA, List.getElem?_eq_getElem hiB, Option.map_some, Option.some.injEq] at this
      exact this
    unfold k42 k40 at e
    simp only [Prod.mk.injEq] at e
    refine Ev.step (fun k => ?_) (ih (i + 1) (by omega))
    simp only [variorumlaw12_SetterKeeps.l0]
    rw [if_pos g1, if_pos g2, if_pos g3, rd40 hiA, rd42 hiB, if_pos e.1.symm, if_pos e.2.1.symm, if_pos e.2.2.symm, succ_w i (by omega)]

theorem keeps_yes (l : List S40) (bs : List Int) (t : Int) : Ev (fun k => variorumlaw12_SetterKeeps.j0 k l bs t true) true := by
  refine Ev.step (f := fun k => (variorumlaw12_fixed.f k).bind fun t => some t) (fun k => ?_) (Ev.bind fixed_ev (Ev.now _))
  simp only [variorumlaw12_SetterKeeps.j0]
  rfl
theorem keeps_no (l : List S40) (bs : List Int) (t : Int) (hb : bs.length ≤ 100) : Ev (fun k => variorumlaw12_SetterKeeps.j0 k l bs t false) true := by
  refine Ev.step (f := fun k => (setter_Lines.f k l bs t).bind fun bt312 => (if bt312.2.1 = 0 then ((variorumref09_Boxes.f k l).bind fun t318 => ((setter_Words.f k bt312.1).bind fun t321 => (if (t318.length : Int) = (t321.length : Int) then (variorumlaw12_SetterKeeps.j1 k bs bt312.1 t318 t321 ((bt312.1.length : Int) != (bs.length : Int))) else (variorumlaw12_SetterKeeps.j1 k bs bt312.1 t318 t321 true)))) else (some ((bt312.1.length : Int) == 0)))) (fun k => ?_) (Ev.bind (lines_ev l bs t (by omega)) ?_)
  · simp only [variorumlaw12_SetterKeeps.j0]
    rw [if_neg (by decide)]
  · rcases lines_cases l bs t with ⟨h1, h2⟩ | ⟨hm, hc, e, hn, hlast⟩
    · simp only [if_neg h1, h2]
      exact Ev.now _
    · have hl := mi_len hm
      rw [e]
      simp only [if_true]
      refine Ev.bind (rboxes_ev l (by omega)) (Ev.bind (words_ev _ (by rw [lns_len]; omega) (lns_boxes l t hl bs (-1))) ?_)
      have hl0 : (-1 : Int) < (l.length : Int) := by omega
      have key := all_keys (l := l) (t := t) bs (-1) (by omega) hl0 hc hlast
      rw [show ((-1 : Int) + 1).toNat = 0 from rfl, Nat.sub_zero] at key
      have klen := congrArg List.length key
      rw [List.length_map, List.length_map] at klen
      have g : ((bx l l.length 0).length : Int) = (((lns l t bs (-1)).flatMap (·.f2)).length : Int) := by omega
      have g2 : (((lns l t bs (-1)).length : Int) != (bs.length : Int)) = false := by rw [lns_len]; simp
      simp only [if_pos g, g2]
      refine Ev.step (f := fun k => variorumlaw12_SetterKeeps.l0 k bs (lns l t bs (-1)) (bx l l.length 0) ((lns l t bs (-1)).flatMap (·.f2)) 0) (fun k => ?_) ?_
      · simp only [variorumlaw12_SetterKeeps.j1]
        rw [if_neg (by decide)]
      · have hbl := bx_len l l.length 0
        exact keeps_l0 bs _ _ _ (by omega) key (keeps_l1 hm (by omega) hc bs.length 0 (by omega)) (bx l l.length 0).length 0 (by omega)

theorem SetterKeeps : variorumlaw12_SetterKeeps.Pure := by
  intro l bs t _ _ _
  refine Ev.rounds (g := fun k => variorumlaw12_SetterKeeps.f k l bs t) ?_
  unfold variorumlaw12_SetterKeeps.f
  refine Ev.bind fixed_ev ?_
  simp only [if_true]
  by_cases c : (l.length : Int) > 300
  · simp only [if_pos c]; exact keeps_yes l bs t
  · simp only [if_neg c]
    by_cases c2 : (bs.length : Int) > 100
    · rw [decide_eq_true c2]; exact keeps_yes l bs t
    · rw [decide_eq_false c2]; exact keeps_no l bs t (by omega)

end Go.Proofs.Ytpfnfofaajpdmaa.Pure

/- Plain lemmas on the printed functions of the package demerit: what a line, its cost, and a total come to, and on which items they hang. -/
import Derived.Test.YtagpdpcodcmgkaaPTox7
import Derived.Test.YtagpdpcodcmgkaaTGlue
namespace Go.Proofs.Ytagpdpcodcmgkaa.Pure
set_option linter.unusedVariables false
set_option linter.unusedSimpArgs false
open Go.RowKit Go.Proofs.Ytagpdpcodcmgkaa.PTo Go.Proofs.YtagpdpcodcmgkaaW.PrintWords Go.Proofs.YtagpdpcodcmgkaaW.PrintLast Go.Proofs.YtagpdpcodcmgkaaW.PrintMore

def lv (l : List S47) (a b w : Int) : T5 := if mb l a b = true then sv (gs l a b) w else (0, 0, 0, 0, false)
theorem line_ev (l : List S47) (a b w : Int) (hl : l.length ≤ 2000) : Ev (fun k => demerit_Line.f k l a b w) (lv l a b w) := by
  unfold demerit_Line.f lv
  refine Ev.bind (may_ev l a b hl) ?_
  by_cases h : mb l a b = true
  · have i := mb_in h
    simp only [if_pos h]
    exact Ev.bind (glues_ev l a b hl (by omega) i.2.2.1 i.2.2.2.1 i.2.2.2.2) (Ev.bind (set_ev _ _) (Ev.now _))
  · simp only [if_neg h]; exact Ev.now _

def d0 (bad : Int) : Int := wrap64 ((wrap64 (bad + 10)) * (wrap64 (bad + 10)))
def d1 (bad : Int) (x : S47) : Int := if x.f0 = 2 then (if x.f2 > 0 then wrap64 (d0 bad + wrap64 (x.f2 * x.f2)) else if fz x = true then d0 bad else wrap64 (d0 bad - wrap64 (x.f2 * x.f2))) else d0 bad
def dm (bad : Int) (bh : Bool) (x : S47) : Int := if bh = true then (if x.f3 = true then wrap64 (d1 bad x + 10000) else d1 bad x) else d1 bad x
theorem dem_f (s o e bad : Int) (bh : Bool) (x : S47) : demerit_Demerits.f s o e bad bh x.f0 x.f1.f0 x.f1.f1 x.f1.f2 x.f1.f3 x.f2 x.f3 x.f4 x.f5 = some (dm bad bh x) := by
  unfold demerit_Demerits.f dm d1 d0
  by_cases h : x.f0 = 2
  · rw [if_pos h, if_pos h]
    by_cases h2 : x.f2 > 0
    · rw [if_pos h2, if_pos h2]; split
      · split <;> rfl
      · rfl
    · rw [if_neg h2, if_neg h2, forced_f]; simp only [Option.bind_some]
      split
      · split
        · split <;> rfl
        · rfl
      · split
        · split <;> rfl
        · rfl
  · rw [if_neg h, if_neg h]; split
    · split <;> rfl
    · rfl
def cs (sign bad : Int) : Int := if bad ≤ 12 then 2 else if sign < 0 then 3 else if bad < 100 then 1 else 0
theorem class_f (s o e bad : Int) : demerit_Class.f s o e bad = some (cs s bad) := by
  unfold demerit_Class.f cs
  repeat' split
  all_goals rfl
theorem cs_in (s b : Int) : 0 ≤ cs s b ∧ cs s b ≤ 3 := by unfold cs; repeat' split
                                                          all_goals omega

def cv (l : List S47) (a b w tol : Int) : Int × Int × Bool :=
  if (lv l a b w).2.2.2.2 = true then (if (lv l a b w).2.2.2.1 > mn tol 10000 then (0, 0, false) else (dm (lv l a b w).2.2.2.1 (if a ≥ 0 then (rd_T47 l (mx a 0)).f3 else false) (rd_T47 l b), cs (lv l a b w).1 (lv l a b w).2.2.2.1, true)) else (0, 0, false)
theorem lv_ok {l : List S47} {a b w : Int} (h : (lv l a b w).2.2.2.2 = true) : mb l a b = true := by
  unfold lv at h
  by_cases c : mb l a b = true
  · exact c
  · rw [if_neg c] at h; exact absurd h (by decide)
theorem cv_ok {l : List S47} {a b w tol : Int} (h : (cv l a b w tol).2.2 = true) : mb l a b = true ∧ (cv l a b w tol).1 = dm (lv l a b w).2.2.2.1 (if a ≥ 0 then (rd_T47 l (mx a 0)).f3 else false) (rd_T47 l b) ∧ (cv l a b w tol).2.1 = cs (lv l a b w).1 (lv l a b w).2.2.2.1 ∧ (lv l a b w).2.2.2.2 = true ∧ (lv l a b w).2.2.2.1 ≤ mn tol 10000 := by
  unfold cv at h ⊢
  by_cases c : (lv l a b w).2.2.2.2 = true
  · rw [if_pos c] at h ⊢
    by_cases c2 : (lv l a b w).2.2.2.1 > mn tol 10000
    · rw [if_pos c2] at h; exact absurd h (by decide)
    · rw [if_neg c2]; exact ⟨lv_ok c, rfl, rfl, c, by omega⟩
  · rw [if_neg c] at h; exact absurd h (by decide)
theorem cv_no {l : List S47} {a b w tol : Int} (h : ¬ (cv l a b w tol).2.2 = true) : cv l a b w tol = (0, 0, false) := by
  unfold cv at h ⊢
  by_cases c : (lv l a b w).2.2.2.2 = true
  · rw [if_pos c] at h ⊢
    by_cases c2 : (lv l a b w).2.2.2.1 > mn tol 10000
    · rw [if_pos c2]
    · rw [if_neg c2] at h; exact absurd rfl h
  · rw [if_neg c]
theorem cost_no (l : List S47) (a b s o e bad : Int) : Ev (fun k => demerit_Cost.j0 k l a b true s o e bad) (0, 0, false) :=
  Ev.step (f := fun _ => some _) (fun k => by simp only [demerit_Cost.j0]; rw [if_pos trivial]) (Ev.now _)
theorem cost_ev (l : List S47) (a b w tol : Int) (hl : l.length ≤ 2000) : Ev (fun k => demerit_Cost.f k l a b w tol) (cv l a b w tol) := by
  unfold demerit_Cost.f
  refine Ev.bind (line_ev l a b w hl) ?_
  unfold cv
  by_cases c : (lv l a b w).2.2.2.2 = true
  · have i := lv_ok c
    have j := mb_in i
    simp only [if_pos c]
    by_cases c2 : (lv l a b w).2.2.2.1 > mn tol 10000
    · rw [decide_eq_true c2, if_pos c2]; exact cost_no ..
    · rw [decide_eq_false c2, if_neg c2]
      have g1 : 0 ≤ mx a 0 := by unfold mx; split <;> omega
      have g2 : mx a 0 < (l.length : Int) := by unfold mx; split <;> omega
      have g3 := j.2.2.1
      have g4 := j.2.2.2.1
      refine Ev.step (f := fun _ => some _) (fun k => ?_) (Ev.now _)
      simp only [demerit_Cost.j0]
      rw [if_neg (by decide)]
      by_cases c3 : a ≥ 0
      · rw [if_pos c3, if_pos c3, if_pos g1, if_pos g2, if_pos g3, if_pos g4, dem_f, class_f]; rfl
      · rw [if_neg c3, if_neg c3, if_pos g3, if_pos g4, dem_f, class_f]; rfl
  · simp only [if_neg c]; exact cost_no ..

def ap (c h : Int) : Int := if wrap64 (c - h) > 1 then 10000 else if wrap64 (h - c) > 1 then 10000 else 0
theorem apart_f (c h : Int) : demerit_Apart.f c h = some (ap c h) := by
  unfold demerit_Apart.f ap
  repeat' split
  all_goals rfl
def tl (l : List S47) (w tol : Int) (bs : List Int) : Nat → Nat → Int → Int → Int → Int × Bool
  | 0, _, s, _, _ => (s, true)
  | d + 1, i, s, a, h => if (cv l a (rd bs (i : Int)) w tol).2.2 = true then tl l w tol bs d (i + 1) (wrap64 (s + wrap64 ((cv l a (rd bs (i : Int)) w tol).1 + ap (cv l a (rd bs (i : Int)) w tol).2.1 h))) (rd bs (i : Int)) (cv l a (rd bs (i : Int)) w tol).2.1 else (0, false)
theorem tl_ev (l : List S47) (w tol : Int) (bs : List Int) (hl : l.length ≤ 2000) (hb : bs.length ≤ 2000) : ∀ (d i : Nat) (s a h : Int), i + d = bs.length → Ev (fun k => demerit_Total.l0 k l w tol s a h bs (bs.length : Int) (i : Int)) (tl l w tol bs d i s a h) := by
  intro d
  induction d with
  | zero =>
    intro i s a h hi
    have g0 : ¬ (i : Int) < (bs.length : Int) := by omega
    refine Ev.step (f := fun _ => some _) (fun k => ?_) (Ev.now _)
    simp only [demerit_Total.l0]
    rw [if_neg g0]; rfl
  | succ d ih =>
    intro i s a h hi
    have g1 : (i : Int) < (bs.length : Int) := by omega
    have g2 : (0 : Int) ≤ (i : Int) := by omega
    have g3 : i ≤ 1000000000000000 := by omega
    refine Ev.step (f := fun k => (demerit_Cost.f k l a (rd bs (i : Int)) w tol).bind fun c => (if c.2.2 = true then ((demerit_Apart.f c.2.1 h).bind fun t => (demerit_Total.l0 k l w tol (wrap64 (s + (wrap64 (c.1 + t)))) (rd bs (i : Int)) c.2.1 bs (bs.length : Int) (wrap64 ((i : Int) + 1)))) else (some (0, false)))) (fun k => ?_) (Ev.bind (cost_ev l a (rd bs (i : Int)) w tol hl) ?_)
    · simp only [demerit_Total.l0]
      rw [if_pos g1, if_pos g2, if_pos g1]
    · simp only [tl]
      by_cases c : (cv l a (rd bs (i : Int)) w tol).2.2 = true
      · simp only [if_pos c, apart_f, Option.bind_some, succ_w i g3]
        exact ih (i + 1) _ _ _ (by omega)
      · simp only [if_neg c]; exact Ev.now _
def to_ (l : List S47) (bs : List Int) (w tol : Int) : Int × Bool := if bs.length = 0 then (0, false) else if rd bs ((bs.length : Int) - 1) ≠ (l.length : Int) - 1 then (0, false) else tl l w tol bs bs.length 0 0 (-1) 2
theorem dtotal_ev (l : List S47) (bs : List Int) (w tol : Int) (hl : l.length ≤ 2000) (hb : bs.length ≤ 2000) : Ev (fun k => demerit_Total.f k l bs w tol) (to_ l bs w tol) := by
  unfold demerit_Total.f to_
  have no : Ev (fun k => demerit_Total.j0 k l bs w tol true) (0, false) := Ev.step (f := fun _ => some _) (fun k => by simp only [demerit_Total.j0]; rw [if_pos trivial]) (Ev.now _)
  by_cases h : bs.length = 0
  · have h' : (bs.length : Int) = 0 := by omega
    simp only [if_pos h, if_pos h']; exact no
  · have h' : ¬ (bs.length : Int) = 0 := by omega
    have g1 : 0 ≤ (bs.length : Int) - 1 := by omega
    have g2 : (bs.length : Int) - 1 < (bs.length : Int) := by omega
    have e1 : wrap64 ((bs.length : Int) - 1) = (bs.length : Int) - 1 := wrap_small (by omega)
    have e2 : wrap64 ((l.length : Int) - 1) = (l.length : Int) - 1 := wrap_small (by omega)
    simp only [if_neg h, if_neg h', e1, e2, if_pos g1, if_pos g2]
    by_cases c : rd bs ((bs.length : Int) - 1) = (l.length : Int) - 1
    · rw [if_neg (not_not_intro c), c]
      refine Ev.step (f := fun k => demerit_Total.l0 k l w tol 0 (-1) 2 bs (bs.length : Int) 0) (fun k => ?_) (tl_ev l w tol bs hl hb bs.length 0 0 (-1) 2 (by omega))
      simp only [demerit_Total.j0]
      rw [if_neg (by simp)]
    · rw [if_pos c]
      have e : (rd bs ((bs.length : Int) - 1) != (l.length : Int) - 1) = true := bne_iff_ne.mpr c
      rw [e]; exact no

theorem fixed_ev : Ev (fun k => variorumlaw10_fixed.f k) true := Ev.of variorumlaw10_fixed.mono (k := 60) (by decide +kernel)

/-! ## What a line hangs on -/
theorem lg_same {l m : List S47} {b : Int} (h : ∀ i : Int, 0 ≤ i → i ≤ b → rd_T47 l i = rd_T47 m i) (hl : b < (l.length : Int)) (hm : b < (m.length : Int)) : lg l b = lg m b := by
  by_cases h0 : 0 ≤ b
  · unfold lg
    rw [decide_eq_true hl, decide_eq_true hm, h b h0 (by omega)]
    by_cases h1 : b > 0
    · rw [h (b - 1) (by omega) (by omega)]
    · simp only [if_neg h1]
  · unfold lg; rw [decide_eq_false h0]; rfl
theorem sk_same {l m : List S47} (b : Nat) (h : ∀ i : Nat, i ≤ b → rd_T47 l (i : Int) = rd_T47 m (i : Int)) (hl : b < l.length) (hm : b < m.length) : ∀ (n i : Nat), i + n = b + 1 → (sk l (l.length - i) i ≤ b ↔ sk m (m.length - i) i ≤ b) ∧ (sk l (l.length - i) i ≤ b → sk l (l.length - i) i = sk m (m.length - i) i)
  | 0, i => fun hi => by
    have a1 := le_sk l (l.length - i) i
    have a2 := le_sk m (m.length - i) i
    exact ⟨⟨fun _ => by omega, fun _ => by omega⟩, fun _ => by omega⟩
  | n + 1, i => fun hi => by
    have e1 : l.length - i = (l.length - (i + 1)) + 1 := by omega
    have e2 : m.length - i = (m.length - (i + 1)) + 1 := by omega
    rw [e1, e2]
    simp only [sk]
    rw [h i (by omega)]
    split
    · exact ⟨Iff.rfl, fun _ => rfl⟩
    · exact sk_same b h hl hm n (i + 1) (by omega)
theorem st_same {l m : List S47} {a b : Int} (h : ∀ i : Int, 0 ≤ i → i ≤ b → rd_T47 l i = rd_T47 m i) (h0 : 0 ≤ b) (hl : b < (l.length : Int)) (hm : b < (m.length : Int)) (ha : a < b) : ((st l a : Int) ≤ b ↔ (st m a : Int) ≤ b) ∧ ((st l a : Int) ≤ b → st l a = st m a) := by
  unfold st
  rw [if_neg (by omega), if_neg (by omega)]
  have f : from_ a ≤ b.toNat := by unfold from_ mx; split <;> omega
  have := sk_same b.toNat (fun i hi => h i (by omega) (by omega)) (by omega) (by omega) (b.toNat + 1 - from_ a) (from_ a) (by omega)
  refine ⟨⟨fun x => ?_, fun x => ?_⟩, fun x => this.2 (by omega)⟩
  · have := this.1.1 (by omega); omega
  · have := this.1.2 (by omega); omega
theorem nf_same {l m : List S47} (b : Nat) (h : ∀ i : Nat, i ≤ b → rd_T47 l (i : Int) = rd_T47 m (i : Int)) : ∀ (d i : Nat), i + d ≤ b → nf l d i = nf m d i
  | 0, _ => fun _ => rfl
  | d + 1, i => fun hi => by simp only [nf]; rw [h i (by omega), nf_same b h d (i + 1) (by omega)]
theorem cl_same {l m : List S47} (b : Nat) (h : ∀ i : Nat, i ≤ b → rd_T47 l (i : Int) = rd_T47 m (i : Int)) : ∀ (d i : Nat), i + d ≤ b → cl l d i = cl m d i
  | 0, _ => fun _ => rfl
  | d + 1, i => fun hi => by simp only [cl]; rw [h i (by omega), cl_same b h d (i + 1) (by omega)]
theorem mb_same {l m : List S47} {a b : Int} (h : ∀ i : Int, 0 ≤ i → i ≤ b → rd_T47 l i = rd_T47 m i) (h0 : 0 ≤ b) (hl : b < (l.length : Int)) (hm : b < (m.length : Int)) : mb l a b = mb m a b := by
  by_cases ha : a < b
  · have e1 : lg l a = lg m a := lg_same (fun i i0 i1 => h i i0 (by omega)) (by omega) (by omega)
    have e2 : lg l b = lg m b := lg_same h hl hm
    have e3 := st_same h h0 hl hm ha
    unfold mb
    rw [e1, e2]
    by_cases hA : (decide (a = -1) || lg m a) = true
    · have a1 : -1 ≤ a := by
        simp only [Bool.or_eq_true, decide_eq_true_eq] at hA
        rcases hA with c | c
        · omega
        · have := lg_in c; omega
      rw [nf_same b.toNat (fun i hi => h i (by omega) (by omega)) _ _ (by omega : (a + 1).toNat + (b.toNat - (a + 1).toNat) ≤ b.toNat)]
      rw [decide_eq_decide.2 e3.1]
    · rw [Bool.eq_false_iff.mpr hA]; rfl
  · unfold mb; rw [decide_eq_false ha]; simp
theorem lv_same {l m : List S47} {a b : Int} (w : Int) (h : ∀ i : Int, 0 ≤ i → i ≤ b → rd_T47 l i = rd_T47 m i) (h0 : 0 ≤ b) (hl : b < (l.length : Int)) (hm : b < (m.length : Int)) : lv l a b w = lv m a b w := by
  unfold lv
  rw [mb_same h h0 hl hm]
  by_cases c : mb m a b = true
  · rw [if_pos c, if_pos c]
    have c' : mb l a b = true := by rw [mb_same h h0 hl hm]; exact c
    have i := mb_in c'
    have e := (st_same h h0 hl hm i.2.1).2 i.2.2.2.2
    have e2 : gs l a b = gs m a b := by
      unfold gs gt
      rw [h b h0 (Int.le_refl _), e, cl_same b.toNat (fun i hi => h i (by omega) (by omega)) (b.toNat - st m a) (st m a) (by omega)]
    rw [e2]
  · rw [if_neg c, if_neg c]
theorem cv_same {l m : List S47} {a b : Int} (w tol : Int) (h : ∀ i : Int, 0 ≤ i → i ≤ b → rd_T47 l i = rd_T47 m i) (h0 : 0 ≤ b) (hl : b < (l.length : Int)) (hm : b < (m.length : Int)) : cv l a b w tol = cv m a b w tol := by
  have e := lv_same (a := a) w h h0 hl hm
  unfold cv
  rw [e]
  by_cases c : (lv m a b w).2.2.2.2 = true
  · have i := mb_in (lv_ok c)
    rw [if_pos c, if_pos c, h b h0 (Int.le_refl _)]
    by_cases c3 : a ≥ 0
    · rw [if_pos c3, if_pos c3, h (mx a 0) (by unfold mx; split <;> omega) (by unfold mx; split <;> omega)]
    · rw [if_neg c3, if_neg c3]
  · rw [if_neg c, if_neg c]

end Go.Proofs.Ytagpdpcodcmgkaa.Pure

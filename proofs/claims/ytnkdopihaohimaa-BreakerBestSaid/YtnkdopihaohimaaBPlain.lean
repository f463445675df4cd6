/- Breaker's plain lemmas: where lines begin, their glue, how it is set, what it costs; items; sums of glue; the best breaks, with no program in sight; the breaker's table, filled; what it tells. -/
import Derived.Test.YtnkdopihaohimaaPBrx4
import Derived.Test.YtnkdopihaohimaaPBrx7
import Derived.Test.YtnkdopihaohimaaPBrx6
import Derived.Test.YtnkdopihaohimaaPBrx8
namespace Go.Proofs.Ytnkdopihaohimaa.Pure
set_option linter.unusedVariables false
set_option linter.unusedSimpArgs false
abbrev Way := Option (Int × Nat × Nat)
def better (o x : Way) : Way := match x with
  | none => o
  | some v => match o with
    | none => some v
    | some u => if v.1 < u.1 then some v else some u
section
variable (n : Nat) (cost : Nat → Nat → Option (Int × Nat)) (apart : Nat → Nat → Int)
def rest (V : Nat → Nat → Way) (b cl : Nat) : Option Int := if b + 1 = n then some 0 else (V (b + 1) cl).map (·.1)
def cand (V : Nat → Nat → Way) (a c b : Nat) : Way := (cost a b).bind fun x => (rest n V b x.2).map fun e => (x.1 + e + apart x.2 c, b, x.2)
def pick (V : Nat → Nat → Way) (a c : Nat) : Nat → Nat → Way → Way
  | 0, _, o => o
  | d + 1, b, o => pick V a c d (b + 1) (better o (cand n cost apart V a c b))
/-- What breaks cost, from the place a on, behind a line of class c; none: they may not be. -/
def tot : Nat → Nat → List Nat → Option Int
  | a, _, [] => if a = n then some 0 else none
  | a, c, b :: r => (cost a b).bind fun x => (tot (b + 1) x.2 r).map fun e => x.1 + e + apart x.2 c
def fol (V : Nat → Nat → Way) : Nat → Nat → Nat → List Nat
  | 0, _, _ => []
  | k + 1, a, c => match V a c with
    | none => []
    | some v => v.2.1 :: (if v.2.1 + 1 = n then [] else fol V k (v.2.1 + 1) v.2.2)
/-- A filled table: L tells the places from which a line may begin. -/
structure Filled (L : Nat → Prop) (V : Nat → Nat → Way) : Prop where
  line : ∀ a b x, cost a b = some x → a ≤ b ∧ b < n ∧ L (b + 1) ∧ x.2 < 4
  fill : ∀ a c, L a → a < n → c < 4 → V a c = pick n cost apart V a c (n - a) a none
end
/-- Is the one list ahead of the other one, at the first place where they are unlike? -/
def ahead : List Nat → List Nat → Bool
  | a :: r, b :: s => if a = b then ahead r s else decide (a < b)
  | _, _ => false
section
variable {n : Nat} {cost : Nat → Nat → Option (Int × Nat)} {apart : Nat → Nat → Int} {V : Nat → Nat → Way}
theorem better_old {o x : Way} {u : Int × Nat × Nat} (h : o = some u) : ∃ v, better o x = some v ∧ v.1 ≤ u.1 := by
  subst h
  unfold better
  cases x with
  | none => exact ⟨u, rfl, Int.le_refl _⟩
  | some v =>
    by_cases c : v.1 < u.1
    · exact ⟨v, by simp [c], by omega⟩
    · exact ⟨u, by simp [c], Int.le_refl _⟩
theorem better_new {o x : Way} {u : Int × Nat × Nat} (h : x = some u) : ∃ v, better o x = some v ∧ v.1 ≤ u.1 := by
  subst h
  unfold better
  cases o with
  | none => exact ⟨u, rfl, Int.le_refl _⟩
  | some v =>
    by_cases c : u.1 < v.1
    · exact ⟨u, by simp [c], Int.le_refl _⟩
    · exact ⟨v, by simp [c], by omega⟩
theorem better_is {o x : Way} {v : Int × Nat × Nat} (h : better o x = some v) : o = some v ∨ (x = some v ∧ ∀ u, o = some u → v.1 < u.1) := by
  unfold better at h
  cases x with
  | none => exact .inl h
  | some y =>
    cases o with
    | none => exact .inr ⟨by simpa using h, fun u hu => by cases hu⟩
    | some u =>
      by_cases c : y.1 < u.1
      · simp [c] at h
        subst h
        exact .inr ⟨rfl, fun w hw => by cases hw; exact c⟩
      · simp [c] at h
        exact .inl (by rw [h])
theorem pick_old {a c : Nat} : ∀ (d b : Nat) (o : Way) (u : Int × Nat × Nat), o = some u → ∃ v, pick n cost apart V a c d b o = some v ∧ v.1 ≤ u.1
  | 0, b, o, u => fun h => ⟨u, h, Int.le_refl _⟩
  | d + 1, b, o, u => fun h => by
    obtain ⟨w, hw, hl⟩ := better_old (x := cand n cost apart V a c b) h
    obtain ⟨v, hv, hl2⟩ := pick_old d (b + 1) _ w hw
    exact ⟨v, hv, by omega⟩
theorem pick_new {a c : Nat} : ∀ (d b : Nat) (o : Way) (j : Nat) (u : Int × Nat × Nat), b ≤ j → j < b + d → cand n cost apart V a c j = some u → ∃ v, pick n cost apart V a c d b o = some v ∧ v.1 ≤ u.1
  | 0, b, o, j, u => fun h1 h2 _ => by omega
  | d + 1, b, o, j, u => fun h1 h2 h => by
    by_cases e : j = b
    · subst e
      obtain ⟨w, hw, hl⟩ := better_new (o := o) h
      obtain ⟨v, hv, hl2⟩ := pick_old d (j + 1) _ w hw
      exact ⟨v, hv, by omega⟩
    · exact pick_new d (b + 1) _ j u (by omega) (by omega) h
/-- What is picked: the old one, or a candidate; and all candidates ahead of it cost more. -/
theorem pick_is {a c : Nat} : ∀ (d b : Nat) (o : Way) (v : Int × Nat × Nat), pick n cost apart V a c d b o = some v → o = some v ∨ ∃ j, b ≤ j ∧ j < b + d ∧ cand n cost apart V a c j = some v ∧ (∀ u, o = some u → v.1 < u.1) ∧ ∀ i, b ≤ i → i < j → ∀ u, cand n cost apart V a c i = some u → v.1 < u.1
  | 0, b, o, v => fun h => .inl h
  | d + 1, b, o, v => fun h => by
    rcases pick_is d (b + 1) _ v h with h1 | ⟨j, h1, h2, h3, h4, h5⟩
    · rcases better_is h1 with h6 | ⟨h6, h7⟩
      · exact .inl h6
      · exact .inr ⟨b, Nat.le_refl _, by omega, h6, h7, fun i hi hi2 => by omega⟩
    · refine .inr ⟨j, by omega, by omega, h3, fun u hu => ?_, fun i hi hi2 u hu => ?_⟩
      · obtain ⟨w, hw, hl⟩ := better_old (x := cand n cost apart V a c b) hu
        have := h4 w hw
        omega
      · by_cases e : i = b
        · subst e
          obtain ⟨w, hw, hl⟩ := better_new (o := o) hu
          have := h4 w hw
          omega
        · exact h5 i (by omega) hi2 u hu
theorem cand_is {a c b : Nat} {v : Int × Nat × Nat} (h : cand n cost apart V a c b = some v) : ∃ x e, cost a b = some x ∧ rest n V b x.2 = some e ∧ v = (x.1 + e + apart x.2 c, b, x.2) := by
  unfold cand at h
  cases hx : cost a b with
  | none => rw [hx] at h; cases h
  | some x =>
    rw [hx] at h
    simp only [Option.bind_some] at h
    cases he : rest n V b x.2 with
    | none => rw [he] at h; cases h
    | some e =>
      rw [he] at h
      simp only [Option.map_some, Option.some.injEq] at h
      exact ⟨x, e, rfl, he, h.symm⟩
variable {L : Nat → Prop} (F : Filled n cost apart L V)
include F
theorem tot_end {c : Nat} {r : List Nat} {e : Int} (h : tot n cost apart n c r = some e) : r = [] ∧ e = 0 := by
  cases r with
  | nil => simp [tot] at h; exact ⟨rfl, h.symm⟩
  | cons b r =>
    simp only [tot] at h
    cases hx : cost n b with
    | none => rw [hx] at h; cases h
    | some x => have := F.line _ _ _ hx; omega
/-- No breaks that may be cost less. -/
theorem least : ∀ (bs : List Nat) (a c : Nat) (t : Int), L a → a < n → c < 4 → tot n cost apart a c bs = some t → ∃ v, V a c = some v ∧ v.1 ≤ t
  | [], a, c, t => fun hL ha hc4 h => by simp only [tot] at h; rw [if_neg (by omega)] at h; cases h
  | b :: r, a, c, t => fun hL ha hc4 h => by
    simp only [tot] at h
    cases hx : cost a b with
    | none => rw [hx] at h; cases h
    | some x =>
      rw [hx] at h
      simp only [Option.bind_some] at h
      have hl := F.line _ _ _ hx
      cases he : tot n cost apart (b + 1) x.2 r with
      | none => rw [he] at h; cases h
      | some e =>
        rw [he] at h
        simp only [Option.map_some, Option.some.injEq] at h
        have hr : ∃ e', rest n V b x.2 = some e' ∧ e' ≤ e := by
          unfold rest
          by_cases q : b + 1 = n
          · rw [if_pos q]
            rw [q] at he
            exact ⟨0, rfl, by have := (tot_end F he).2; omega⟩
          · rw [if_neg q]
            obtain ⟨v, hv, hle⟩ := least r (b + 1) x.2 e hl.2.2.1 (by omega) hl.2.2.2 he
            exact ⟨v.1, by rw [hv]; rfl, hle⟩
        obtain ⟨e', hr, hle⟩ := hr
        have hc : cand n cost apart V a c b = some (x.1 + e' + apart x.2 c, b, x.2) := by unfold cand; rw [hx]; simp only [Option.bind_some]; rw [hr]; rfl
        obtain ⟨v, hv, hvl⟩ := pick_new (n - a) a none b _ hl.1 (by omega) hc
        rw [← F.fill a c hL ha hc4] at hv
        exact ⟨v, hv, by simp only at hvl; omega⟩
theorem v_is {a c : Nat} {v : Int × Nat × Nat} (hL : L a) (ha : a < n) (hc4 : c < 4) (h : V a c = some v) : ∃ x e, cost a v.2.1 = some x ∧ rest n V v.2.1 x.2 = some e ∧ v = (x.1 + e + apart x.2 c, v.2.1, x.2) ∧ ∀ i, i < v.2.1 → ∀ u, cand n cost apart V a c i = some u → v.1 < u.1 := by
  rw [F.fill a c hL ha hc4] at h
  rcases pick_is _ _ _ _ h with h1 | ⟨j, h1, h2, h3, h4, h5⟩
  · cases h1
  · obtain ⟨x, e, hx, he, hv⟩ := cand_is h3
    subst hv
    refine ⟨x, e, hx, he, rfl, fun i hi u hu => ?_⟩
    obtain ⟨y, _, hy, _, _⟩ := cand_is hu
    exact h5 i (F.line _ _ _ hy).1 hi u hu
/-- The breaks that the table tells cost what it tells. -/
theorem sound : ∀ (k a c : Nat) (v : Int × Nat × Nat), n ≤ a + k → L a → a < n → c < 4 → V a c = some v → tot n cost apart a c (fol n V k a c) = some v.1
  | 0, a, c, v => fun hk hL ha hc4 h => by omega
  | k + 1, a, c, v => fun hk hL ha hc4 h => by
    obtain ⟨x, e, hx, he, hv, _⟩ := v_is F hL ha hc4 h
    have hl := F.line _ _ _ hx
    have ef : fol n V (k + 1) a c = v.2.1 :: (if v.2.1 + 1 = n then [] else fol n V k (v.2.1 + 1) v.2.2) := by simp only [fol, h]
    rw [ef]
    simp only [tot]
    rw [hx]
    simp only [Option.bind_some]
    have e2 : v.2.2 = x.2 := by rw [hv]
    have e1 : v.1 = x.1 + e + apart x.2 c := by rw [hv]
    unfold rest at he
    by_cases q : v.2.1 + 1 = n
    · rw [if_pos q] at he ⊢
      cases he
      simp only [tot]
      rw [if_pos q, e1]; rfl
    · rw [if_neg q] at he ⊢
      cases hw : V (v.2.1 + 1) x.2 with
      | none => rw [hw] at he; cases he
      | some w =>
        rw [hw] at he
        simp only [Option.map_some, Option.some.injEq] at he
        rw [e2, sound k (v.2.1 + 1) x.2 w (by omega) hl.2.2.1 (by omega) hl.2.2.2 hw, e1, ← he]; rfl
/-- Of breaks that cost as much, none stands ahead. -/
theorem first : ∀ (bs : List Nat) (k a c : Nat) (v : Int × Nat × Nat), n ≤ a + k → L a → a < n → c < 4 → V a c = some v → tot n cost apart a c bs = some v.1 → ahead bs (fol n V k a c) = false
  | [], k, a, c, v => fun hk hL ha hc4 h ht => by cases fol n V k a c <;> rfl
  | b :: r, 0, a, c, v => fun hk hL ha hc4 h ht => by omega
  | b :: r, k + 1, a, c, v => fun hk hL ha hc4 h ht => by
    obtain ⟨x, e, hx, he, hv, hf⟩ := v_is F hL ha hc4 h
    have ef : fol n V (k + 1) a c = v.2.1 :: (if v.2.1 + 1 = n then [] else fol n V k (v.2.1 + 1) v.2.2) := by simp only [fol, h]
    rw [ef]
    simp only [ahead]
    simp only [tot] at ht
    cases hy : cost a b with
    | none => rw [hy] at ht; cases ht
    | some y =>
      rw [hy] at ht
      simp only [Option.bind_some] at ht
      have hl := F.line _ _ _ hy
      cases hs : tot n cost apart (b + 1) y.2 r with
      | none => rw [hs] at ht; cases ht
      | some s =>
        rw [hs] at ht
        simp only [Option.map_some, Option.some.injEq] at ht
        have hr : ∃ e', rest n V b y.2 = some e' ∧ e' ≤ s := by
          unfold rest
          by_cases q : b + 1 = n
          · rw [if_pos q]
            rw [q] at hs
            exact ⟨0, rfl, by have := (tot_end F hs).2; omega⟩
          · rw [if_neg q]
            obtain ⟨w, hw, hle⟩ := least F r (b + 1) y.2 s hl.2.2.1 (by omega) hl.2.2.2 hs
            exact ⟨w.1, by rw [hw]; rfl, hle⟩
        obtain ⟨e', hr, hle⟩ := hr
        have hc : cand n cost apart V a c b = some (y.1 + e' + apart y.2 c, b, y.2) := by unfold cand; rw [hy]; simp only [Option.bind_some]; rw [hr]; rfl
        by_cases q : b = v.2.1
        · rw [if_pos q]
          subst q
          have exy : x = y := by rw [hx] at hy; exact Option.some.inj hy
          subst exy
          have e2 : v.2.2 = x.2 := by rw [hv]
          have e1 : v.1 = x.1 + e + apart x.2 c := by rw [hv]
          by_cases q2 : v.2.1 + 1 = n
          · rw [if_pos q2]; cases r <;> rfl
          · rw [if_neg q2, e2]
            unfold rest at he
            rw [if_neg q2] at he
            cases hw : V (v.2.1 + 1) x.2 with
            | none => rw [hw] at he; cases he
            | some w =>
              rw [hw] at he
              simp only [Option.map_some, Option.some.injEq] at he
              exact first r k (v.2.1 + 1) x.2 w (by omega) hl.2.2.1 (by omega) hl.2.2.2 hw (by rw [hs]; congr 1; omega)
        · rw [if_neg q]
          refine decide_eq_false (fun hlt => ?_)
          have := hf b hlt _ hc
          simp only at this
          omega
end
/-- Where more lines may be, what is least does not rise. -/
theorem rises {n : Nat} {cost cost' : Nat → Nat → Option (Int × Nat)} {apart : Nat → Nat → Int} {V V' : Nat → Nat → Way} {L L' : Nat → Prop} (F : Filled n cost apart L V) (F' : Filled n cost' apart L' V') (h : ∀ a b x, cost a b = some x → cost' a b = some x)
    {a c : Nat} {v : Int × Nat × Nat} (hL : L a) (hL' : L' a) (ha : a < n) (hc4 : c < 4) (hv : V a c = some v) : ∃ v', V' a c = some v' ∧ v'.1 ≤ v.1 := by
  have more : ∀ (bs : List Nat) (a c : Nat) (t : Int), tot n cost apart a c bs = some t → tot n cost' apart a c bs = some t := by
    intro bs
    induction bs with
    | nil => intro a c t ht; exact ht
    | cons b r ih =>
      intro a c t ht
      simp only [tot] at ht ⊢
      cases hx : cost a b with
      | none => rw [hx] at ht; cases ht
      | some x =>
        rw [hx] at ht
        rw [h _ _ _ hx]
        simp only [Option.bind_some] at ht ⊢
        cases he : tot n cost apart (b + 1) x.2 r with
        | none => rw [he] at ht; cases ht
        | some e => rw [he] at ht; rw [ih _ _ _ he]; exact ht
  exact least F' _ a c v.1 hL' ha hc4 (more _ _ _ _ (sound F n a c v (by omega) hL ha hc4 hv))
end Go.Proofs.Ytnkdopihaohimaa.Pure

namespace Go.Proofs.Ytnkdopihaohimaa.Pure
set_option linter.unusedVariables false
set_option linter.unusedSimpArgs false
open Go.RowKit Go.Proofs.Ytnkdopihaohimaa.PBr Go.Proofs.YtnkdopihaohimaaW.PrintWords Go.Proofs.YtnkdopihaohimaaW.PrintLast Go.Proofs.YtnkdopihaohimaaW.PrintMore


theorem wrap_small {x : Int} (h : -9223372036854775808 ≤ x ∧ x ≤ 9223372036854775807) : wrap64 x = x := by
  unfold wrap64
  omega
theorem succ_w (n : Nat) (h : n ≤ 1000000000000000) : wrap64 ((n : Int) + 1) = ((n + 1 : Nat) : Int) := by rw [wrap_small (by omega)]; omega
theorem wf_high {x : Int} (h : (Lit.int .i64 x).wf = true) : x ≤ 9223372036854775807 := by
  simp [Lit.wf] at h
  exact h.2
theorem wf_low {x : Int} (h : (Lit.int .i64 x).wf = true) : -9223372036854775808 ≤ x := by
  simp [Lit.wf] at h
  exact h.1

/-! ## Forced breaks, legal ones, and where a line starts -/
def fz (x : S47) : Bool := decide (x.f0 = 2) && (x.f2 == (-10000))
theorem forced_f (x : S47) : demerit_Forced.f x.f0 x.f1.f0 x.f1.f1 x.f1.f2 x.f1.f3 x.f2 x.f3 x.f4 x.f5 = some (fz x) := by
  unfold demerit_Forced.f fz
  by_cases h : x.f0 = 2
  · rw [if_pos h, decide_eq_true h]; rfl
  · rw [if_neg h, decide_eq_false h]; rfl

def lg (l : List S47) (b : Int) : Bool :=
  decide (0 ≤ b) && (decide (b < (l.length : Int)) && (if (rd_T47 l b).f0 = 2 then decide ((rd_T47 l b).f2 < 10000) else if (rd_T47 l b).f0 = 1 then (if b > 0 then ((rd_T47 l (b - 1)).f0 == 0) else false) else false))
theorem lg_in {l : List S47} {b : Int} (h : lg l b = true) : 0 ≤ b ∧ b < (l.length : Int) := by
  unfold lg at h
  simp only [Bool.and_eq_true, decide_eq_true_eq] at h
  exact ⟨h.1, h.2.1⟩
theorem legal_ev (l : List S47) (b : Int) (hl : l.length ≤ 2000) : Ev (fun k => demerit_Legal.f k l b) (lg l b) := by
  unfold demerit_Legal.f
  by_cases h1 : b < 0
  · simp only [if_pos h1]
    refine Ev.step (f := fun _ => some (lg l b)) (fun k => ?_) (Ev.now _)
    simp only [demerit_Legal.j0]
    rw [if_pos trivial]
    congr 1; unfold lg; rw [decide_eq_false (show ¬ 0 ≤ b by omega)]; rfl
  · simp only [if_neg h1]
    by_cases h2 : b ≥ (l.length : Int)
    · refine Ev.step (f := fun _ => some (lg l b)) (fun k => ?_) (Ev.now _)
      simp only [demerit_Legal.j0]
      rw [decide_eq_true h2, if_pos rfl]
      congr 1; unfold lg; rw [decide_eq_false (show ¬ b < (l.length : Int) by omega)]; simp
    · refine Ev.step (f := fun _ => some (lg l b)) (fun k => ?_) (Ev.now _)
      have g1 : 0 ≤ b := by omega
      have g2 : b < (l.length : Int) := by omega
      have g3 : b > 0 → 0 ≤ b - 1 := fun _ => by omega
      have g4 : b > 0 → b - 1 < (l.length : Int) := fun _ => by omega
      have g5 : wrap64 (b - 1) = b - 1 := wrap_small (by omega)
      simp only [demerit_Legal.j0]
      rw [decide_eq_false h2, if_neg (by decide), if_pos g1, if_pos g2, g5]
      unfold lg
      rw [decide_eq_true g1, decide_eq_true g2]
      simp only [Bool.true_and]
      by_cases k1 : (rd_T47 l b).f0 = 2
      · rw [if_pos k1, if_pos k1]
      · rw [if_neg k1, if_neg k1]
        by_cases k2 : (rd_T47 l b).f0 = 1
        · rw [if_pos k2, if_pos k2]
          by_cases k3 : b > 0
          · rw [if_pos k3, if_pos k3, if_pos (g3 k3), if_pos (g4 k3)]
          · rw [if_neg k3, if_neg k3]
        · rw [if_neg k2, if_neg k2]

def hit (x : S47) : Bool := decide (x.f0 = 0) || fz x
def sk (l : List S47) : Nat → Nat → Nat
  | 0, i => i
  | d + 1, i => if hit (rd_T47 l (i : Int)) = true then i else sk l d (i + 1)
theorem sk_le (l : List S47) : ∀ d i, sk l d i ≤ i + d
  | 0, i => Nat.le_refl _
  | d + 1, i => by
    have := sk_le l d (i + 1)
    simp only [sk]; split <;> omega
theorem le_sk (l : List S47) : ∀ d i, i ≤ sk l d i
  | 0, i => Nat.le_refl _
  | d + 1, i => by
    have := le_sk l d (i + 1)
    simp only [sk]; split <;> omega
def from_ (a : Int) : Nat := (mx a (-1) + 1).toNat
def st (l : List S47) (a : Int) : Nat := if a ≥ (l.length : Int) then l.length else sk l (l.length - from_ a) (from_ a)
theorem start_loop (l : List S47) (hl : l.length ≤ 2000) : ∀ (d i : Nat), i + d = l.length → Ev (fun k => demerit_Start.l0 k l (i : Int)) ((sk l d i : Nat) : Int) := by
  intro d
  induction d with
  | zero =>
    intro i hi
    have g : ¬ (i : Int) < (l.length : Int) := by omega
    refine Ev.step (f := fun _ => some _) (fun k => ?_) (Ev.now _)
    simp only [demerit_Start.l0]
    rw [if_neg g]; rfl
  | succ d ih =>
    intro i hi
    have g1 : (i : Int) < (l.length : Int) := by omega
    have g2 : (0 : Int) ≤ (i : Int) := by omega
    have g3 : i ≤ 1000000000000000 := by omega
    by_cases a1 : (rd_T47 l (i : Int)).f0 = 0
    · refine Ev.step (f := fun _ => some _) (fun k => ?_) (Ev.now _)
      simp only [demerit_Start.l0]
      rw [if_pos g1, if_pos g2, if_pos a1]
      simp [sk, hit, a1]
    · by_cases a2 : fz (rd_T47 l (i : Int)) = true
      · refine Ev.step (f := fun _ => some _) (fun k => ?_) (Ev.now _)
        simp only [demerit_Start.l0]
        rw [if_pos g1, if_pos g2, if_neg a1, forced_f]
        simp only [Option.bind_some]
        rw [if_pos a2]
        simp [sk, hit, a2]
      · have e : sk l (d + 1) i = sk l d (i + 1) := by simp [sk, hit, a1, a2]
        rw [e]
        refine Ev.step (fun k => ?_) (ih (i + 1) (by omega))
        simp only [demerit_Start.l0]
        rw [if_pos g1, if_pos g2, if_neg a1, forced_f]
        simp only [Option.bind_some]
        rw [if_neg a2, succ_w i g3]
theorem start_ev (l : List S47) (a : Int) (hl : l.length ≤ 2000) (ha : -9223372036854775808 ≤ a) : Ev (fun k => demerit_Start.f k l a) ((st l a : Nat) : Int) := by
  unfold demerit_Start.f st
  by_cases h : a ≥ (l.length : Int)
  · simp only [if_pos h]; exact Ev.now _
  · simp only [if_neg h]
    have e : wrap64 (mx a (-1) + 1) = ((from_ a : Nat) : Int) := by
      unfold from_
      rw [wrap_small (by unfold mx; split <;> omega)]
      unfold mx; split <;> omega
    have e2 : from_ a ≤ l.length := by unfold from_ mx; split <;> omega
    rw [e]
    exact start_loop l hl _ _ (by omega)

/-! ## A line's glues -/
def cl (l : List S47) : Nat → Nat → List S45
  | 0, _ => []
  | d + 1, i => (if (rd_T47 l (i : Int)).f0 = 0 then [(rd_T47 l (i : Int)).f1] else if (rd_T47 l (i : Int)).f0 = 1 then [(rd_T47 l (i : Int)).f1] else []) ++ cl l d (i + 1)
theorem cl_len (l : List S47) : ∀ d i, (cl l d i).length ≤ d
  | 0, i => Nat.le_refl _
  | d + 1, i => by
    have := cl_len l d (i + 1)
    simp only [cl, List.length_append]
    split
    · simp; omega
    · split <;> simp <;> omega
def gt (l : List S47) (b : Int) : List S45 := if (rd_T47 l b).f0 = 2 then [⟨(rd_T47 l b).f1.f0, 0, 0, 0⟩] else []
def gs (l : List S47) (a b : Int) : List S45 := cl l (b.toNat - st l a) (st l a) ++ gt l b

/-! ## Whether there may be a line -/
def nf (l : List S47) : Nat → Nat → Bool
  | 0, _ => true
  | d + 1, i => !(fz (rd_T47 l (i : Int))) && nf l d (i + 1)
def mb (l : List S47) (a b : Int) : Bool := (decide (a = -1) || lg l a) && (lg l b && (decide (a < b) && (decide ((st l a : Int) ≤ b) && nf l (b.toNat - (a + 1).toNat) (a + 1).toNat)))
theorem mb_in {l : List S47} {a b : Int} (h : mb l a b = true) : -1 ≤ a ∧ a < b ∧ 0 ≤ b ∧ b < (l.length : Int) ∧ (st l a : Int) ≤ b := by
  unfold mb at h
  simp only [Bool.and_eq_true, Bool.or_eq_true, decide_eq_true_eq] at h
  obtain ⟨h1, h2, h3, h4, _⟩ := h
  have := lg_in h2
  refine ⟨?_, h3, this.1, this.2, h4⟩
  rcases h1 with h1 | h1
  · omega
  · have := lg_in h1; omega

end Go.Proofs.Ytnkdopihaohimaa.Pure

namespace Go.Proofs.Ytnkdopihaohimaa.Pure
set_option linter.unusedVariables false
set_option linter.unusedSimpArgs false
open Go.RowKit Go.Proofs.Ytnkdopihaohimaa.PBr Go.Proofs.YtnkdopihaohimaaW.PrintWords Go.Proofs.YtnkdopihaohimaaW.PrintLast Go.Proofs.YtnkdopihaohimaaW.PrintMore


def fi (a : Int) : Bool := decide (-1073741823 ≤ a ∧ a ≤ 1073741823)
theorem fi_iff {a : Int} : fi a = true ↔ -1073741823 ≤ a ∧ a ≤ 1073741823 := by unfold fi; exact decide_eq_true_iff
theorem fits_f (a : Int) : scaled_Fits.f a = some (fi a) := by
  unfold scaled_Fits.f fi
  by_cases h : a ≥ -1073741823
  · rw [if_pos h]; congr 1; exact decide_eq_decide.2 ⟨fun x => ⟨h, x⟩, fun x => x.2⟩
  · rw [if_neg h]; congr 1; symm; exact decide_eq_false (fun x => h x.1)
def am (a : Int) : Bool := decide (0 ≤ a ∧ a ≤ 1073741823)
theorem am_iff {a : Int} : am a = true ↔ 0 ≤ a ∧ a ≤ 1073741823 := by unfold am; exact decide_eq_true_iff
theorem amount_f (a : Int) : glue_amount.f a = some (am a) := by
  unfold glue_amount.f am
  by_cases h : a ≥ 0
  · rw [if_pos h, fits_f]; simp only [Option.bind_some]; congr 1; unfold fi; exact decide_eq_decide.2 ⟨fun x => ⟨h, x.2⟩, fun x => ⟨by omega, x.2⟩⟩
  · rw [if_neg h]; congr 1; symm; exact decide_eq_false (fun x => h x.1)

/-! ## May -/
def mv (g : List S45) : Nat → Nat → Int → Int → Int → Bool
  | 0, _, w, s, h => am w && (am s && am h)
  | d + 1, i, w, s, h => if fi (rd_T45 g (i : Int)).f0 = true then (if am (rd_T45 g (i : Int)).f1 = true then (if am (rd_T45 g (i : Int)).f2 = true then (if (rd_T45 g (i : Int)).f3 < 0 then false else if (rd_T45 g (i : Int)).f3 > 3 then false else mv g d (i + 1) (w + mx (rd_T45 g (i : Int)).f0 (-(rd_T45 g (i : Int)).f0)) (s + (rd_T45 g (i : Int)).f1) (h + (rd_T45 g (i : Int)).f2)) else false) else false) else false
def my (g : List S45) : Bool := if (g.length : Int) > 2000 then false else mv g g.length 0 0 0 0
theorem mv_all (g : List S45) : ∀ d i w s h, mv g d i w s h = true → ∀ j, i ≤ j → j < i + d → (fi (rd_T45 g (j : Int)).f0 = true ∧ am (rd_T45 g (j : Int)).f1 = true ∧ 0 ≤ (rd_T45 g (j : Int)).f3 ∧ (rd_T45 g (j : Int)).f3 ≤ 3)
  | 0, i, w, s, h => fun _ j h1 h2 => by omega
  | d + 1, i, w, s, h => fun hm j h1 h2 => by
    simp only [mv] at hm
    split at hm
    · split at hm
      · split at hm
        · split at hm
          · exact absurd hm (by simp)
          · split at hm
            · exact absurd hm (by simp)
            · rename_i a1 a2 a3 a4 a5
              by_cases e : j = i
              · subst e; exact ⟨a1, a2, by omega, by omega⟩
              · exact mv_all g d (i + 1) _ _ _ hm j (by omega) (by omega)
        · exact absurd hm (by simp)
      · exact absurd hm (by simp)
    · exact absurd hm (by simp)
theorem my_all {g : List S45} (h : my g = true) : g.length ≤ 2000 ∧ ∀ j : Nat, j < g.length → (fi (rd_T45 g (j : Int)).f0 = true ∧ am (rd_T45 g (j : Int)).f1 = true ∧ 0 ≤ (rd_T45 g (j : Int)).f3 ∧ (rd_T45 g (j : Int)).f3 ≤ 3) := by
  unfold my at h
  split at h
  · exact absurd h (by simp)
  · exact ⟨by omega, fun j hj => mv_all g _ _ _ _ _ h j (by omega) (by omega)⟩
theorem may2_loop (g : List S45) (hl : g.length ≤ 2000) : ∀ (d i : Nat) (w s h : Int), i + d = g.length → (0 ≤ w ∧ w ≤ (i : Int) * 1073741823) → (0 ≤ s ∧ s ≤ (i : Int) * 1073741823) → (0 ≤ h ∧ h ≤ (i : Int) * 1073741823) → Ev (fun k => glue_May.l0 k g (g.length : Int) (i : Int) w s h) (mv g d i w s h) := by
  intro d
  induction d with
  | zero =>
    intro i w s h hi hw hs hh
    have g0 : ¬ (i : Int) < (g.length : Int) := by omega
    refine Ev.step (f := fun _ => some _) (fun k => ?_) (Ev.now _)
    simp only [glue_May.l0]
    rw [if_neg g0, amount_f, amount_f, amount_f]
    simp only [Option.bind_some, mv]
    cases am w <;> cases am s <;> rfl
  | succ d ih =>
    intro i w s h hi hw hs hh
    have g1 : (i : Int) < (g.length : Int) := by omega
    have g2 : (0 : Int) ≤ (i : Int) := by omega
    have g3 : i ≤ 1000000000000000 := by omega
    by_cases a1 : fi (rd_T45 g (i : Int)).f0 = true
    · by_cases a2 : am (rd_T45 g (i : Int)).f1 = true
      · by_cases a3 : am (rd_T45 g (i : Int)).f2 = true
        · by_cases a4 : (rd_T45 g (i : Int)).f3 < 0
          · refine Ev.step (f := fun _ => some _) (fun k => ?_) (Ev.now _)
            simp only [glue_May.l0]
            rw [if_pos g1, if_pos g2, if_pos g1, fits_f]
            simp only [Option.bind_some]
            rw [if_pos a1, amount_f]; simp only [Option.bind_some]
            rw [if_pos a2, amount_f]; simp only [Option.bind_some]
            rw [if_pos a3, if_pos a4]
            simp [mv, a1, a2, a3, a4]
          · by_cases a5 : (rd_T45 g (i : Int)).f3 > 3
            · refine Ev.step (f := fun _ => some _) (fun k => ?_) (Ev.now _)
              simp only [glue_May.l0]
              rw [if_pos g1, if_pos g2, if_pos g1, fits_f]
              simp only [Option.bind_some]
              rw [if_pos a1, amount_f]; simp only [Option.bind_some]
              rw [if_pos a2, amount_f]; simp only [Option.bind_some]
              rw [if_pos a3, if_neg a4, if_pos a5]
              simp [mv, a1, a2, a3, a4, a5]
            · have b1 := fi_iff.1 a1
              have b2 := am_iff.1 a2
              have b3 := am_iff.1 a3
              have e0 : wrap64 (-(rd_T45 g (i : Int)).f0) = -(rd_T45 g (i : Int)).f0 := wrap_small (by omega)
              have m1 : 0 ≤ mx (rd_T45 g (i : Int)).f0 (-(rd_T45 g (i : Int)).f0) ∧ mx (rd_T45 g (i : Int)).f0 (-(rd_T45 g (i : Int)).f0) ≤ 1073741823 := by unfold mx; split <;> omega
              have e1 : wrap64 (w + mx (rd_T45 g (i : Int)).f0 (-(rd_T45 g (i : Int)).f0)) = w + mx (rd_T45 g (i : Int)).f0 (-(rd_T45 g (i : Int)).f0) := wrap_small (by omega)
              have e2 : wrap64 (s + (rd_T45 g (i : Int)).f1) = s + (rd_T45 g (i : Int)).f1 := wrap_small (by omega)
              have e3 : wrap64 (h + (rd_T45 g (i : Int)).f2) = h + (rd_T45 g (i : Int)).f2 := wrap_small (by omega)
              have hv : mv g (d + 1) i w s h = mv g d (i + 1) (w + mx (rd_T45 g (i : Int)).f0 (-(rd_T45 g (i : Int)).f0)) (s + (rd_T45 g (i : Int)).f1) (h + (rd_T45 g (i : Int)).f2) := by
                simp only [mv]; rw [if_pos a1, if_pos a2, if_pos a3, if_neg a4, if_neg a5]
              rw [hv]
              refine Ev.step (fun k => ?_) (ih (i + 1) (w + mx (rd_T45 g (i : Int)).f0 (-(rd_T45 g (i : Int)).f0)) (s + (rd_T45 g (i : Int)).f1) (h + (rd_T45 g (i : Int)).f2) (by omega) (by omega) (by omega) (by omega))
              simp only [glue_May.l0]
              rw [if_pos g1, if_pos g2, if_pos g1, fits_f]
              simp only [Option.bind_some]
              rw [if_pos a1, amount_f]; simp only [Option.bind_some]
              rw [if_pos a2, amount_f]; simp only [Option.bind_some]
              rw [if_pos a3, if_neg a4, if_neg a5, e0, e1, e2, e3, succ_w i g3]
        · refine Ev.step (f := fun _ => some _) (fun k => ?_) (Ev.now _)
          simp only [glue_May.l0]
          rw [if_pos g1, if_pos g2, if_pos g1, fits_f]
          simp only [Option.bind_some]
          rw [if_pos a1, amount_f]; simp only [Option.bind_some]
          rw [if_pos a2, amount_f]; simp only [Option.bind_some]
          rw [if_neg a3]
          simp [mv, a1, a2, a3]
      · refine Ev.step (f := fun _ => some _) (fun k => ?_) (Ev.now _)
        simp only [glue_May.l0]
        rw [if_pos g1, if_pos g2, if_pos g1, fits_f]
        simp only [Option.bind_some]
        rw [if_pos a1, amount_f]; simp only [Option.bind_some]
        rw [if_neg a2]
        simp [mv, a1, a2]
    · refine Ev.step (f := fun _ => some _) (fun k => ?_) (Ev.now _)
      simp only [glue_May.l0]
      rw [if_pos g1, if_pos g2, if_pos g1, fits_f]
      simp only [Option.bind_some]
      rw [if_neg a1]
      simp [mv, a1]
theorem gmay_ev (g : List S45) : Ev (fun k => glue_May.f k g) (my g) := by
  unfold glue_May.f my
  by_cases h : (g.length : Int) > 2000
  · simp only [if_pos h]; exact Ev.now _
  · simp only [if_neg h]
    have := may2_loop g (by omega) g.length 0 0 0 0 (by omega) (by omega) (by omega) (by omega)
    simpa using this

/-! ## Total -/
abbrev T6 := Int × Int × Int × Int × Int × Int
def tv (g : List S45) : Nat → Nat → Int → Int → Int → Int → Int → Int → T6
  | 0, _, w, h, s0, s1, s2, s3 => (w, h, s0, s1, s2, s3)
  | d + 1, i, w, h, s0, s1, s2, s3 =>
    if (rd_T45 g (i : Int)).f3 = 0 then tv g d (i + 1) (wrap64 (w + (rd_T45 g (i : Int)).f0)) (wrap64 (h + (rd_T45 g (i : Int)).f2)) (wrap64 (s0 + (rd_T45 g (i : Int)).f1)) s1 s2 s3
    else if (rd_T45 g (i : Int)).f3 = 1 then tv g d (i + 1) (wrap64 (w + (rd_T45 g (i : Int)).f0)) (wrap64 (h + (rd_T45 g (i : Int)).f2)) s0 (wrap64 (s1 + (rd_T45 g (i : Int)).f1)) s2 s3
    else if (rd_T45 g (i : Int)).f3 = 2 then tv g d (i + 1) (wrap64 (w + (rd_T45 g (i : Int)).f0)) (wrap64 (h + (rd_T45 g (i : Int)).f2)) s0 s1 (wrap64 (s2 + (rd_T45 g (i : Int)).f1)) s3
    else tv g d (i + 1) (wrap64 (w + (rd_T45 g (i : Int)).f0)) (wrap64 (h + (rd_T45 g (i : Int)).f2)) s0 s1 s2 (wrap64 (s3 + (rd_T45 g (i : Int)).f1))
def tt (g : List S45) : T6 := if my g = true then tv g g.length 0 0 0 0 0 0 0 else (0, 0, 0, 0, 0, 0)
theorem tv_pos (g : List S45) (hl : g.length ≤ 2000) (hg : ∀ j : Nat, j < g.length → (fi (rd_T45 g (j : Int)).f0 = true ∧ am (rd_T45 g (j : Int)).f1 = true ∧ 0 ≤ (rd_T45 g (j : Int)).f3 ∧ (rd_T45 g (j : Int)).f3 ≤ 3)) :
    ∀ d i w h s0 s1 s2 s3, i + d = g.length → (0 ≤ s0 ∧ s0 ≤ (i : Int) * 1073741823) → (0 ≤ s1 ∧ s1 ≤ (i : Int) * 1073741823) → (0 ≤ s2 ∧ s2 ≤ (i : Int) * 1073741823) → (0 ≤ s3 ∧ s3 ≤ (i : Int) * 1073741823) →
      0 ≤ (tv g d i w h s0 s1 s2 s3).2.2.1 ∧ 0 ≤ (tv g d i w h s0 s1 s2 s3).2.2.2.1 ∧ 0 ≤ (tv g d i w h s0 s1 s2 s3).2.2.2.2.1 ∧ 0 ≤ (tv g d i w h s0 s1 s2 s3).2.2.2.2.2
  | 0, i, w, h, s0, s1, s2, s3 => fun _ h0 h1 h2 h3 => ⟨h0.1, h1.1, h2.1, h3.1⟩
  | d + 1, i, w, h, s0, s1, s2, s3 => fun hi h0 h1 h2 h3 => by
    have b2 := am_iff.1 (hg i (by omega)).2.1
    have e0 : wrap64 (s0 + (rd_T45 g (i : Int)).f1) = s0 + (rd_T45 g (i : Int)).f1 := wrap_small (by omega)
    have e1 : wrap64 (s1 + (rd_T45 g (i : Int)).f1) = s1 + (rd_T45 g (i : Int)).f1 := wrap_small (by omega)
    have e2 : wrap64 (s2 + (rd_T45 g (i : Int)).f1) = s2 + (rd_T45 g (i : Int)).f1 := wrap_small (by omega)
    have e3 : wrap64 (s3 + (rd_T45 g (i : Int)).f1) = s3 + (rd_T45 g (i : Int)).f1 := wrap_small (by omega)
    simp only [tv]
    rw [e0, e1, e2, e3]
    split
    · exact tv_pos g hl hg d (i + 1) _ _ _ _ _ _ (by omega) (by omega) (by omega) (by omega) (by omega)
    · split
      · exact tv_pos g hl hg d (i + 1) _ _ _ _ _ _ (by omega) (by omega) (by omega) (by omega) (by omega)
      · split
        · exact tv_pos g hl hg d (i + 1) _ _ _ _ _ _ (by omega) (by omega) (by omega) (by omega) (by omega)
        · exact tv_pos g hl hg d (i + 1) _ _ _ _ _ _ (by omega) (by omega) (by omega) (by omega) (by omega)
theorem tt_pos (g : List S45) : 0 ≤ (tt g).2.2.1 ∧ 0 ≤ (tt g).2.2.2.1 ∧ 0 ≤ (tt g).2.2.2.2.1 ∧ 0 ≤ (tt g).2.2.2.2.2 := by
  unfold tt
  split
  · rename_i h
    have := my_all h
    exact tv_pos g this.1 this.2 _ _ _ _ _ _ _ _ (by omega) (by omega) (by omega) (by omega) (by omega)
  · simp
def t7 (t : T6) (b : Bool) : Int × Int × Int × Int × Int × Int × Bool := (t.1, t.2.1, t.2.2.1, t.2.2.2.1, t.2.2.2.2.1, t.2.2.2.2.2, b)
theorem total_loop (g : List S45) (hl : g.length ≤ 2000) (hg : ∀ j : Nat, j < g.length → (0 ≤ (rd_T45 g (j : Int)).f3 ∧ (rd_T45 g (j : Int)).f3 ≤ 3)) : ∀ (d i : Nat) (w h s0 s1 s2 s3 : Int), i + d = g.length → Ev (fun k => glue_Total.l0 k g w h s0 s1 s2 s3 (i : Int)) (t7 (tv g d i w h s0 s1 s2 s3) true) := by
  intro d
  induction d with
  | zero =>
    intro i w h s0 s1 s2 s3 hi
    have g0 : ¬ (i : Int) < (g.length : Int) := by omega
    refine Ev.step (f := fun _ => some _) (fun k => ?_) (Ev.now _)
    simp only [glue_Total.l0]
    rw [if_neg g0]; rfl
  | succ d ih =>
    intro i w h s0 s1 s2 s3 hi
    have g1 : (i : Int) < (g.length : Int) := by omega
    have g2 : (0 : Int) ≤ (i : Int) := by omega
    have g3 : i ≤ 1000000000000000 := by omega
    have g4 := hg i (by omega)
    by_cases a0 : (rd_T45 g (i : Int)).f3 = 0
    · simp only [tv]
      rw [if_pos a0]
      refine Ev.step (fun k => ?_) (ih (i + 1) _ _ _ _ _ _ (by omega))
      simp only [glue_Total.l0]
      rw [if_pos g1, if_pos g2, if_pos a0, succ_w i g3]
    · by_cases a1 : (rd_T45 g (i : Int)).f3 = 1
      · simp only [tv]
        rw [if_neg a0, if_pos a1]
        refine Ev.step (fun k => ?_) (ih (i + 1) _ _ _ _ _ _ (by omega))
        simp only [glue_Total.l0]
        rw [if_pos g1, if_pos g2, if_neg a0, if_pos a1, succ_w i g3]
      · by_cases a2 : (rd_T45 g (i : Int)).f3 = 2
        · simp only [tv]
          rw [if_neg a0, if_neg a1, if_pos a2]
          refine Ev.step (fun k => ?_) (ih (i + 1) _ _ _ _ _ _ (by omega))
          simp only [glue_Total.l0]
          rw [if_pos g1, if_pos g2, if_neg a0, if_neg a1, if_pos a2, succ_w i g3]
        · have a3 : (rd_T45 g (i : Int)).f3 = 3 := by omega
          simp only [tv]
          rw [if_neg a0, if_neg a1, if_neg a2]
          refine Ev.step (fun k => ?_) (ih (i + 1) _ _ _ _ _ _ (by omega))
          simp only [glue_Total.l0]
          rw [if_pos g1, if_pos g2, if_neg a0, if_neg a1, if_neg a2, if_pos a3, succ_w i g3]
theorem total_ev (g : List S45) : Ev (fun k => glue_Total.f k g) (t7 (tt g) (my g)) := by
  unfold glue_Total.f tt
  refine Ev.bind (gmay_ev g) ?_
  by_cases h : my g = true
  · have a := my_all h
    rw [h]; simp only [if_pos]
    exact total_loop g a.1 (fun j hj => (a.2 j hj).2.2) g.length 0 _ _ _ _ _ _ (by omega)
  · simp only [if_neg h]
    rw [Bool.eq_false_iff.mpr h]; exact Ev.now _

/-! ## Sub, badness, and how a line is set -/
def sb (a b : Int) : Int × Bool := if fi a = true then (if fi b = true then (if fi (wrap64 (a - b)) = true then (wrap64 (a - b), true) else (0, false)) else (0, false)) else (0, false)
theorem fitted_f (a : Int) (b : Bool) : scaled_fitted.f a b = some (if b = true then (if fi a = true then (a, true) else (0, false)) else (0, false)) := by
  unfold scaled_fitted.f
  cases b
  · rfl
  · simp only [if_true, fits_f, Option.bind_some]; split <;> rfl
theorem sub_f (a b : Int) : scaled_Sub.f a b = some (sb a b) := by
  unfold scaled_Sub.f sb
  rw [fits_f]; simp only [Option.bind_some]
  by_cases h : fi a = true
  · rw [if_pos h, if_pos h, fits_f]; simp only [Option.bind_some, fitted_f]
  · rw [if_neg h, if_neg h]; simp only [fitted_f, Option.bind_some]; rfl
def fin (r : Int) : Int := if r > 1290 then 10000 else wrap64 (Int.tdiv (wrap64 ((wrap64 ((wrap64 (r * r)) * r)) + 131072)) 262144)
def bd (t s : Int) : Int := if am t = true then (if am s = true then (if t = 0 then 0 else if s = 0 then 10000 else if t ≤ 7230584 then fin (wrap64 (Int.tdiv (wrap64 (t * 297)) s)) else if s ≥ 1663497 then fin (wrap64 (Int.tdiv t (wrap64 (Int.tdiv s 297)))) else fin t) else -1) else -1
theorem quot_ne (s : Int) (h : s ≥ 1663497) (h2 : s ≤ 1073741823) : ¬ wrap64 (Int.tdiv s 297) = 0 := by
  have e : Int.tdiv s 297 = s / 297 := Int.tdiv_eq_ediv_of_nonneg (by omega)
  rw [e, wrap_small (by omega)]; omega
theorem bad_j (t s : Int) (b : Bool) (hb : b = false → (0 ≤ t ∧ t ≤ 1073741823) ∧ (0 ≤ s ∧ s ≤ 1073741823)) : Ev (fun k => glue_Badness.j0 k t s b) (if b = true then -1 else bd t s) := by
  refine Ev.step (f := fun _ => some _) (fun k => ?_) (Ev.now _)
  simp only [glue_Badness.j0]
  cases b
  · obtain ⟨h1, h2⟩ := hb rfl
    have q := fun h => quot_ne s h h2.2
    simp only [Bool.false_eq_true, if_false]
    unfold bd
    rw [if_pos (am_iff.2 h1), if_pos (am_iff.2 h2)]
    by_cases c1 : t = 0
    · rw [if_pos c1, if_pos c1]
    · rw [if_neg c1, if_neg c1]
      by_cases c2 : s = 0
      · rw [if_pos c2, if_pos c2]
      · rw [if_neg c2, if_neg c2]
        by_cases c3 : t ≤ 7230584
        · rw [if_pos c3, if_pos c3]; unfold fin; split <;> rfl
        · rw [if_neg c3, if_neg c3]
          by_cases c4 : s ≥ 1663497
          · rw [if_pos c4, if_pos c4, if_neg (q c4)]; unfold fin; split <;> rfl
          · rw [if_neg c4, if_neg c4]; unfold fin; split <;> rfl
  · rfl
theorem bad_ev (t s : Int) : Ev (fun k => glue_Badness.f k t s) (bd t s) := by
  unfold glue_Badness.f
  refine Ev.bind (a := am t) (by rw [amount_f]; exact Ev.now _) ?_
  by_cases h1 : am t = true
  · simp only [if_pos h1]
    refine Ev.bind (a := am s) (by rw [amount_f]; exact Ev.now _) ?_
    by_cases h2 : am s = true
    · rw [h2]
      exact bad_j t s false (fun _ => ⟨am_iff.1 h1, am_iff.1 h2⟩)
    · have e : bd t s = -1 := by unfold bd; rw [if_pos h1, if_neg h2]
      rw [Bool.eq_false_iff.mpr h2, e]
      exact bad_j t s true (fun h => absurd h (by decide))
  · simp only [if_neg h1]
    have e : bd t s = -1 := by unfold bd; rw [if_neg h1]
    rw [e]
    exact bad_j t s true (fun h => absurd h (by decide))

abbrev T5 := Int × Int × Int × Int × Bool
def sw (e : Int) (x : T6) : T5 :=
  if e < 0 then (-1, 0, e, (if wrap64 (-e) > x.2.1 then 1000000 else bd (wrap64 (-e)) x.2.1), true)
  else if e > 0 then (if x.2.2.2.2.2 = 0 then (if x.2.2.2.2.1 = 0 then (if x.2.2.2.1 = 0 then (if x.2.2.1 = 0 then (0, 0, e, 10000, true) else (1, 0, e, bd e x.2.2.1, true)) else (1, 1, e, 0, true)) else (1, 2, e, 0, true)) else (1, 3, e, 0, true))
  else (0, 0, e, 0, true)
def sv (g : List S45) (target : Int) : T5 := if my g = true then (if (sb target (tt g).1).2 = true then sw (sb target (tt g).1).1 (tt g) else (0, 0, 0, 0, false)) else (0, 0, 0, 0, false)
theorem set_j2 (x0 x1 x2 x3 x4 x5 y0 y1 y2 y3 : Int) : Ev (fun k => glue_Set.j2 k x0 x1 x2 x3 x4 x5 y0 y1 y2 y3) (if x5 = 0 then (if x4 = 0 then (y0, y1, y2, y3, true) else (1, 2, y2, 0, true)) else (1, 3, y2, 0, true)) := by
  refine Ev.step (f := fun _ => some _) (fun k => ?_) (Ev.now _)
  simp only [glue_Set.j2]
  by_cases c4 : x4 = 0
  · rw [if_pos c4, if_pos c4]; split <;> rfl
  · rw [if_neg c4, if_neg c4]; split <;> rfl
theorem set_j1 (x0 x1 x2 x3 x4 x5 y0 y1 y2 y3 : Int) : Ev (fun k => glue_Set.j1 k x0 x1 x2 x3 x4 x5 y0 y1 y2 y3) (if x5 = 0 then (if x4 = 0 then (if x3 = 0 then (y0, y1, y2, y3, true) else (1, 1, y2, 0, true)) else (1, 2, y2, 0, true)) else (1, 3, y2, 0, true)) := by
  by_cases c3 : x3 = 0
  · refine Ev.step (f := fun k => glue_Set.j2 k x0 x1 x2 x3 x4 x5 y0 y1 y2 y3) (fun k => by simp only [glue_Set.j1]; rw [if_pos c3]) ?_
    rw [if_pos c3]; exact set_j2 ..
  · refine Ev.step (f := fun k => glue_Set.j2 k x0 x1 x2 x3 x4 x5 1 1 y2 0) (fun k => by simp only [glue_Set.j1]; rw [if_neg c3]) ?_
    rw [if_neg c3]; exact set_j2 ..
theorem set_no (e : Int) (x0 x1 x2 x3 x4 x5 : Int) : Ev (fun k => glue_Set.j0 k e true x0 x1 x2 x3 x4 x5) (0, 0, 0, 0, false) :=
  Ev.step (f := fun _ => some _) (fun k => by simp only [glue_Set.j0]; rw [if_pos trivial]) (Ev.now _)
theorem set_yes (e : Int) (x0 x1 x2 x3 x4 x5 : Int) : Ev (fun k => glue_Set.j0 k e false x0 x1 x2 x3 x4 x5) (sw e (x0, x1, x2, x3, x4, x5)) := by
  unfold sw
  by_cases c1 : e < 0
  · rw [if_pos c1]
    refine Ev.step (f := fun k => (glue_Badness.f k (wrap64 (-e)) x1).bind fun t => (if (wrap64 (-e)) > x1 then (some ((-1), 0, e, 1000000, true)) else (some ((-1), 0, e, t, true)))) (fun k => by simp only [glue_Set.j0]; rw [if_neg (by decide), if_pos c1]) (Ev.bind (bad_ev _ _) ?_)
    by_cases c2 : wrap64 (-e) > x1
    · simp only [if_pos c2]; exact Ev.now _
    · simp only [if_neg c2]; exact Ev.now _
  · rw [if_neg c1]
    by_cases c2 : e > 0
    · rw [if_pos c2]
      by_cases c3 : x2 = 0
      · refine Ev.step (f := fun k => glue_Set.j1 k x0 x1 x2 x3 x4 x5 0 0 e 10000) (fun k => by simp only [glue_Set.j0]; rw [if_neg (by decide), if_neg c1, if_pos c2, if_pos c3]) ?_
        simp only [if_pos c3]; exact set_j1 ..
      · refine Ev.step (f := fun k => (glue_Badness.f k e x2).bind fun t => glue_Set.j1 k x0 x1 x2 x3 x4 x5 1 0 e t) (fun k => by simp only [glue_Set.j0]; rw [if_neg (by decide), if_neg c1, if_pos c2, if_neg c3]) (Ev.bind (bad_ev _ _) ?_)
        simp only [if_neg c3]; exact set_j1 ..
    · rw [if_neg c2]
      exact Ev.step (f := fun _ => some _) (fun k => by simp only [glue_Set.j0]; rw [if_neg (by decide), if_neg c1, if_neg c2]) (Ev.now _)
theorem set_ev (g : List S45) (target : Int) : Ev (fun k => glue_Set.f k g target) (sv g target) := by
  unfold glue_Set.f sv
  refine Ev.bind (total_ev g) ?_
  refine Ev.bind (a := sb target (tt g).1) (by rw [show (t7 (tt g) (my g)).1 = (tt g).1 from rfl, sub_f]; exact Ev.now _) ?_
  by_cases h : my g = true
  · rw [h]; simp only [t7, if_true]
    by_cases h2 : (sb target (tt g).1).2 = true
    · rw [if_pos h2, h2]; exact set_yes ..
    · rw [if_neg h2, Bool.eq_false_iff.mpr h2]; exact set_no ..
  · rw [Bool.eq_false_iff.mpr h]; simp only [t7, if_neg (by decide : ¬ (false = true))]
    exact set_no ..
theorem sv_sign (g : List S45) (t : Int) : (sv g t).1 = -1 ∨ (sv g t).1 = 0 ∨ (sv g t).1 = 1 := by
  unfold sv sw; repeat' split
  all_goals simp

end Go.Proofs.Ytnkdopihaohimaa.Pure

namespace Go.Proofs.Ytnkdopihaohimaa.Pure
set_option linter.unusedVariables false
set_option linter.unusedSimpArgs false
open Go.RowKit Go.Proofs.Ytnkdopihaohimaa.PBr Go.Proofs.YtnkdopihaohimaaW.PrintWords Go.Proofs.YtnkdopihaohimaaW.PrintLast Go.Proofs.YtnkdopihaohimaaW.PrintMore

def lv (l : List S47) (a b w : Int) : T5 := if mb l a b = true then sv (gs l a b) w else (0, 0, 0, 0, false)
def d0 (bad : Int) : Int := wrap64 ((wrap64 (bad + 10)) * (wrap64 (bad + 10)))
def d1 (bad : Int) (x : S47) : Int := if x.f0 = 2 then (if x.f2 > 0 then wrap64 (d0 bad + wrap64 (x.f2 * x.f2)) else if fz x = true then d0 bad else wrap64 (d0 bad - wrap64 (x.f2 * x.f2))) else d0 bad
def dm (bad : Int) (bh : Bool) (x : S47) : Int := if bh = true then (if x.f3 = true then wrap64 (d1 bad x + 10000) else d1 bad x) else d1 bad x
theorem dem_f (s o e bad : Int) (bh : Bool) (x : S47) : demerit_Demerits.f s o e bad bh x.f0 x.f1.f0 x.f1.f1 x.f1.f2 x.f1.f3 x.f2 x.f3 x.f4 x.f5 = some (dm bad bh x) := by
  unfold demerit_Demerits.f dm d1 d0
  by_cases h : x.f0 = 2
  · rw [if_pos h, if_pos h]
    by_cases h2 : x.f2 > 0
    · rw [if_pos h2, if_pos h2]; split
      · split <;> rfl
      · rfl
    · rw [if_neg h2, if_neg h2, forced_f]; simp only [Option.bind_some]
      split
      · split
        · split <;> rfl
        · rfl
      · split
        · split <;> rfl
        · rfl
  · rw [if_neg h, if_neg h]; split
    · split <;> rfl
    · rfl
def cs (sign bad : Int) : Int := if bad ≤ 12 then 2 else if sign < 0 then 3 else if bad < 100 then 1 else 0
theorem class_f (s o e bad : Int) : demerit_Class.f s o e bad = some (cs s bad) := by
  unfold demerit_Class.f cs
  repeat' split
  all_goals rfl
theorem cs_in (s b : Int) : 0 ≤ cs s b ∧ cs s b ≤ 3 := by unfold cs; repeat' split
                                                          all_goals omega

def cv (l : List S47) (a b w tol : Int) : Int × Int × Bool :=
  if (lv l a b w).2.2.2.2 = true then (if (lv l a b w).2.2.2.1 > mn tol 10000 then (0, 0, false) else (dm (lv l a b w).2.2.2.1 (if a ≥ 0 then (rd_T47 l (mx a 0)).f3 else false) (rd_T47 l b), cs (lv l a b w).1 (lv l a b w).2.2.2.1, true)) else (0, 0, false)
theorem lv_ok {l : List S47} {a b w : Int} (h : (lv l a b w).2.2.2.2 = true) : mb l a b = true := by
  unfold lv at h
  by_cases c : mb l a b = true
  · exact c
  · rw [if_neg c] at h; exact absurd h (by decide)
theorem cv_ok {l : List S47} {a b w tol : Int} (h : (cv l a b w tol).2.2 = true) : mb l a b = true ∧ (cv l a b w tol).1 = dm (lv l a b w).2.2.2.1 (if a ≥ 0 then (rd_T47 l (mx a 0)).f3 else false) (rd_T47 l b) ∧ (cv l a b w tol).2.1 = cs (lv l a b w).1 (lv l a b w).2.2.2.1 ∧ (lv l a b w).2.2.2.2 = true ∧ (lv l a b w).2.2.2.1 ≤ mn tol 10000 := by
  unfold cv at h ⊢
  by_cases c : (lv l a b w).2.2.2.2 = true
  · rw [if_pos c] at h ⊢
    by_cases c2 : (lv l a b w).2.2.2.1 > mn tol 10000
    · rw [if_pos c2] at h; exact absurd h (by decide)
    · rw [if_neg c2]; exact ⟨lv_ok c, rfl, rfl, c, by omega⟩
  · rw [if_neg c] at h; exact absurd h (by decide)
theorem cv_no {l : List S47} {a b w tol : Int} (h : ¬ (cv l a b w tol).2.2 = true) : cv l a b w tol = (0, 0, false) := by
  unfold cv at h ⊢
  by_cases c : (lv l a b w).2.2.2.2 = true
  · rw [if_pos c] at h ⊢
    by_cases c2 : (lv l a b w).2.2.2.1 > mn tol 10000
    · rw [if_pos c2]
    · rw [if_neg c2] at h; exact absurd rfl h
  · rw [if_neg c]
def ap (c h : Int) : Int := if wrap64 (c - h) > 1 then 10000 else if wrap64 (h - c) > 1 then 10000 else 0
theorem apart_f (c h : Int) : demerit_Apart.f c h = some (ap c h) := by
  unfold demerit_Apart.f ap
  repeat' split
  all_goals rfl
def tl (l : List S47) (w tol : Int) (bs : List Int) : Nat → Nat → Int → Int → Int → Int × Bool
  | 0, _, s, _, _ => (s, true)
  | d + 1, i, s, a, h => if (cv l a (rd bs (i : Int)) w tol).2.2 = true then tl l w tol bs d (i + 1) (wrap64 (s + wrap64 ((cv l a (rd bs (i : Int)) w tol).1 + ap (cv l a (rd bs (i : Int)) w tol).2.1 h))) (rd bs (i : Int)) (cv l a (rd bs (i : Int)) w tol).2.1 else (0, false)
def to_ (l : List S47) (bs : List Int) (w tol : Int) : Int × Bool := if bs.length = 0 then (0, false) else if rd bs ((bs.length : Int) - 1) ≠ (l.length : Int) - 1 then (0, false) else tl l w tol bs bs.length 0 0 (-1) 2

end Go.Proofs.Ytnkdopihaohimaa.Pure

namespace Go.Proofs.Ytnkdopihaohimaa.Pure
set_option linter.unusedVariables false
set_option linter.unusedSimpArgs false
open Go.RowKit Go.Proofs.Ytnkdopihaohimaa.PBr Go.Proofs.YtnkdopihaohimaaW.PrintWords Go.Proofs.YtnkdopihaohimaaW.PrintLast Go.Proofs.YtnkdopihaohimaaW.PrintMore

theorem fi_am {a : Int} (h : 0 ≤ a) : fi a = am a := by
  unfold fi am; exact decide_eq_decide.2 ⟨fun x => ⟨h, x.2⟩, fun x => ⟨by omega, x.2⟩⟩
theorem neg_am {a : Int} (h : a < 0) : am a = false := by unfold am; exact decide_eq_false (fun x => by omega)
/-! ## An item by itself -/
def rj (p : Bool) (x : S47) : Bool :=
  if x.f0 = 0 then (p && (x.f2 == 0 && (!x.f3 && (decide (x.f4 ≥ 0) && decide (x.f5 ≥ 0)))))
  else if x.f0 = 1 then (my [x.f1] && (decide (x.f1.f0 ≥ x.f1.f2) && (x.f2 == 0 && (!x.f3 && (x.f4 == 0 && x.f5 == 0)))))
  else if x.f0 = 2 then (p && (decide (x.f2 ≥ -10000) && (decide (x.f2 ≤ 10000) && (x.f4 == 0 && x.f5 == 0)))) else false
def pl (x : S47) : Bool := x.f1.f1 == 0 && (x.f1.f2 == 0 && (x.f1.f3 == 0 && am x.f1.f0))
def ri (x : S47) : Bool := rj (pl x) x
theorem right_j0 (p : Bool) (x : S47) : Ev (fun k => item_right.j0 k p x.f0 x.f1.f0 x.f1.f1 x.f1.f2 x.f1.f3 x.f2 x.f3 x.f4 x.f5) (rj p x) := by
  unfold rj
  by_cases h0 : x.f0 = 0
  · rw [if_pos h0]
    refine Ev.step (f := fun _ => some _) (fun k => ?_) (Ev.now _)
    simp only [item_right.j0]
    rw [if_pos h0]
    by_cases a : p = true
    · rw [if_pos a]
      by_cases b : x.f2 = 0
      · rw [if_pos b]
        by_cases c : x.f3 = true
        · rw [if_pos c]; simp [a, b, c]
        · rw [if_neg c]
          by_cases e : x.f4 ≥ 0
          · rw [if_pos e]; simp [a, b, c, e]
          · rw [if_neg e]; simp [a, b, c, e]
      · rw [if_neg b]; simp [a, b]
    · rw [if_neg a]; simp [a]
  · rw [if_neg h0]
    by_cases h1 : x.f0 = 1
    · rw [if_pos h1]
      refine Ev.step (f := fun k => (glue_May.f k [x.f1]).bind fun t116 => (if t116 = true then (if x.f1.f0 ≥ x.f1.f2 then (if x.f2 = 0 then (if x.f3 = true then (some false) else (if x.f2 ≥ (-10000) then (if x.f2 ≤ 10000 then (if x.f4 = 0 then (some (x.f5 == 0)) else (some false)) else (some false)) else (some false))) else (some false)) else (some false)) else (some false))) (fun k => ?_) (Ev.bind (gmay_ev [x.f1]) ?_)
      · simp only [item_right.j0]
        rw [if_neg h0, if_pos h1]
      · by_cases a : my [x.f1] = true
        · simp only [if_pos a]
          by_cases b : x.f1.f0 ≥ x.f1.f2
          · simp only [if_pos b]
            by_cases c : x.f2 = 0
            · simp only [if_pos c]
              by_cases e : x.f3 = true
              · simp only [if_pos e]; simp [e]; exact Ev.now _
              · have c1 : x.f2 ≥ -10000 := by omega
                have c2 : x.f2 ≤ 10000 := by omega
                simp only [if_neg e, if_pos c1, if_pos c2]
                by_cases f : x.f4 = 0
                · simp only [if_pos f]; simp [a, b, c, e, f]; exact Ev.now _
                · simp only [if_neg f]; rw [(beq_eq_false_iff_ne.mpr f : (x.f4 == 0) = false)]; simp only [Bool.false_and, Bool.and_false]; exact Ev.now _
            · simp only [if_neg c]; rw [(beq_eq_false_iff_ne.mpr c : (x.f2 == 0) = false)]; simp only [Bool.false_and, Bool.and_false]; exact Ev.now _
          · simp only [if_neg b]; rw [show decide (x.f1.f0 ≥ x.f1.f2) = false from decide_eq_false b]; simp only [Bool.false_and, Bool.and_false]; exact Ev.now _
        · simp only [if_neg a]; rw [Bool.eq_false_iff.mpr a]; simp only [Bool.false_and, Bool.and_false]; exact Ev.now _
    · rw [if_neg h1]
      refine Ev.step (f := fun _ => some _) (fun k => ?_) (Ev.now _)
      simp only [item_right.j0]
      rw [if_neg h0, if_neg h1]
      by_cases h2 : x.f0 = 2
      · rw [if_pos h2, if_pos h2]
        by_cases a : p = true
        · rw [if_pos a]
          by_cases b : x.f2 ≥ -10000
          · rw [if_pos b]
            by_cases c : x.f2 ≤ 10000
            · rw [if_pos c]
              by_cases e : x.f4 = 0
              · rw [if_pos e]; simp [a, b, c, e]
              · rw [if_neg e]; simp [e]
            · rw [if_neg c]; simp [c]
          · rw [if_neg b]; simp [b]
        · rw [if_neg a]; simp [a]
      · rw [if_neg h2, if_neg h2]
theorem right_ev (x : S47) : Ev (fun k => item_right.f k x.f0 x.f1.f0 x.f1.f1 x.f1.f2 x.f1.f3 x.f2 x.f3 x.f4 x.f5) (ri x) := by
  unfold item_right.f ri
  by_cases h : (x.f1.f1 == 0 && (x.f1.f2 == 0 && (x.f1.f3 == 0))) = true
  · simp only [if_pos h]
    by_cases a : x.f1.f0 ≥ 0
    · simp only [if_pos a, fits_f, Option.bind_some]
      have e : pl x = fi x.f1.f0 := by
        unfold pl; rw [fi_am a]
        simp only [Bool.and_eq_true] at h
        rw [h.1, h.2.1, h.2.2]; rfl
      rw [e]; exact right_j0 _ x
    · simp only [if_neg a]
      have e : pl x = false := by unfold pl; rw [neg_am (by omega)]; simp
      rw [e]; exact right_j0 _ x
  · simp only [if_neg h]
    have e : pl x = false := by
      cases q : pl x
      · rfl
      · exfalso; apply h; unfold pl at q; simp only [Bool.and_eq_true] at q ⊢; exact ⟨q.1, q.2.1, q.2.2.1⟩
    rw [e]; exact right_j0 _ x
/-! ## All items -/
def ar (l : List S47) : Nat → Nat → Bool
  | 0, _ => true
  | d + 1, i => ri (rd_T47 l (i : Int)) && ar l d (i + 1)
def gq (l : List S47) : Nat → Nat → List S45
  | 0, _ => []
  | d + 1, i => (rd_T47 l (i : Int)).f1 :: gq l d (i + 1)
def mi (l : List S47) : Bool := decide ((l.length : Int) ≤ 2000) && (ar l l.length 0 && my (gq l l.length 0))
theorem imay_loop (l : List S47) (hl : l.length ≤ 2000) : ∀ (d i : Nat) (acc : List S45), i + d = l.length → acc.length ≤ i → Ev (fun k => item_May.l0 k acc l (l.length : Int) (i : Int)) (ar l d i && my (acc ++ gq l d i)) := by
  intro d
  induction d with
  | zero =>
    intro i acc hi ha
    have g0 : ¬ (i : Int) < (l.length : Int) := by omega
    refine Ev.step (f := fun k => (glue_May.f k acc).bind fun t => some t) (fun k => ?_) (Ev.bind (gmay_ev acc) ?_)
    · simp only [item_May.l0]; rw [if_neg g0]
    · simp [ar, gq]; exact Ev.now _
  | succ d ih =>
    intro i acc hi ha
    have g1 : (i : Int) < (l.length : Int) := by omega
    have g2 : (0 : Int) ≤ (i : Int) := by omega
    have g3 : i ≤ 1000000000000000 := by omega
    have g4 : acc.length < 4398046511104 := by omega
    refine Ev.step (f := fun k => (item_right.f k (rd_T47 l (i : Int)).f0 (rd_T47 l (i : Int)).f1.f0 (rd_T47 l (i : Int)).f1.f1 (rd_T47 l (i : Int)).f1.f2 (rd_T47 l (i : Int)).f1.f3 (rd_T47 l (i : Int)).f2 (rd_T47 l (i : Int)).f3 (rd_T47 l (i : Int)).f4 (rd_T47 l (i : Int)).f5).bind fun t => (if t = true then item_May.l0 k (acc ++ [(rd_T47 l (i : Int)).f1]) l (l.length : Int) (((i + 1 : Nat) : Int)) else some false)) (fun k => ?_) (Ev.bind (right_ev _) ?_)
    · simp only [item_May.l0]; rw [if_pos g1, if_pos g2, if_pos g1]; simp only [if_pos g4, succ_w i g3]
    · by_cases a : ri (rd_T47 l (i : Int)) = true
      · simp only [if_pos a, ar, a, Bool.true_and]
        have := ih (i + 1) (acc ++ [(rd_T47 l (i : Int)).f1]) (by omega) (by simp; omega)
        simpa [gq] using this
      · simp only [if_neg a, ar, Bool.eq_false_iff.mpr a, Bool.false_and]; exact Ev.now _
theorem imay_ev (l : List S47) : Ev (fun k => item_May.f k l) (mi l) := by
  unfold item_May.f mi
  by_cases h : (l.length : Int) > 2000
  · simp only [if_pos h]
    rw [decide_eq_false (by omega)]; exact Ev.now _
  · simp only [if_neg h]
    rw [decide_eq_true (by omega)]
    have := imay_loop l (by omega) l.length 0 [] (by omega) (by simp)
    simpa using this

end Go.Proofs.Ytnkdopihaohimaa.Pure

namespace Go.Proofs.Ytnkdopihaohimaa.Pure
set_option linter.unusedVariables false
set_option linter.unusedSimpArgs false
open Go.RowKit Go.Proofs.Ytnkdopihaohimaa.PBr Go.Proofs.YtnkdopihaohimaaW.PrintWords Go.Proofs.YtnkdopihaohimaaW.PrintLast Go.Proofs.YtnkdopihaohimaaW.PrintMore

theorem rd_hit (l : List S47) (i : Nat) (h : i < l.length) : rd_T47 l (i : Int) = l[i] := by
  unfold rd_T47
  rw [Int.toNat_natCast, List.getD_eq_getElem?_getD, List.getElem?_eq_getElem h]; rfl
theorem ar_iff (l : List S47) : ∀ d i, i + d = l.length → (ar l d i = true ↔ ∀ x ∈ l.drop i, ri x = true)
  | 0, i => fun h => by rw [List.drop_eq_nil_of_le (by omega)]; simp [ar]
  | d + 1, i => fun h => by
    have hlt : i < l.length := by omega
    rw [List.drop_eq_getElem_cons hlt]
    simp only [ar, Bool.and_eq_true, List.mem_cons, forall_eq_or_imp, rd_hit l i hlt, ar_iff l d (i + 1) (by omega)]
theorem gq_map (l : List S47) : ∀ d i, i + d = l.length → gq l d i = (l.drop i).map (·.f1)
  | 0, i => fun h => by rw [List.drop_eq_nil_of_le (by omega)]; rfl
  | d + 1, i => fun h => by
    have hlt : i < l.length := by omega
    rw [List.drop_eq_getElem_cons hlt]
    simp only [gq, List.map_cons, rd_hit l i hlt, gq_map l d (i + 1) (by omega)]
def gd (x : S45) : Prop := fi x.f0 = true ∧ am x.f1 = true ∧ am x.f2 = true ∧ 0 ≤ x.f3 ∧ x.f3 ≤ 3
def qw : List S45 → Int
  | [] => 0
  | x :: r => mx x.f0 (-x.f0) + qw r
def qs : List S45 → Int
  | [] => 0
  | x :: r => x.f1 + qs r
def qh : List S45 → Int
  | [] => 0
  | x :: r => x.f2 + qh r
theorem mv_iff (g : List S45) : ∀ d i w s h, i + d = g.length → (mv g d i w s h = true ↔ (∀ x ∈ g.drop i, gd x) ∧ am (w + qw (g.drop i)) = true ∧ am (s + qs (g.drop i)) = true ∧ am (h + qh (g.drop i)) = true)
  | 0, i, w, s, h => fun e => by
    rw [List.drop_eq_nil_of_le (by omega)]
    simp [mv, qw, qs, qh, gd]
  | d + 1, i, w, s, h => fun e => by
    have hlt : i < g.length := by omega
    have hr : rd_T45 g (i : Int) = g[i] := by
      unfold rd_T45
      rw [Int.toNat_natCast, List.getD_eq_getElem?_getD, List.getElem?_eq_getElem hlt]; rfl
    have ih := mv_iff g d (i + 1) (w + mx g[i].f0 (-g[i].f0)) (s + g[i].f1) (h + g[i].f2) (by omega)
    rw [List.drop_eq_getElem_cons hlt]
    simp only [mv, hr, qw, qs, qh, List.mem_cons, forall_eq_or_imp]
    rw [← Int.add_assoc, ← Int.add_assoc, ← Int.add_assoc]
    unfold gd at ih ⊢
    by_cases a1 : fi g[i].f0 = true
    · by_cases a2 : am g[i].f1 = true
      · by_cases a3 : am g[i].f2 = true
        · by_cases a4 : g[i].f3 < 0
          · rw [if_pos a1, if_pos a2, if_pos a3, if_pos a4]
            exact ⟨fun h => (by cases h), fun h => (by have := h.1.1.2.2.2.1; omega)⟩
          · by_cases a5 : g[i].f3 > 3
            · rw [if_pos a1, if_pos a2, if_pos a3, if_neg a4, if_pos a5]
              exact ⟨fun h => (by cases h), fun h => (by have := h.1.1.2.2.2.2; omega)⟩
            · rw [if_pos a1, if_pos a2, if_pos a3, if_neg a4, if_neg a5, ih]
              exact ⟨fun h => ⟨⟨⟨a1, a2, a3, by omega, by omega⟩, h.1⟩, h.2⟩, fun h => ⟨h.1.2, h.2⟩⟩
        · rw [if_pos a1, if_pos a2, if_neg a3]; exact ⟨fun h => (by cases h), fun h => absurd h.1.1.2.2.1 a3⟩
      · rw [if_pos a1, if_neg a2]; exact ⟨fun h => (by cases h), fun h => absurd h.1.1.2.1 a2⟩
    · rw [if_neg a1]; exact ⟨fun h => (by cases h), fun h => absurd h.1.1.1 a1⟩
theorem my_iff (g : List S45) : my g = true ↔ g.length ≤ 2000 ∧ (∀ x ∈ g, gd x) ∧ am (qw g) = true ∧ am (qs g) = true ∧ am (qh g) = true := by
  have h := mv_iff g g.length 0 0 0 0 (by omega)
  rw [List.drop_zero, Int.zero_add, Int.zero_add, Int.zero_add] at h
  unfold my
  by_cases c : (g.length : Int) > 2000
  · rw [if_pos c]; exact ⟨fun h => (by cases h), fun h => (by omega)⟩
  · rw [if_neg c, h]; exact ⟨fun h => ⟨by omega, h⟩, fun h => h.2⟩
theorem qw_app : ∀ a b : List S45, qw (a ++ b) = qw a + qw b
  | [], b => by simp [qw]
  | x :: a, b => by simp only [List.cons_append, qw, qw_app a b]; omega
theorem qs_app : ∀ a b : List S45, qs (a ++ b) = qs a + qs b
  | [], b => by simp [qs]
  | x :: a, b => by simp only [List.cons_append, qs, qs_app a b]; omega
theorem qh_app : ∀ a b : List S45, qh (a ++ b) = qh a + qh b
  | [], b => by simp [qh]
  | x :: a, b => by simp only [List.cons_append, qh, qh_app a b]; omega
theorem sums_pos : ∀ a : List S45, (∀ x ∈ a, gd x) → 0 ≤ qw a ∧ 0 ≤ qs a ∧ 0 ≤ qh a
  | [], _ => ⟨Int.le_refl _, Int.le_refl _, Int.le_refl _⟩
  | x :: a, h => by
    have ih := sums_pos a (fun y hy => h y (List.mem_cons_of_mem _ hy))
    have hx := h x (List.mem_cons_self ..)
    have h1 := am_iff.1 hx.2.1
    have h2 := am_iff.1 hx.2.2.1
    have h3 : 0 ≤ mx x.f0 (-x.f0) := by unfold mx; split <;> omega
    simp only [qw, qs, qh]
    omega
theorem my_app {a b : List S45} (h : my (a ++ b) = true) : my a = true ∧ my b = true := by
  rw [my_iff] at h
  obtain ⟨hl, hg, h1, h2, h3⟩ := h
  rw [qw_app, am_iff] at h1
  rw [qs_app, am_iff] at h2
  rw [qh_app, am_iff] at h3
  rw [List.length_append] at hl
  have ha := sums_pos a (fun x hx => hg x (List.mem_append_left _ hx))
  have hb := sums_pos b (fun x hx => hg x (List.mem_append_right _ hx))
  constructor
  · exact (my_iff a).2 ⟨by omega, fun x hx => hg x (List.mem_append_left _ hx), am_iff.2 (by omega), am_iff.2 (by omega), am_iff.2 (by omega)⟩
  · exact (my_iff b).2 ⟨by omega, fun x hx => hg x (List.mem_append_right _ hx), am_iff.2 (by omega), am_iff.2 (by omega), am_iff.2 (by omega)⟩
theorem mi_iff (l : List S47) : mi l = true ↔ l.length ≤ 2000 ∧ (∀ x ∈ l, ri x = true) ∧ my (l.map (·.f1)) = true := by
  have h1 := ar_iff l l.length 0 (by omega)
  have h2 := gq_map l l.length 0 (by omega)
  rw [List.drop_zero] at h1 h2
  unfold mi
  rw [h2, Bool.and_eq_true, Bool.and_eq_true, h1, decide_eq_true_eq]
  exact ⟨fun h => ⟨by omega, h.2⟩, fun h => ⟨by omega, h.2⟩⟩
theorem mi_app {a b : List S47} (h : mi (a ++ b) = true) : mi a = true ∧ mi b = true := by
  rw [mi_iff] at h
  obtain ⟨hl, hr, hm⟩ := h
  rw [List.length_append] at hl
  rw [List.map_append] at hm
  have := my_app hm
  exact ⟨(mi_iff a).2 ⟨by omega, fun x hx => hr x (List.mem_append_left _ hx), this.1⟩, (mi_iff b).2 ⟨by omega, fun x hx => hr x (List.mem_append_right _ hx), this.2⟩⟩

end Go.Proofs.Ytnkdopihaohimaa.Pure

namespace Go.Proofs.Ytnkdopihaohimaa.Pure
set_option linter.unusedVariables false
set_option linter.unusedSimpArgs false
open Go.RowKit Go.Proofs.Ytnkdopihaohimaa.PBr Go.Proofs.YtnkdopihaohimaaW.PrintWords Go.Proofs.YtnkdopihaohimaaW.PrintLast Go.Proofs.YtnkdopihaohimaaW.PrintMore

def qf : List S45 → Int
  | [] => 0
  | x :: r => x.f0 + qf r
def qo (j : Int) : List S45 → Int
  | [] => 0
  | x :: r => (if x.f3 = j then x.f1 else 0) + qo j r
theorem qf_app : ∀ a b : List S45, qf (a ++ b) = qf a + qf b
  | [], b => by simp [qf]
  | x :: a, b => by simp only [List.cons_append, qf, qf_app a b]; omega
theorem qo_app (j : Int) : ∀ a b : List S45, qo j (a ++ b) = qo j a + qo j b
  | [], b => by simp [qo]
  | x :: a, b => by simp only [List.cons_append, qo, qo_app j a b]; omega
theorem qf_le : ∀ a : List S45, -qw a ≤ qf a ∧ qf a ≤ qw a
  | [] => by simp [qf, qw]
  | x :: a => by
    have := qf_le a
    have h : x.f0 ≤ mx x.f0 (-x.f0) ∧ -x.f0 ≤ mx x.f0 (-x.f0) := by unfold mx; split <;> omega
    simp only [qf, qw]; omega
theorem qo_pos (j : Int) : ∀ a : List S45, (∀ x ∈ a, gd x) → 0 ≤ qo j a
  | [], _ => Int.le_refl _
  | x :: a, h => by
    have := qo_pos j a (fun y hy => h y (List.mem_cons_of_mem _ hy))
    have := am_iff.1 (h x (List.mem_cons_self ..)).2.1
    simp only [qo]; split <;> omega
theorem qo_all : ∀ a : List S45, (∀ x ∈ a, gd x) → qo 0 a + qo 1 a + qo 2 a + qo 3 a = qs a
  | [], _ => rfl
  | x :: a, h => by
    have ih := qo_all a (fun y hy => h y (List.mem_cons_of_mem _ hy))
    have hx := h x (List.mem_cons_self ..)
    have : x.f3 = 0 ∨ x.f3 = 1 ∨ x.f3 = 2 ∨ x.f3 = 3 := by have := hx.2.2.2.1; have := hx.2.2.2.2; omega
    simp only [qo, qs]
    rcases this with e | e | e | e <;> rw [e] <;> simp <;> omega
/-- The total of glue: its sums, where none of them is too large. -/
theorem tv_is (g : List S45) (hl : g.length ≤ 2000) (hg : ∀ x ∈ g, gd x) : ∀ (d i : Nat) (w h s0 s1 s2 s3 : Int), i + d = g.length →
    (-((i : Int) * 1073741823) ≤ w ∧ w ≤ (i : Int) * 1073741823) → (0 ≤ h ∧ h ≤ (i : Int) * 1073741823) → (0 ≤ s0 ∧ s0 ≤ (i : Int) * 1073741823) → (0 ≤ s1 ∧ s1 ≤ (i : Int) * 1073741823) → (0 ≤ s2 ∧ s2 ≤ (i : Int) * 1073741823) → (0 ≤ s3 ∧ s3 ≤ (i : Int) * 1073741823) →
    tv g d i w h s0 s1 s2 s3 = (w + qf (g.drop i), h + qh (g.drop i), s0 + qo 0 (g.drop i), s1 + qo 1 (g.drop i), s2 + qo 2 (g.drop i), s3 + qo 3 (g.drop i))
  | 0, i, w, h, s0, s1, s2, s3 => fun e _ _ _ _ _ _ => by
    rw [List.drop_eq_nil_of_le (by omega)]
    simp [tv, qf, qh, qo]
  | d + 1, i, w, h, s0, s1, s2, s3 => fun e hw hh h0 h1 h2 h3 => by
    have hlt : i < g.length := by omega
    have hr : rd_T45 g (i : Int) = g[i] := by
      unfold rd_T45
      rw [Int.toNat_natCast, List.getD_eq_getElem?_getD, List.getElem?_eq_getElem hlt]; rfl
    have hx := hg g[i] (List.getElem_mem hlt)
    have b0 := fi_iff.1 hx.1
    have b1 := am_iff.1 hx.2.1
    have b2 := am_iff.1 hx.2.2.1
    have b3 := hx.2.2.2
    have ew : wrap64 (w + g[i].f0) = w + g[i].f0 := wrap_small (by omega)
    have eh : wrap64 (h + g[i].f2) = h + g[i].f2 := wrap_small (by omega)
    have e0 : wrap64 (s0 + g[i].f1) = s0 + g[i].f1 := wrap_small (by omega)
    have e1 : wrap64 (s1 + g[i].f1) = s1 + g[i].f1 := wrap_small (by omega)
    have e2 : wrap64 (s2 + g[i].f1) = s2 + g[i].f1 := wrap_small (by omega)
    have e3 : wrap64 (s3 + g[i].f1) = s3 + g[i].f1 := wrap_small (by omega)
    simp only [tv, hr]
    rw [ew, eh, e0, e1, e2, e3, List.drop_eq_getElem_cons hlt]
    simp only [qf, qh, qo]
    by_cases c0 : g[i].f3 = 0
    · rw [if_pos c0, tv_is g hl hg d (i + 1) _ _ _ _ _ _ (by omega) (by omega) (by omega) (by omega) (by omega) (by omega) (by omega), c0]
      simp [Int.add_assoc]
    · rw [if_neg c0]
      by_cases c1 : g[i].f3 = 1
      · rw [if_pos c1, tv_is g hl hg d (i + 1) _ _ _ _ _ _ (by omega) (by omega) (by omega) (by omega) (by omega) (by omega) (by omega), c1]
        simp [Int.add_assoc]
      · rw [if_neg c1]
        by_cases c2 : g[i].f3 = 2
        · rw [if_pos c2, tv_is g hl hg d (i + 1) _ _ _ _ _ _ (by omega) (by omega) (by omega) (by omega) (by omega) (by omega) (by omega), c2]
          simp [Int.add_assoc]
        · have c3 : g[i].f3 = 3 := by omega
          rw [if_neg c2, tv_is g hl hg d (i + 1) _ _ _ _ _ _ (by omega) (by omega) (by omega) (by omega) (by omega) (by omega) (by omega), c3]
          simp [Int.add_assoc]
theorem tt_is {g : List S45} (h : my g = true) : tt g = (qf g, qh g, qo 0 g, qo 1 g, qo 2 g, qo 3 g) := by
  have hi := (my_iff g).1 h
  unfold tt
  rw [if_pos h, tv_is g hi.1 hi.2.1 g.length 0 0 0 0 0 0 0 (by omega) (by omega) (by omega) (by omega) (by omega) (by omega) (by omega)]
  simp
/-- A sum that is that of glue g. -/
structure Rel (s : SM) (g : List S45) : Prop where
  W : s.W = qf g
  H : s.H = qh g
  A : s.A = qo 0 g
  B : s.B = qo 1 g
  C : s.C = qo 2 g
  D : s.D = qo 3 g
  ob : s.ob = 1 ∨ (s.ob = 0 ∧ s.B = 0)
  oc : s.oc = 2 ∨ (s.oc = 0 ∧ s.C = 0)
  od : s.od = 3 ∨ (s.od = 0 ∧ s.D = 0)
theorem row_my {s : SM} {g : List S45} (h : Rel s g) (hg : my g = true) : my s.row = true := by
  have hi := (my_iff g).1 hg
  have q0 := qo_pos 0 g hi.2.1
  have q1 := qo_pos 1 g hi.2.1
  have q2 := qo_pos 2 g hi.2.1
  have q3 := qo_pos 3 g hi.2.1
  have qa := qo_all g hi.2.1
  have w := qf_le g
  have h1 := am_iff.1 hi.2.2.1
  have h2 := am_iff.1 hi.2.2.2.1
  have h3 := am_iff.1 hi.2.2.2.2
  have hob := h.ob
  have hoc := h.oc
  have hod := h.od
  have eW := h.W; have eH := h.H; have eA := h.A; have eB := h.B; have eC := h.C; have eD := h.D
  refine (my_iff _).2 ⟨by show 4 ≤ 2000; omega, ?_, ?_, ?_, ?_⟩
  · intro x hx
    simp only [SM.row, List.mem_cons, List.mem_nil_iff, or_false] at hx
    unfold gd
    rw [fi_iff, am_iff, am_iff]
    rcases hx with rfl | rfl | rfl | rfl
    · dsimp only; omega
    · dsimp only; omega
    · dsimp only; omega
    · dsimp only; omega
  · rw [am_iff]; simp only [SM.row, qw, mx]; split <;> simp <;> omega
  · rw [am_iff]; simp only [SM.row, qs]; omega
  · rw [am_iff]; simp only [SM.row, qh]; omega
theorem row_set {s : SM} {g : List S45} (h : Rel s g) (hg : my g = true) (w : Int) : sv s.row w = sv g w := by
  have e : tt s.row = tt g := by
    rw [tt_is (row_my h hg), tt_is hg]
    have hob := h.ob
    have hoc := h.oc
    have hod := h.od
    have eW := h.W; have eH := h.H; have eA := h.A; have eB := h.B; have eC := h.C; have eD := h.D
    have i1 : (if s.ob = 0 then s.B else 0) = 0 := by split <;> omega
    have i2 : (if s.oc = 0 then s.C else 0) = 0 := by split <;> omega
    have i3 : (if s.od = 0 then s.D else 0) = 0 := by split <;> omega
    have j1 : (if s.ob = 1 then s.B else 0) = s.B := by split <;> omega
    have j2 : (if s.oc = 1 then s.C else 0) = 0 := by split <;> omega
    have j3 : (if s.od = 1 then s.D else 0) = 0 := by split <;> omega
    have k1 : (if s.ob = 2 then s.B else 0) = 0 := by split <;> omega
    have k2 : (if s.oc = 2 then s.C else 0) = s.C := by split <;> omega
    have k3 : (if s.od = 2 then s.D else 0) = 0 := by split <;> omega
    have l1 : (if s.ob = 3 then s.B else 0) = 0 := by split <;> omega
    have l2 : (if s.oc = 3 then s.C else 0) = 0 := by split <;> omega
    have l3 : (if s.od = 3 then s.D else 0) = s.D := by split <;> omega
    simp only [SM.row, qf, qh, qo, i1, i2, i3, j1, j2, j3, k1, k2, k3, l1, l2, l3]
    simp
    omega
  unfold sv
  rw [row_my h hg, hg, e]
theorem rel_nil : Rel SM0 [] := ⟨rfl, rfl, rfl, rfl, rfl, rfl, .inr ⟨rfl, rfl⟩, .inr ⟨rfl, rfl⟩, .inr ⟨rfl, rfl⟩⟩
theorem rel_add {s : SM} {g : List S45} {x : S45} (h : Rel s g) (hg : my (g ++ [x]) = true) : ∃ s', badd.f s x = some s' ∧ Rel s' (g ++ [x]) := by
  have hi := (my_iff _).1 hg
  have hx := hi.2.1 x (by simp)
  have ga : ∀ y ∈ g, gd y := fun y hy => hi.2.1 y (by simp [hy])
  have q0 := qo_pos 0 g ga
  have q1 := qo_pos 1 g ga
  have q2 := qo_pos 2 g ga
  have q3 := qo_pos 3 g ga
  have qa := qo_all g ga
  have w := qf_le g
  have sp := sums_pos g ga
  have h1 := am_iff.1 hi.2.2.1
  have h2 := am_iff.1 hi.2.2.2.1
  have h3 := am_iff.1 hi.2.2.2.2
  rw [qw_app] at h1
  rw [qs_app] at h2
  rw [qh_app] at h3
  simp only [qw, qs, qh] at h1 h2 h3
  have b0 := fi_iff.1 hx.1
  have b1 := am_iff.1 hx.2.1
  have b2 := am_iff.1 hx.2.2.1
  have hm : 0 ≤ mx x.f0 (-x.f0) := by unfold mx; split <;> omega
  have hob := h.ob
  have hoc := h.oc
  have hod := h.od
  have eW := h.W; have eH := h.H; have eA := h.A; have eB := h.B; have eC := h.C; have eD := h.D
  have ww : wrap64 (s.W + x.f0) = s.W + x.f0 := wrap_small (by omega)
  have wh : wrap64 (s.H + x.f2) = s.H + x.f2 := wrap_small (by omega)
  have wa : wrap64 (s.A + x.f1) = s.A + x.f1 := wrap_small (by omega)
  have wb : wrap64 (s.B + x.f1) = s.B + x.f1 := wrap_small (by omega)
  have wc : wrap64 (s.C + x.f1) = s.C + x.f1 := wrap_small (by omega)
  have wd : wrap64 (s.D + x.f1) = s.D + x.f1 := wrap_small (by omega)
  unfold badd.f
  rw [ww, wh, wa, wb, wc, wd]
  by_cases c0 : x.f3 = 0
  · rw [if_pos c0]
    refine ⟨_, rfl, ?_, ?_, ?_, ?_, ?_, ?_, ?_, ?_, ?_⟩ <;> simp only [qf_app, qh_app, qo_app, qf, qh, qo, c0] <;> first | (simp; omega) | (simp; done) | omega
  · rw [if_neg c0]
    by_cases c1 : x.f3 = 1
    · rw [if_pos c1]
      refine ⟨_, rfl, ?_, ?_, ?_, ?_, ?_, ?_, ?_, ?_, ?_⟩ <;> simp only [qf_app, qh_app, qo_app, qf, qh, qo, c1] <;> first | (simp; omega) | (simp; done) | omega
    · rw [if_neg c1]
      by_cases c2 : x.f3 = 2
      · rw [if_pos c2]
        refine ⟨_, rfl, ?_, ?_, ?_, ?_, ?_, ?_, ?_, ?_, ?_⟩ <;> simp only [qf_app, qh_app, qo_app, qf, qh, qo, c2] <;> first | (simp; omega) | (simp; done) | omega
      · have c3 : x.f3 = 3 := by have := hx.2.2.2; omega
        rw [if_neg c2, if_pos c3]
        refine ⟨_, rfl, ?_, ?_, ?_, ?_, ?_, ?_, ?_, ?_, ?_⟩ <;> simp only [qf_app, qh_app, qo_app, qf, qh, qo, c3] <;> first | (simp; omega) | (simp; done) | omega
end Go.Proofs.Ytnkdopihaohimaa.Pure

namespace Go.Proofs.Ytnkdopihaohimaa.Pure
set_option linter.unusedVariables false
set_option linter.unusedSimpArgs false
open Go.RowKit Go.Proofs.Ytnkdopihaohimaa.PBr Go.Proofs.YtnkdopihaohimaaW.PrintWords Go.Proofs.YtnkdopihaohimaaW.PrintLast Go.Proofs.YtnkdopihaohimaaW.PrintMore

def encW : Way → TL
  | none => TL0
  | some v => ⟨true, v.1, (v.2.1 : Int), (v.2.2 : Int)⟩
structure Tab (n : Nat) (T : List TL) (V : Nat → Nat → Way) : Prop where
  len : T.length = 4 * (n + 1)
  val : ∀ a c, a ≤ n → c < 4 → tg T (4 * a + c) = encW (V a c)
def Bnd (n : Nat) (V : Nat → Nat → Way) : Prop := ∀ x y v, x ≤ n → V x y = some v → -(((n : Int) - x) * 300000000) ≤ v.1 ∧ v.1 ≤ ((n : Int) - x) * 300000000
theorem tg_set {T : List TL} {j : Nat} (h : j < T.length) (x : TL) (i : Nat) : tg (T.set j x) i = if i = j then x else tg T i := by
  unfold tg
  rw [List.getD_eq_getElem?_getD, List.getD_eq_getElem?_getD, List.getElem?_set]
  by_cases e : j = i
  · subst e; rw [if_pos rfl, if_pos rfl, if_pos h]; rfl
  · rw [if_neg e, if_neg (fun q => e q.symm)]
theorem put_at {T : List TL} {j : Nat} {o : Way} (h : j < T.length) (ho : tg T j = encW o) (v : Int) (b c : Nat) (i : Nat) : tg (bopt.put T j v (b : Int) (c : Int)) i = if i = j then encW (better o (some (v, b, c))) else tg T i := by
  unfold bopt.put
  rw [ho]
  cases o with
  | none => rw [if_neg (by simp [encW, TL0]), tg_set h]; rfl
  | some u =>
    rw [if_pos (by rfl)]
    by_cases e : v < u.1
    · rw [if_pos (by exact e), tg_set h]
      simp [better, encW, e]
    · rw [if_neg (by exact e)]
      by_cases q : i = j
      · rw [if_pos q, q, ho]; simp [better, e]
      · rw [if_neg q]
/-- What the ways become by a line to b that costs d, of class c. -/
def upd (n : Nat) (V : Nat → Nat → Way) (a b : Nat) (d : Int) (c : Nat) : Nat → Nat → Way := fun x y => if x = a then better (V x y) ((rest n V b c).map fun e => (d + e + ap (c : Int) (y : Int), b, c)) else V x y
theorem ap_in (c h : Int) : 0 ≤ ap c h ∧ ap c h ≤ 10000 := by unfold ap; repeat' split
                                                              all_goals omega
theorem l_tab {n : Nat} {V : Nat → Nat → Way} (a b c : Nat) (d e : Int) (ha : a ≤ n) (hd : -1000000000000000 ≤ d ∧ d ≤ 1000000000000000) (he : -1000000000000000 ≤ e ∧ e ≤ 1000000000000000) :
    ∀ (m i : Nat) (T : List TL), i + m = 4 → Tab n T (fun x y => if x = a ∧ y < i then better (V x y) (some (d + e + ap (c : Int) (y : Int), b, c)) else V x y) →
      ∃ T', bopt.l (m + 1) (4 * a) d e (b : Int) (c : Int) T (i : Int) = some T' ∧ Tab n T' (fun x y => if x = a then better (V x y) (some (d + e + ap (c : Int) (y : Int), b, c)) else V x y)
  | 0, i, T => fun hi h => by
    refine ⟨T, by simp only [bopt.l]; rw [if_neg (by omega)], h.len, fun x y hx hy => ?_⟩
    rw [h.val x y hx hy]
    by_cases q : x = a
    · simp only [q, true_and]; rw [if_pos (show y < i by omega)]; simp
    · simp [q]
  | m + 1, i, T => fun hi h => by
    have hj : 4 * a + i < T.length := by rw [h.len]; omega
    have hv : tg T (4 * a + i) = encW (V a i) := by
      have := h.val a i ha (by omega)
      simp only [Nat.lt_irrefl, and_false, if_false] at this
      exact this
    have hl : (bopt.put T (4 * a + i) (d + e + ap (c : Int) (i : Int)) (b : Int) (c : Int)).length = 4 * (n + 1) := by rw [bopt.put_len, h.len]
    have ht : Tab n (bopt.put T (4 * a + i) (d + e + ap (c : Int) (i : Int)) (b : Int) (c : Int)) (fun x y => if x = a ∧ y < i + 1 then better (V x y) (some (d + e + ap (c : Int) (y : Int), b, c)) else V x y) := by
      refine ⟨hl, fun x y hx hy => ?_⟩
      rw [put_at hj hv]
      by_cases p : 4 * x + y = 4 * a + i
      · have ex : x = a := by omega
        have ey : y = i := by omega
        subst ex; subst ey
        rw [if_pos p]
        simp only [Nat.lt_succ_self, and_self, if_true, true_and]
      · rw [if_neg p, h.val x y hx hy]
        by_cases ex : x = a
        · subst ex
          have ey : y ≠ i := fun e => p (by omega)
          by_cases lt : y < i
          · simp only [lt, show y < i + 1 by omega, and_self, if_true]
          · simp only [lt, show ¬ y < i + 1 by omega, and_false, if_false]
        · simp only [ex, false_and, if_false]
    obtain ⟨T', h1, h2⟩ := l_tab a b c d e ha hd he m (i + 1) _ (by omega) ht
    have q := ap_in (c : Int) (i : Int)
    have i4 : (i : Int) < 4 := by omega
    have i0 : (0 : Int) ≤ (i : Int) := by omega
    have i9 : i ≤ 1000000000000000 := by omega
    have w1 : wrap64 (d + e) = d + e := wrap_small (by omega)
    have w2 : wrap64 (d + e + ap (c : Int) (i : Int)) = d + e + ap (c : Int) (i : Int) := wrap_small (by omega)
    have w3 : wrap64 ((i : Int) + 1) = ((i + 1 : Nat) : Int) := succ_w i i9
    refine ⟨T', ?_, h2⟩
    rw [← h1]
    simp only [bopt.l]
    rw [if_pos i4, if_pos i0, apart_f]
    simp only [Option.bind_some, w1, w2, w3, Int.toNat_natCast]
theorem opt_tab {n : Nat} {V : Nat → Nat → Way} {T : List TL} (l : List S47) (hl : l.length = n) (h : Tab n T V) (hb : Bnd n V) (hn : n ≤ 2000) (a b c : Nat) (d : Int) (ha : a ≤ n) (hab : b < n) (hc : c < 4) (hd : -299000000 ≤ d ∧ d ≤ 299000000) :
    ∃ T', (if (bopt.rest l T (b : Int) (c : Int)).ok = true then bopt.l 5 (4 * a) d (bopt.rest l T (b : Int) (c : Int)).dm (b : Int) (c : Int) T 0 else some T) = some T' ∧ Tab n T' (upd n V a b d c) := by
  have h0 : ∀ e, Tab n T (fun x y => if x = a ∧ y < 0 then better (V x y) (some (d + e + ap (c : Int) (y : Int), b, c)) else V x y) := fun e => ⟨h.len, fun x y hx hy => by simp [h.val x y hx hy]⟩
  unfold bopt.rest upd rest
  by_cases q : b + 1 = n
  · rw [if_pos (show (b : Int) = (l.length : Int) - 1 by omega), if_pos rfl]
    obtain ⟨T', h1, h2⟩ := l_tab (V := V) a b c d 0 ha (by omega) (by omega) 4 0 T (by omega) (h0 0)
    refine ⟨T', h1, ?_⟩
    simp only [if_pos q, Option.map_some]
    exact h2
  · rw [if_neg (show ¬ (b : Int) = (l.length : Int) - 1 by omega)]
    have e1 : ((b : Int) + 1).toNat = b + 1 := by omega
    rw [e1, Int.toNat_natCast, h.val (b + 1) c (by omega) hc]
    simp only [if_neg q]
    cases hv : V (b + 1) c with
    | none =>
      refine ⟨T, by simp [encW, TL0], h.len, fun x y hx hy => ?_⟩
      rw [h.val x y hx hy]
      by_cases ex : x = a
      · subst ex; simp [better]
      · simp [ex]
    | some v =>
      have bv := hb (b + 1) c v (by omega) hv
      obtain ⟨T', h1, h2⟩ := l_tab (V := V) a b c d v.1 ha (by omega) (by omega) 4 0 T (by omega) (h0 v.1)
      exact ⟨T', by simpa [encW] using h1, by simpa using h2⟩
theorem upd_bnd {n : Nat} {V : Nat → Nat → Way} (hb : Bnd n V) (a b c : Nat) (d : Int) (ha : a ≤ b) (hab : b < n) (hd : -299000000 ≤ d ∧ d ≤ 299000000) : Bnd n (upd n V a b d c) := by
  intro x y v hx hv
  unfold upd at hv
  by_cases ex : x = a
  · rw [if_pos ex] at hv
    rcases better_is hv with h1 | ⟨h1, _⟩
    · exact hb x y v hx h1
    · obtain ⟨e, he, hev⟩ := Option.map_eq_some_iff.mp h1
      subst hev
      have q := ap_in (c : Int) (y : Int)
      unfold rest at he
      by_cases p : b + 1 = n
      · rw [if_pos p] at he
        have := Option.some.inj he
        dsimp only; omega
      · rw [if_neg p] at he
        obtain ⟨u, hu, hue⟩ := Option.map_eq_some_iff.mp he
        have := hb (b + 1) c u (by omega) hu
        dsimp only; omega
  · rw [if_neg ex] at hv
    exact hb x y v hx hv
end Go.Proofs.Ytnkdopihaohimaa.Pure

namespace Go.Proofs.Ytnkdopihaohimaa.Pure
set_option linter.unusedVariables false
set_option linter.unusedSimpArgs false
open Go.RowKit Go.Proofs.Ytnkdopihaohimaa.PBr Go.Proofs.YtnkdopihaohimaaW.PrintWords Go.Proofs.YtnkdopihaohimaaW.PrintLast Go.Proofs.YtnkdopihaohimaaW.PrintMore

theorem sq_in {x b : Int} (h0 : 0 ≤ x) (h : x ≤ b) : 0 ≤ x * x ∧ x * x ≤ b * b := ⟨Int.mul_nonneg h0 h0, Int.mul_le_mul h h h0 (by omega)⟩
theorem fin_in {r : Int} (h : 0 ≤ r) : 0 ≤ fin r ∧ fin r ≤ 10000 := by
  unfold fin
  by_cases c : r > 1290
  · rw [if_pos c]; omega
  · rw [if_neg c]
    have h1 := sq_in h (show r ≤ 1290 by omega)
    have h2 : 0 ≤ (r * r) * r ∧ (r * r) * r ≤ 1290 * 1290 * 1290 := ⟨Int.mul_nonneg h1.1 h, Int.mul_le_mul h1.2 (by omega) h (by omega)⟩
    have w1 : wrap64 (r * r) = r * r := wrap_small (by omega)
    rw [w1]
    generalize (r * r) * r = y at h2 ⊢
    have w2 : wrap64 y = y := wrap_small (by omega)
    rw [w2]
    have w3 : wrap64 (y + 131072) = y + 131072 := wrap_small (by omega)
    rw [w3, Int.tdiv_eq_ediv_of_nonneg (by omega)]
    have w4 : wrap64 ((y + 131072) / 262144) = (y + 131072) / 262144 := wrap_small (by omega)
    rw [w4]; omega
theorem bd_in {t s : Int} : -1 ≤ bd t s ∧ bd t s ≤ 10000 := by
  unfold bd
  by_cases a1 : am t = true
  · rw [if_pos a1]
    by_cases a2 : am s = true
    · rw [if_pos a2]
      have h1 := am_iff.1 a1
      have h2 := am_iff.1 a2
      by_cases c1 : t = 0
      · rw [if_pos c1]; omega
      · rw [if_neg c1]
        by_cases c2 : s = 0
        · rw [if_pos c2]; omega
        · rw [if_neg c2]
          by_cases c3 : t ≤ 7230584
          · rw [if_pos c3]
            have w1 : wrap64 (t * 297) = t * 297 := wrap_small (by omega)
            rw [w1, Int.tdiv_eq_ediv_of_nonneg (by omega)]
            have q0 : 0 ≤ (t * 297) / s := Int.ediv_nonneg (by omega) (by omega)
            have q1 : (t * 297) / s ≤ t * 297 := Int.ediv_le_self _ (by omega)
            have w2 : wrap64 ((t * 297) / s) = (t * 297) / s := wrap_small (by omega)
            rw [w2]
            have := fin_in q0; omega
          · rw [if_neg c3]
            by_cases c4 : s ≥ 1663497
            · rw [if_pos c4, Int.tdiv_eq_ediv_of_nonneg (by omega : 0 ≤ s)]
              have w1 : wrap64 (s / 297) = s / 297 := wrap_small (by omega)
              rw [w1, Int.tdiv_eq_ediv_of_nonneg (by omega)]
              have q0 : 0 ≤ t / (s / 297) := Int.ediv_nonneg (by omega) (by omega)
              have q1 : t / (s / 297) ≤ t := Int.ediv_le_self _ (by omega)
              have w2 : wrap64 (t / (s / 297)) = t / (s / 297) := wrap_small (by omega)
              rw [w2]
              have := fin_in q0; omega
            · rw [if_neg c4]
              have := fin_in h1.1; omega
    · rw [if_neg a2]; omega
  · rw [if_neg a1]; omega
theorem sv_in (g : List S45) (w : Int) : -1 ≤ (sv g w).2.2.2.1 := by
  unfold sv sw
  have b1 : ∀ t s, -1 ≤ bd t s := fun t s => bd_in.1
  repeat' split
  all_goals first | exact b1 _ _ | (dsimp only; omega)
theorem dm_in {bad : Int} (bh : Bool) (x : S47) (h0 : -1 ≤ bad) (h1 : bad ≤ 10000) (hx : x.f0 = 2 → -10000 ≤ x.f2 ∧ x.f2 ≤ 10000) : -299000000 ≤ dm bad bh x ∧ dm bad bh x ≤ 299000000 := by
  have e0 : wrap64 (bad + 10) = bad + 10 := wrap_small (by omega)
  have q0 := sq_in (show 0 ≤ bad + 10 by omega) (show bad + 10 ≤ 10010 by omega)
  have ed : d0 bad = (bad + 10) * (bad + 10) := by unfold d0; rw [e0]; exact wrap_small (by omega)
  have i0 : 0 ≤ d0 bad ∧ d0 bad ≤ 100200100 := by rw [ed]; omega
  have i1 : -100000000 ≤ d1 bad x ∧ d1 bad x ≤ 200200100 := by
    unfold d1
    by_cases c : x.f0 = 2
    · rw [if_pos c]
      have hp := hx c
      have hq : 0 ≤ x.f2 * x.f2 ∧ x.f2 * x.f2 ≤ 100000000 := by
        by_cases s : 0 ≤ x.f2
        · have := sq_in s hp.2; omega
        · have := sq_in (show 0 ≤ -x.f2 by omega) (show -x.f2 ≤ 10000 by omega)
          rw [Int.neg_mul_neg] at this; omega
      have w1 : wrap64 (x.f2 * x.f2) = x.f2 * x.f2 := wrap_small (by omega)
      rw [w1]
      generalize x.f2 * x.f2 = p at hq ⊢
      split
      · rw [wrap_small (by omega)]; omega
      · split
        · omega
        · rw [wrap_small (by omega)]; omega
    · rw [if_neg c]; omega
  unfold dm
  split
  · split
    · rw [wrap_small (by omega)]; omega
    · omega
  · omega
theorem ri_pen {x : S47} (h : ri x = true) (c : x.f0 = 2) : -10000 ≤ x.f2 ∧ x.f2 ≤ 10000 := by
  unfold ri rj at h
  rw [if_neg (by omega), if_neg (by omega), if_pos c] at h
  simp only [Bool.and_eq_true, decide_eq_true_eq] at h
  exact ⟨h.2.1, h.2.2.1⟩
theorem ri_pl {x : S47} (h : ri x = true) (c : x.f0 = 2 ∨ x.f0 = 0) : x.f1.f1 = 0 ∧ x.f1.f2 = 0 ∧ x.f1.f3 = 0 ∧ 0 ≤ x.f1.f0 := by
  have hp : pl x = true := by
    unfold ri rj at h
    rcases c with c | c
    · rw [if_neg (by omega), if_neg (by omega), if_pos c] at h
      simp only [Bool.and_eq_true] at h; exact h.1
    · rw [if_pos c] at h
      simp only [Bool.and_eq_true] at h; exact h.1
  unfold pl at hp
  simp only [Bool.and_eq_true, beq_iff_eq, am_iff] at hp
  exact ⟨hp.1, hp.2.1, hp.2.2.1, hp.2.2.2.1⟩
theorem ri_kind {x : S47} (h : ri x = true) : x.f0 = 0 ∨ x.f0 = 1 ∨ x.f0 = 2 := by
  unfold ri rj at h
  by_cases c0 : x.f0 = 0
  · exact .inl c0
  · rw [if_neg c0] at h
    by_cases c1 : x.f0 = 1
    · exact .inr (.inl c1)
    · rw [if_neg c1] at h
      by_cases c2 : x.f0 = 2
      · exact .inr (.inr c2)
      · rw [if_neg c2] at h; exact absurd h (by decide)
theorem ri_wide {x : S47} (h : ri x = true) : x.f1.f2 ≤ x.f1.f0 := by
  rcases ri_kind h with c | c | c
  · have := ri_pl h (.inr c); omega
  · unfold ri rj at h
    rw [if_neg (by omega), if_pos c] at h
    simp only [Bool.and_eq_true, decide_eq_true_eq] at h
    exact h.2.1
  · have := ri_pl h (.inl c); omega
theorem mi_ri {l : List S47} (h : mi l = true) (i : Nat) (hi : i < l.length) : ri (rd_T47 l (i : Int)) = true := by
  rw [rd_hit l i hi]
  exact ((mi_iff l).1 h).2.1 _ (List.getElem_mem hi)
/-! ## A line's glue is of the items' -/
theorem qs_sub {a b : List S45} (h : List.Sublist a b) (hb : ∀ x ∈ b, gd x) : qw a ≤ qw b ∧ qs a ≤ qs b ∧ qh a ≤ qh b := by
  induction h with
  | slnil => simp
  | @cons a b x _ ih =>
    have := ih (fun y hy => hb y (List.mem_cons_of_mem _ hy))
    have hx := sums_pos [x] (fun y hy => hb y (by simp only [List.mem_singleton] at hy; simp [hy]))
    simp only [qw, qs, qh] at hx ⊢; omega
  | @cons_cons a b x _ ih =>
    have := ih (fun y hy => hb y (List.mem_cons_of_mem _ hy))
    simp only [qw, qs, qh]; omega
theorem my_sub {a b : List S45} (h : List.Sublist a b) (hb : my b = true) : my a = true := by
  have hi := (my_iff b).1 hb
  have q := qs_sub h hi.2.1
  have ha : ∀ x ∈ a, gd x := fun x hx => hi.2.1 x (h.subset hx)
  have p := sums_pos a ha
  have h1 := am_iff.1 hi.2.2.1
  have h2 := am_iff.1 hi.2.2.2.1
  have h3 := am_iff.1 hi.2.2.2.2
  exact (my_iff a).2 ⟨Nat.le_trans h.length_le hi.1, ha, am_iff.2 (by omega), am_iff.2 (by omega), am_iff.2 (by omega)⟩
theorem gt_is {l : List S47} (h : mi l = true) (b : Nat) (hb : b < l.length) : gt l (b : Int) = if (rd_T47 l (b : Int)).f0 = 2 then [(rd_T47 l (b : Int)).f1] else [] := by
  unfold gt
  by_cases c : (rd_T47 l (b : Int)).f0 = 2
  · rw [if_pos c, if_pos c]
    have := ri_pl (mi_ri h b hb) (.inl c)
    generalize (rd_T47 l (b : Int)).f1 = g at this ⊢
    cases g
    dsimp only at this
    obtain ⟨rfl, rfl, rfl, _⟩ := this
    rfl
  · rw [if_neg c, if_neg c]
theorem cl_sub {l : List S47} (h : mi l = true) : ∀ d i, i + d < l.length → List.Sublist (cl l d i ++ gt l ((i + d : Nat) : Int)) ((l.drop i).map (·.f1))
  | 0, i => fun hi => by
    have hd : l.drop i = l[i] :: l.drop (i + 1) := List.drop_eq_getElem_cons (by omega)
    rw [Nat.add_zero, gt_is h i (by omega), hd, List.map_cons, rd_hit l i (by omega)]
    simp only [cl, List.nil_append]
    split
    · exact List.Sublist.cons_cons _ (List.nil_sublist _)
    · exact List.nil_sublist _
  | d + 1, i => fun hi => by
    have ih := cl_sub h d (i + 1) (by omega)
    have hd : l.drop i = l[i] :: l.drop (i + 1) := List.drop_eq_getElem_cons (by omega)
    rw [show i + (d + 1) = i + 1 + d by omega, hd, List.map_cons]
    simp only [cl, rd_hit l i (by omega)]
    split
    · exact List.Sublist.cons_cons _ ih
    · split
      · exact List.Sublist.cons_cons _ ih
      · exact List.Sublist.cons _ ih
theorem gs_my {l : List S47} (h : mi l = true) (i b : Nat) (hib : i ≤ b) (hb : b < l.length) : my (cl l (b - i) i ++ gt l (b : Int)) = true := by
  have hs := cl_sub h (b - i) i (by omega)
  rw [show i + (b - i) = b by omega] at hs
  exact my_sub (hs.trans ((List.drop_sublist i l).map _)) ((mi_iff l).1 h).2.2
theorem cl_snoc (l : List S47) : ∀ d i, cl l (d + 1) i = cl l d i ++ (if (rd_T47 l ((i + d : Nat) : Int)).f0 = 0 then [(rd_T47 l ((i + d : Nat) : Int)).f1] else if (rd_T47 l ((i + d : Nat) : Int)).f0 = 1 then [(rd_T47 l ((i + d : Nat) : Int)).f1] else [])
  | 0, i => by simp [cl]
  | d + 1, i => by
    have ih := cl_snoc l d (i + 1)
    rw [show i + 1 + d = i + (d + 1) by omega] at ih
    have e1 : cl l (d + 1 + 1) i = (if (rd_T47 l (i : Int)).f0 = 0 then [(rd_T47 l (i : Int)).f1] else if (rd_T47 l (i : Int)).f0 = 1 then [(rd_T47 l (i : Int)).f1] else []) ++ cl l (d + 1) (i + 1) := rfl
    have e2 : cl l (d + 1) i = (if (rd_T47 l (i : Int)).f0 = 0 then [(rd_T47 l (i : Int)).f1] else if (rd_T47 l (i : Int)).f0 = 1 then [(rd_T47 l (i : Int)).f1] else []) ++ cl l d (i + 1) := rfl
    rw [e1, e2, ih, List.append_assoc]
theorem cl_split (l : List S47) : ∀ d e i, cl l (d + e) i = cl l d i ++ cl l e (i + d)
  | d, 0, i => by simp [cl]
  | d, e + 1, i => by
    rw [show d + (e + 1) = (d + e) + 1 by omega, cl_snoc l (d + e) i, cl_split l d e i, cl_snoc l e (i + d), List.append_assoc, show i + (d + e) = i + d + e by omega]
theorem cl_wide {l : List S47} (h : mi l = true) : ∀ d i, i + d ≤ l.length → qh (cl l d i) ≤ qf (cl l d i)
  | 0, i => fun _ => Int.le_refl _
  | d + 1, i => fun hi => by
    have ih := cl_wide h d (i + 1) (by omega)
    have hw := ri_wide (mi_ri h i (by omega))
    have e2 : cl l (d + 1) i = (if (rd_T47 l (i : Int)).f0 = 0 then [(rd_T47 l (i : Int)).f1] else if (rd_T47 l (i : Int)).f0 = 1 then [(rd_T47 l (i : Int)).f1] else []) ++ cl l d (i + 1) := rfl
    rw [e2, qh_app, qf_app]
    split
    · simp only [qh, qf]; omega
    · split
      · simp only [qh, qf]; omega
      · simp only [qh, qf]; omega
theorem gt_wide {l : List S47} (h : mi l = true) (b : Nat) (hb : b < l.length) : qh (gt l (b : Int)) ≤ qf (gt l (b : Int)) := by
  rw [gt_is h b hb]
  have hw := ri_wide (mi_ri h b hb)
  split
  · simp only [qh, qf]; omega
  · exact Int.le_refl _
/-- A line that is wider than it may be, whatever shrinks, may not be. -/
theorem sv_over {g : List S45} (hg : my g = true) {w : Int} (h : qf g - qh g > w) (ok : (sv g w).2.2.2.2 = true) : (sv g w).2.2.2.1 = 1000000 := by
  have hi := (my_iff g).1 hg
  have hp := sums_pos g hi.2.1
  have hq := qf_le g
  have h1 := am_iff.1 hi.2.2.1
  have h3 := am_iff.1 hi.2.2.2.2
  unfold sv at ok ⊢
  rw [if_pos hg, tt_is hg] at ok ⊢
  dsimp only at ok ⊢
  unfold sb at ok ⊢
  by_cases f1 : fi w = true
  · by_cases f2 : fi (qf g) = true
    · have b1 := fi_iff.1 f1
      have b2 := fi_iff.1 f2
      have e1 : wrap64 (w - qf g) = w - qf g := wrap_small (by omega)
      rw [if_pos f1, if_pos f2, e1] at ok ⊢
      by_cases f3 : fi (w - qf g) = true
      · rw [if_pos f3] at ok ⊢
        have e2 : wrap64 (-(w - qf g)) = -(w - qf g) := wrap_small (by omega)
        unfold sw
        simp only [if_true]
        rw [if_pos (show w - qf g < 0 by omega), e2]
        dsimp only
        rw [if_pos (by omega)]
      · rw [if_neg f3] at ok; exact absurd ok (by simp)
    · rw [if_pos f1, if_neg f2] at ok; exact absurd ok (by simp)
  · rw [if_neg f1] at ok; exact absurd ok (by simp)
end Go.Proofs.Ytnkdopihaohimaa.Pure

namespace Go.Proofs.Ytnkdopihaohimaa.Pure
set_option linter.unusedVariables false
set_option linter.unusedSimpArgs false
open Go.RowKit Go.Proofs.Ytnkdopihaohimaa.PBr Go.Proofs.YtnkdopihaohimaaW.PrintWords Go.Proofs.YtnkdopihaohimaaW.PrintLast Go.Proofs.YtnkdopihaohimaaW.PrintMore

def cst (l : List S47) (w tol : Int) (a b : Nat) : Option (Int × Nat) := if (cv l ((a : Int) - 1) (b : Int) w tol).2.2 = true then some ((cv l ((a : Int) - 1) (b : Int) w tol).1, (cv l ((a : Int) - 1) (b : Int) w tol).2.1.toNat) else none
def stp (n : Nat) (l : List S47) (w tol : Int) (V : Nat → Nat → Way) (a b : Nat) : Nat → Nat → Way := match cst l w tol a b with
  | none => V
  | some x => upd n V a b x.1 x.2
def row (n : Nat) (l : List S47) (w tol : Int) (a : Nat) : Nat → Nat → (Nat → Nat → Way) → Nat → Nat → Way
  | 0, _, V => V
  | d + 1, b, V => row n l w tol a d (b + 1) (stp n l w tol V a b)
theorem row_dead {n : Nat} {l : List S47} {w tol : Int} {a : Nat} : ∀ (d b : Nat) (V : Nat → Nat → Way), (∀ j, b ≤ j → j < b + d → cst l w tol a j = none) → row n l w tol a d b V = V
  | 0, b, V => fun _ => rfl
  | d + 1, b, V => fun h => by
    have e : stp n l w tol V a b = V := by unfold stp; rw [h b (Nat.le_refl _) (by omega)]
    simp only [row]
    rw [e]
    exact row_dead d (b + 1) V (fun j h1 h2 => h j (by omega) (by omega))
theorem cst_in {l : List S47} (h : mi l = true) {w tol : Int} {a b : Nat} {x : Int × Nat} (hx : cst l w tol a b = some x) : mb l ((a : Int) - 1) (b : Int) = true ∧ (-299000000 ≤ x.1 ∧ x.1 ≤ 299000000) ∧ x.2 < 4 ∧ (cv l ((a : Int) - 1) (b : Int) w tol).2.2 = true ∧ x.1 = (cv l ((a : Int) - 1) (b : Int) w tol).1 ∧ (x.2 : Int) = (cv l ((a : Int) - 1) (b : Int) w tol).2.1 := by
  unfold cst at hx
  by_cases c : (cv l ((a : Int) - 1) (b : Int) w tol).2.2 = true
  · rw [if_pos c] at hx
    have e := Option.some.inj hx
    subst e
    have k := cv_ok c
    have m := mb_in k.1
    have q := cs_in (lv l ((a : Int) - 1) (b : Int) w).1 (lv l ((a : Int) - 1) (b : Int) w).2.2.2.1
    have b0 : -1 ≤ (lv l ((a : Int) - 1) (b : Int) w).2.2.2.1 := by unfold lv; rw [if_pos k.1]; exact sv_in _ _
    have b1 : (lv l ((a : Int) - 1) (b : Int) w).2.2.2.1 ≤ 10000 := by have := k.2.2.2.2; unfold mn at this; split at this <;> omega
    have hb : b < l.length := by omega
    have hd := dm_in (if ((a : Int) - 1) ≥ 0 then (rd_T47 l (mx ((a : Int) - 1) 0)).f3 else false) (rd_T47 l (b : Int)) b0 b1 (ri_pen (mi_ri h b hb))
    dsimp only
    rw [k.2.1, k.2.2.1]
    exact ⟨k.1, hd, by omega, c, rfl, by omega⟩
  · rw [if_neg c] at hx; exact absurd hx (by simp)
theorem rel_more {l : List S47} (h : mi l = true) {s : SM} {g : List S45} (b : Nat) (hb : b < l.length) (hr : Rel s g) (hm : my (g ++ gt l (b : Int)) = true) : Rel (s.more (rd_T47 l (b : Int))) (g ++ gt l (b : Int)) := by
  rw [gt_is h b hb] at hm ⊢
  unfold SM.more
  by_cases c : (rd_T47 l (b : Int)).f0 = 2
  · rw [if_pos c] at hm ⊢
    rw [if_pos c]
    have p := ri_pl (mi_ri h b hb) (.inl c)
    have hi := (my_iff _).1 hm
    have w1 := qf_le (g ++ [(rd_T47 l (b : Int)).f1])
    have h1 := am_iff.1 hi.2.2.1
    rw [qf_app] at w1
    simp only [qf] at w1
    have eW := hr.W; have eH := hr.H; have eA := hr.A; have eB := hr.B; have eC := hr.C; have eD := hr.D
    have hob := hr.ob; have hoc := hr.oc; have hod := hr.od
    have ww : wrap64 (s.W + (rd_T47 l (b : Int)).f1.f0) = s.W + (rd_T47 l (b : Int)).f1.f0 := wrap_small (by omega)
    rw [ww]
    refine ⟨?_, ?_, ?_, ?_, ?_, ?_, hob, hoc, hod⟩ <;> simp only [qf_app, qh_app, qo_app, qf, qh, qo, p.1, p.2.1, p.2.2.1] <;> first | (simp; omega) | omega
  · rw [if_neg c, if_neg c, List.append_nil]; exact hr
/-- Is there a line to b? -/
theorem mb_at {l : List S47} {a b : Nat} (ha : a = 0 ∨ lg l ((a : Int) - 1) = true) (hs : st l ((a : Int) - 1) ≤ b) (hab : a ≤ b) (hf : nf l (b - a) a = true) : mb l ((a : Int) - 1) (b : Int) = lg l (b : Int) := by
  have h1 : (decide ((a : Int) - 1 = -1) || lg l ((a : Int) - 1)) = true := by
    rcases ha with e | e
    · subst e; rfl
    · rw [e]; simp
  have e1 : ((a : Int) - 1 + 1).toNat = a := by omega
  unfold mb
  rw [h1, decide_eq_true (show (a : Int) - 1 < (b : Int) by omega), decide_eq_true (show ((st l ((a : Int) - 1) : Nat) : Int) ≤ (b : Int) by omega), e1, Int.toNat_natCast, hf]
  simp
theorem try_ev {n : Nat} {V : Nat → Nat → Way} {T : List TL} {l : List S47} (hn : l.length = n) (hm : mi l = true) (w tol : Int) {s : SM} {a b : Nat} (hT : Tab n T V) (hB : Bnd n V) (hb : b < n) (hab : a ≤ b) (ha : a = 0 ∨ lg l ((a : Int) - 1) = true) (hs : st l ((a : Int) - 1) ≤ b) (hf : nf l (b - a) a = true)
    (hr : Rel s (cl l (b - st l ((a : Int) - 1)) (st l ((a : Int) - 1)))) :
    ∃ T', Ev (fun k => bfrom.try_ k l w tol ((a : Int) - 1) T s (b : Int)) T' ∧ Tab n T' (stp n l w tol V a b) ∧ Bnd n (stp n l w tol V a b) := by
  have hl : l.length ≤ 2000 := ((mi_iff l).1 hm).1
  have hmb := mb_at ha hs hab hf
  have hmy := gs_my hm (st l ((a : Int) - 1)) b hs (by omega)
  have hset : sv (s.more (rd_T47 l (b : Int))).row w = sv (gs l ((a : Int) - 1) (b : Int)) w := by
    rw [row_set (rel_more hm b (by omega) hr hmy) hmy]
    unfold gs; rw [Int.toNat_natCast]
  unfold bfrom.try_
  by_cases hlg : lg l (b : Int) = true
  · rw [hlg] at hmb
    have hlv : lv l ((a : Int) - 1) (b : Int) w = sv (s.more (rd_T47 l (b : Int))).row w := by unfold lv; rw [if_pos hmb, hset]
    have gb : (b : Int) > (a : Int) - 1 := by omega
    by_cases ok : (lv l ((a : Int) - 1) (b : Int) w).2.2.2.2 = true
    · by_cases bd : (lv l ((a : Int) - 1) (b : Int) w).2.2.2.1 ≤ mn tol 10000
      · have hcv : cv l ((a : Int) - 1) (b : Int) w tol = (dm (lv l ((a : Int) - 1) (b : Int) w).2.2.2.1 (if ((a : Int) - 1) ≥ 0 then (rd_T47 l (mx ((a : Int) - 1) 0)).f3 else false) (rd_T47 l (b : Int)), cs (lv l ((a : Int) - 1) (b : Int) w).1 (lv l ((a : Int) - 1) (b : Int) w).2.2.2.1, true) := by
          unfold cv; rw [if_pos ok, if_neg (by omega)]
        have hc : cst l w tol a b = some (dm (lv l ((a : Int) - 1) (b : Int) w).2.2.2.1 (if ((a : Int) - 1) ≥ 0 then (rd_T47 l (mx ((a : Int) - 1) 0)).f3 else false) (rd_T47 l (b : Int)), (cs (lv l ((a : Int) - 1) (b : Int) w).1 (lv l ((a : Int) - 1) (b : Int) w).2.2.2.1).toNat) := by
          unfold cst; rw [hcv]; rfl
        have hin := cst_in hm hc
        obtain ⟨T', h1, h2⟩ := opt_tab l hn hT hB (by omega) a b _ _ (by omega) hb hin.2.2.1 hin.2.1
        refine ⟨T', ?_, by unfold stp; rw [hc]; exact h2, by unfold stp; rw [hc]; exact upd_bnd hB a b _ _ hab hb hin.2.1⟩
        refine Ev.bind (legal_ev l (b : Int) hl) ?_
        simp only [if_pos hlg, if_pos gb]
        refine Ev.bind (set_ev _ _) ?_
        rw [← hlv]
        simp only [if_pos ok, if_pos bd]
        have c0 : (0 : Int) ≤ (b : Int) := by omega
        have c1 : (b : Int) < (l.length : Int) := by omega
        have c2 : -1 ≤ (a : Int) - 1 := by omega
        have c3 : (a : Int) - 1 < (l.length : Int) := by omega
        have q := cs_in (lv l ((a : Int) - 1) (b : Int) w).1 (lv l ((a : Int) - 1) (b : Int) w).2.2.2.1
        have c4 : cs (lv l ((a : Int) - 1) (b : Int) w).1 (lv l ((a : Int) - 1) (b : Int) w).2.2.2.1 < 4 := by omega
        have ec : ((cs (lv l ((a : Int) - 1) (b : Int) w).1 (lv l ((a : Int) - 1) (b : Int) w).2.2.2.1).toNat : Int) = cs (lv l ((a : Int) - 1) (b : Int) w).1 (lv l ((a : Int) - 1) (b : Int) w).2.2.2.1 := Int.toNat_of_nonneg q.1
        have ea : ((a : Int) - 1 + 1).toNat = a := by omega
        dsimp only at h1
        rw [ec] at h1
        refine Ev.congr (fun k => ?_) (Ev.now _)
        unfold bopt.f
        rw [if_pos c0, if_pos c1, if_pos c2, if_pos c3, dem_f]
        simp only [Option.bind_some, class_f, if_pos q.1, if_pos c4, ea]
        exact h1
      · have hcv : cv l ((a : Int) - 1) (b : Int) w tol = (0, 0, false) := by unfold cv; rw [if_pos ok, if_pos (show (lv l ((a : Int) - 1) (b : Int) w).2.2.2.1 > mn tol 10000 by omega)]
        have hc : cst l w tol a b = none := by unfold cst; rw [hcv]; rfl
        refine ⟨T, ?_, by unfold stp; rw [hc]; exact hT, by unfold stp; rw [hc]; exact hB⟩
        refine Ev.bind (legal_ev l (b : Int) hl) ?_
        simp only [if_pos hlg, if_pos gb]
        refine Ev.bind (set_ev _ _) ?_
        rw [← hlv]
        simp only [if_pos ok, if_neg bd]
        exact Ev.now _
    · have hcv : cv l ((a : Int) - 1) (b : Int) w tol = (0, 0, false) := by unfold cv; rw [if_neg ok]
      have hc : cst l w tol a b = none := by unfold cst; rw [hcv]; rfl
      refine ⟨T, ?_, by unfold stp; rw [hc]; exact hT, by unfold stp; rw [hc]; exact hB⟩
      refine Ev.bind (legal_ev l (b : Int) hl) ?_
      simp only [if_pos hlg, if_pos gb]
      refine Ev.bind (set_ev _ _) ?_
      rw [← hlv]
      simp only [if_neg ok]
      exact Ev.now _
  · have hc : cst l w tol a b = none := by
      have e1 : lv l ((a : Int) - 1) (b : Int) w = (0, 0, 0, 0, false) := by unfold lv; rw [hmb, if_neg hlg]
      have hcv : cv l ((a : Int) - 1) (b : Int) w tol = (0, 0, false) := by unfold cv; rw [e1, if_neg (by decide)]
      unfold cst; rw [hcv]; rfl
    refine ⟨T, ?_, by unfold stp; rw [hc]; exact hT, by unfold stp; rw [hc]; exact hB⟩
    refine Ev.bind (legal_ev l (b : Int) hl) ?_
    simp only [if_neg hlg]
    exact Ev.now _
theorem cst_none {l : List S47} {w tol : Int} {a b : Nat} (h : ∀ x, cst l w tol a b = some x → False) : cst l w tol a b = none := by
  cases e : cst l w tol a b with
  | none => rfl
  | some x => exact (h x e).elim
theorem nf_snoc (l : List S47) : ∀ d i, nf l (d + 1) i = (nf l d i && !(fz (rd_T47 l ((i + d : Nat) : Int))))
  | 0, i => by simp [nf]
  | d + 1, i => by
    have ih := nf_snoc l d (i + 1)
    have e1 : nf l (d + 1 + 1) i = (!(fz (rd_T47 l (i : Int))) && nf l (d + 1) (i + 1)) := rfl
    have e2 : nf l (d + 1) i = (!(fz (rd_T47 l (i : Int))) && nf l d (i + 1)) := rfl
    rw [e1, e2, ih, Bool.and_assoc, show i + 1 + d = i + (d + 1) by omega]
/-- Behind a forced break no line may go on. -/
theorem nf_stop (l : List S47) : ∀ (d i j : Nat), i ≤ j → j < i + d → fz (rd_T47 l (j : Int)) = true → nf l d i = false
  | 0, i, j => fun h1 h2 _ => by omega
  | d + 1, i, j => fun h1 h2 h => by
    simp only [nf]
    by_cases e : j = i
    · subst e; rw [h]; rfl
    · rw [nf_stop l d (i + 1) j (by omega) (by omega) h]; simp
theorem cl_sub2 (l : List S47) : ∀ d i, i + d ≤ l.length → List.Sublist (cl l d i) ((l.drop i).map (·.f1))
  | 0, i => fun hi => List.nil_sublist _
  | d + 1, i => fun hi => by
    have ih := cl_sub2 l d (i + 1) (by omega)
    have hd : l.drop i = l[i] :: l.drop (i + 1) := List.drop_eq_getElem_cons (by omega)
    rw [hd, List.map_cons]
    simp only [cl, rd_hit l i (by omega)]
    split
    · exact List.Sublist.cons_cons _ ih
    · split
      · exact List.Sublist.cons_cons _ ih
      · exact List.Sublist.cons _ ih
theorem cl_sub_all {l : List S47} (h : mi l = true) : ∀ d i, i + d < l.length → List.Sublist (cl l d i ++ (if (rd_T47 l ((i + d : Nat) : Int)).f0 = 0 then [(rd_T47 l ((i + d : Nat) : Int)).f1] else if (rd_T47 l ((i + d : Nat) : Int)).f0 = 1 then [(rd_T47 l ((i + d : Nat) : Int)).f1] else [])) ((l.drop i).map (·.f1)) := by
  intro d i hi
  rw [← cl_snoc]
  exact cl_sub2 l (d + 1) i (by omega)
theorem from_loop {n : Nat} {l : List S47} (hn : l.length = n) (hm : mi l = true) (w tol : Int) {a : Nat} (ha : a = 0 ∨ lg l ((a : Int) - 1) = true) : ∀ (d b : Nat) (T : List TL) (s : SM) (V : Nat → Nat → Way), b + d = n → st l ((a : Int) - 1) ≤ b → a ≤ b → nf l (b - a) a = true → Rel s (cl l (b - st l ((a : Int) - 1)) (st l ((a : Int) - 1))) → Tab n T V → Bnd n V →
      ∃ T', Ev (fun k => bfrom.l k l w tol ((a : Int) - 1) T s (b : Int)) T' ∧ Tab n T' (row n l w tol a d b V) ∧ Bnd n (row n l w tol a d b V) := by
  intro d
  induction d with
  | zero =>
    intro b T s V hbd hs hab hf hr hT hB
    refine ⟨T, Ev.step (f := fun _ => some T) (fun k => ?_) (Ev.now _), hT, hB⟩
    simp only [bfrom.l]
    rw [if_neg (by omega)]
  | succ d ih =>
    intro b T s V hbd hs hab hf hr hT hB
    have hb : b < n := by omega
    have hl : l.length ≤ 2000 := ((mi_iff l).1 hm).1
    obtain ⟨T1, h1, hT1, hB1⟩ := try_ev hn hm w tol hT hB hb hab ha hs hf hr
    have g1 : (b : Int) < (l.length : Int) := by omega
    have g0 : (0 : Int) ≤ (b : Int) := by omega
    have g3 : b ≤ 1000000000000000 := by omega
    have hw : wrap64 ((b : Int) + 1) = ((b + 1 : Nat) : Int) := succ_w b g3
    have er : row n l w tol a (d + 1) b V = row n l w tol a d (b + 1) (stp n l w tol V a b) := rfl
    rw [er]
    by_cases hz : fz (rd_T47 l (b : Int)) = true
    · have dead : row n l w tol a d (b + 1) (stp n l w tol V a b) = stp n l w tol V a b := row_dead d (b + 1) _ (fun j j1 j2 => cst_none (fun x hx => by
        have hmb := (cst_in hm hx).1
        unfold mb at hmb
        simp only [Bool.and_eq_true] at hmb
        have e1 : ((a : Int) - 1 + 1).toNat = a := by omega
        have hnf := hmb.2.2.2.2
        rw [e1, Int.toNat_natCast, nf_stop l (j - a) a b hab (by omega) hz] at hnf
        exact absurd hnf (by decide)))
      rw [dead]
      refine ⟨T1, Ev.step (f := fun k => (bfrom.try_ k l w tol ((a : Int) - 1) T s (b : Int)).bind fun T1 => some T1) (fun k => ?_) (Ev.bind h1 (Ev.now _)), hT1, hB1⟩
      simp only [bfrom.l]
      rw [if_pos g1, if_pos g0, forced_f]
      simp only [Option.bind_some, if_pos hz]
    · have hf1 : nf l (b + 1 - a) a = true := by
        rw [show b + 1 - a = (b - a) + 1 by omega, nf_snoc, hf, show a + (b - a) = b by omega, Bool.eq_false_iff.mpr hz]; rfl
      have hcl : cl l (b + 1 - st l ((a : Int) - 1)) (st l ((a : Int) - 1)) = cl l (b - st l ((a : Int) - 1)) (st l ((a : Int) - 1)) ++ (if (rd_T47 l (b : Int)).f0 = 0 then [(rd_T47 l (b : Int)).f1] else if (rd_T47 l (b : Int)).f0 = 1 then [(rd_T47 l (b : Int)).f1] else []) := by
        rw [show b + 1 - st l ((a : Int) - 1) = (b - st l ((a : Int) - 1)) + 1 by omega, cl_snoc, show st l ((a : Int) - 1) + (b - st l ((a : Int) - 1)) = b by omega]
      have hmc : my (cl l (b + 1 - st l ((a : Int) - 1)) (st l ((a : Int) - 1))) = true := by
        by_cases e : b + 1 < l.length
        · exact my_sub (List.sublist_append_left _ _) (gs_my hm (st l ((a : Int) - 1)) (b + 1) (by omega) e)
        · have q := gs_my hm (st l ((a : Int) - 1)) b hs (by omega)
          rw [gt_is hm b (by omega)] at q
          rw [hcl]
          have hk := ri_kind (mi_ri hm b (by omega))
          by_cases k2 : (rd_T47 l (b : Int)).f0 = 2
          · rw [if_neg (by omega), if_neg (by omega), List.append_nil]
            exact my_sub (List.sublist_append_left _ _) q
          · have hs2 := (cl_sub_all hm (b - st l ((a : Int) - 1)) (st l ((a : Int) - 1)) (by omega))
            rw [show st l ((a : Int) - 1) + (b - st l ((a : Int) - 1)) = b by omega] at hs2
            exact my_sub (hs2.trans ((List.drop_sublist _ l).map _)) ((mi_iff l).1 hm).2.2
      have hadd : ∃ s1, bfrom.add s (rd_T47 l (b : Int)) = some s1 ∧ Rel s1 (cl l (b + 1 - st l ((a : Int) - 1)) (st l ((a : Int) - 1))) := by
        unfold bfrom.add
        have hk := ri_kind (mi_ri hm b (by omega))
        by_cases k2 : (rd_T47 l (b : Int)).f0 = 2
        · rw [if_pos k2, hcl, if_neg (by omega), if_neg (by omega), List.append_nil]
          exact ⟨s, rfl, hr⟩
        · rw [if_neg k2]
          have e : (if (rd_T47 l (b : Int)).f0 = 0 then [(rd_T47 l (b : Int)).f1] else if (rd_T47 l (b : Int)).f0 = 1 then [(rd_T47 l (b : Int)).f1] else []) = [(rd_T47 l (b : Int)).f1] := by
            rcases hk with k | k | k
            · rw [if_pos k]
            · rw [if_neg (by omega), if_pos k]
            · exact absurd k k2
          rw [hcl, e] at hmc ⊢
          exact rel_add hr hmc
      obtain ⟨s1, hs1, hr1⟩ := hadd
      have hi := (my_iff _).1 hmc
      have hsp := sums_pos _ hi.2.1
      have hqf := qf_le (cl l (b + 1 - st l ((a : Int) - 1)) (st l ((a : Int) - 1)))
      have a1 := am_iff.1 hi.2.2.1
      have a3 := am_iff.1 hi.2.2.2.2
      have eW := hr1.W
      have eH := hr1.H
      have ew : wrap64 (s1.W - s1.H) = s1.W - s1.H := wrap_small (by omega)
      have step : ∀ k, bfrom.l (k + 1) l w tol ((a : Int) - 1) T s (b : Int) = (bfrom.try_ k l w tol ((a : Int) - 1) T s (b : Int)).bind fun T1 => if s1.W - s1.H > w then some T1 else bfrom.l k l w tol ((a : Int) - 1) T1 s1 ((b + 1 : Nat) : Int) := by
        intro k
        simp only [bfrom.l]
        rw [if_pos g1, if_pos g0, forced_f, hw]
        simp only [Option.bind_some, if_neg hz, hs1, ew]
      by_cases ov : s1.W - s1.H > w
      · have dead : row n l w tol a d (b + 1) (stp n l w tol V a b) = stp n l w tol V a b := row_dead d (b + 1) _ (fun j j1 j2 => cst_none (fun x hx => by
          have ci := cst_in hm hx
          have k := cv_ok ci.2.2.2.1
          have hj : j < l.length := by omega
          have e1 : lv l ((a : Int) - 1) (j : Int) w = sv (gs l ((a : Int) - 1) (j : Int)) w := by unfold lv; rw [if_pos ci.1]
          have e2 : gs l ((a : Int) - 1) (j : Int) = cl l (b + 1 - st l ((a : Int) - 1)) (st l ((a : Int) - 1)) ++ (cl l (j - (b + 1)) (b + 1) ++ gt l (j : Int)) := by
            unfold gs
            rw [Int.toNat_natCast, show j - st l ((a : Int) - 1) = (b + 1 - st l ((a : Int) - 1)) + (j - (b + 1)) by omega, cl_split, show st l ((a : Int) - 1) + (b + 1 - st l ((a : Int) - 1)) = b + 1 by omega, List.append_assoc]
          have w1 := cl_wide hm (j - (b + 1)) (b + 1) (by omega)
          have w2 := gt_wide hm j hj
          have hg : my (gs l ((a : Int) - 1) (j : Int)) = true := by
            have := gs_my hm (st l ((a : Int) - 1)) j (by omega) hj
            unfold gs; rw [Int.toNat_natCast]; exact this
          have over := sv_over hg (w := w) (by rw [e2, qf_app, qh_app, qf_app, qh_app]; omega) (by rw [← e1]; exact k.2.2.2.1)
          have bad := k.2.2.2.2
          rw [e1, over] at bad
          unfold mn at bad
          split at bad <;> omega))
        rw [dead]
        refine ⟨T1, Ev.step (f := fun k => (bfrom.try_ k l w tol ((a : Int) - 1) T s (b : Int)).bind fun T1 => some T1) (fun k => ?_) (Ev.bind h1 (Ev.now _)), hT1, hB1⟩
        rw [step]
        simp only [if_pos ov]
      · obtain ⟨T', h2, hT2, hB2⟩ := ih (b + 1) T1 s1 (stp n l w tol V a b) (by omega) (by omega) (by omega) hf1 hr1 hT1 hB1
        refine ⟨T', Ev.step (f := fun k => (bfrom.try_ k l w tol ((a : Int) - 1) T s (b : Int)).bind fun T1 => bfrom.l k l w tol ((a : Int) - 1) T1 s1 ((b + 1 : Nat) : Int)) (fun k => ?_) (Ev.bind h1 h2), hT2, hB2⟩
        rw [step]
        simp only [if_neg ov]
end Go.Proofs.Ytnkdopihaohimaa.Pure

namespace Go.Proofs.Ytnkdopihaohimaa.Pure
set_option linter.unusedVariables false
set_option linter.unusedSimpArgs false
open Go.RowKit Go.Proofs.Ytnkdopihaohimaa.PBr Go.Proofs.YtnkdopihaohimaaW.PrintWords Go.Proofs.YtnkdopihaohimaaW.PrintLast Go.Proofs.YtnkdopihaohimaaW.PrintMore

def apn (c h : Nat) : Int := ap (c : Int) (h : Int)
def Lg (l : List S47) (a : Nat) : Prop := a = 0 ∨ lg l ((a : Int) - 1) = true
instance (l : List S47) (a : Nat) : Decidable (Lg l a) := inferInstanceAs (Decidable (_ ∨ _))
/-- What the ways are, once all breaks from m - 1 down have been sought from. -/
def full (n : Nat) (l : List S47) (w tol : Int) : Nat → (Nat → Nat → Way) → Nat → Nat → Way
  | 0, V => V
  | m + 1, V => full n l w tol m (if Lg l m then row n l w tol m (n - st l ((m : Int) - 1)) (st l ((m : Int) - 1)) V else V)
theorem stp_far {n : Nat} {l : List S47} {w tol : Int} {V : Nat → Nat → Way} {a b x c : Nat} (h : x ≠ a) : stp n l w tol V a b x c = V x c := by
  unfold stp
  cases cst l w tol a b with
  | none => rfl
  | some y => simp only [upd]; rw [if_neg h]
theorem row_far {n : Nat} {l : List S47} {w tol : Int} {a x c : Nat} (h : x ≠ a) : ∀ (d b : Nat) (V : Nat → Nat → Way), row n l w tol a d b V x c = V x c
  | 0, b, V => rfl
  | d + 1, b, V => by simp only [row]; rw [row_far h d (b + 1), stp_far h]
theorem cand_congr {n : Nat} {cost : Nat → Nat → Option (Int × Nat)} {V V' : Nat → Nat → Way} {a c b : Nat} (hab : a ≤ b) (h : ∀ x y, a < x → V x y = V' x y) : cand n cost apn V a c b = cand n cost apn V' a c b := by
  have e : ∀ y, V (b + 1) y = V' (b + 1) y := fun y => h (b + 1) y (by omega)
  unfold cand rest
  simp only [e]
theorem pick_congr {n : Nat} {cost : Nat → Nat → Option (Int × Nat)} {V V' : Nat → Nat → Way} {a c : Nat} (h : ∀ x y, a < x → V x y = V' x y) : ∀ (d b : Nat) (o : Way), a ≤ b → pick n cost apn V a c d b o = pick n cost apn V' a c d b o
  | 0, b, o => fun _ => rfl
  | d + 1, b, o => fun hab => by
    simp only [pick]
    rw [cand_congr hab h]
    exact pick_congr h d (b + 1) _ (by omega)
theorem row_pick {n : Nat} {l : List S47} {w tol : Int} {a c : Nat} : ∀ (d b : Nat) (V : Nat → Nat → Way), a ≤ b → row n l w tol a d b V a c = pick n (cst l w tol) apn V a c d b (V a c)
  | 0, b, V => fun _ => rfl
  | d + 1, b, V => fun hab => by
    simp only [row, pick]
    rw [row_pick d (b + 1) _ (by omega), pick_congr (V' := V) (fun x y hx => stp_far (by omega)) d (b + 1) _ (by omega)]
    congr 1
    unfold stp cand
    cases cst l w tol a b with
    | none => rfl
    | some x => simp only [upd, if_true, Option.bind_some]; rfl
theorem pick_skip {n : Nat} {l : List S47} {w tol : Int} {V : Nat → Nat → Way} {a c : Nat} : ∀ (e d b : Nat) (o : Way), (∀ j, b ≤ j → j < b + e → cst l w tol a j = none) → pick n (cst l w tol) apn V a c (e + d) b o = pick n (cst l w tol) apn V a c d (b + e) o
  | 0, d, b, o => fun _ => by rw [Nat.zero_add, Nat.add_zero]
  | e + 1, d, b, o => fun h => by
    rw [show e + 1 + d = (e + d) + 1 by omega]
    simp only [pick]
    have hc : cand n (cst l w tol) apn V a c b = none := by unfold cand; rw [h b (Nat.le_refl _) (by omega)]; rfl
    rw [hc, show better o none = o from rfl, pick_skip e d (b + 1) o (fun j h1 h2 => h j (by omega) (by omega)), show b + 1 + e = b + (e + 1) by omega]
theorem st_in (l : List S47) (a : Nat) (ha : a ≤ l.length) : a ≤ st l ((a : Int) - 1) ∧ st l ((a : Int) - 1) ≤ l.length := by
  unfold st
  rw [if_neg (by omega)]
  have e : from_ ((a : Int) - 1) = a := by unfold from_ mx; split <;> omega
  rw [e]
  have h1 := le_sk l (l.length - a) a
  have h2 := sk_le l (l.length - a) a
  omega
theorem full_far {n : Nat} {l : List S47} {w tol : Int} {x c : Nat} : ∀ (m : Nat) (V : Nat → Nat → Way), m ≤ x → full n l w tol m V x c = V x c
  | 0, V => fun _ => rfl
  | m + 1, V => fun h => by
    simp only [full]
    rw [full_far m _ (by omega)]
    split
    · exact row_far (by omega) _ _ _
    · rfl
theorem full_fill {n : Nat} {l : List S47} (hn : l.length = n) (hm : mi l = true) (w tol : Int) : ∀ (m : Nat) (V : Nat → Nat → Way), m ≤ n + 1 → (∀ x c, x < m → V x c = none) → ∀ a c, a < m → a < n → Lg l a → full n l w tol m V a c = pick n (cst l w tol) apn (full n l w tol m V) a c (n - a) a none
  | 0, V => fun _ _ a c h => by omega
  | m + 1, V => fun hmn h0 a c ham han hL => by
    simp only [full]
    by_cases e : a = m
    · subst e
      rw [if_pos hL, full_far a _ (Nat.le_refl _), pick_congr (V' := V) (fun x y hx => by rw [full_far a _ (by omega), row_far (by omega)]) _ _ _ (Nat.le_refl _)]
      have hs := st_in l a (by omega)
      rw [row_pick _ _ _ hs.1, h0 a c (by omega)]
      have e2 : n - a = (st l ((a : Int) - 1) - a) + (n - st l ((a : Int) - 1)) := by omega
      rw [e2, pick_skip _ _ _ _ (fun j h1 h2 => cst_none (fun x hx => by
        have := mb_in (cst_in hm hx).1
        omega)), show a + (st l ((a : Int) - 1) - a) = st l ((a : Int) - 1) by omega]
    · refine full_fill hn hm w tol m _ (by omega) (fun x c hx => ?_) a c (by omega) han hL
      split
      · rw [row_far (by omega)]; exact h0 x c (by omega)
      · exact h0 x c (by omega)
def VF (l : List S47) (w tol : Int) : Nat → Nat → Way := full l.length l w tol (l.length + 1) (fun _ _ => none)
theorem filled {l : List S47} (hm : mi l = true) (w tol : Int) : Filled l.length (cst l w tol) apn (Lg l) (VF l w tol) := by
  refine ⟨fun a b x hx => ?_, fun a c hL ha hc => full_fill rfl hm w tol _ _ (Nat.le_refl _) (fun _ _ _ => rfl) a c (by omega) ha hL⟩
  have k := cst_in hm hx
  have q := mb_in k.1
  refine ⟨by omega, by omega, .inr ?_, k.2.2.1⟩
  have hb := k.1
  unfold mb at hb
  simp only [Bool.and_eq_true] at hb
  rw [show ((b + 1 : Nat) : Int) - 1 = (b : Int) by omega]
  exact hb.2.1
theorem from_ev {n : Nat} {l : List S47} (hn : l.length = n) (hm : mi l = true) (w tol : Int) {a : Nat} (han : a ≤ n) (ha : Lg l a) {T : List TL} {V : Nat → Nat → Way} (hT : Tab n T V) (hB : Bnd n V) :
    ∃ T', Ev (fun k => bfrom.f k l w tol ((a : Int) - 1) T) T' ∧ Tab n T' (row n l w tol a (n - st l ((a : Int) - 1)) (st l ((a : Int) - 1)) V) ∧ Bnd n (row n l w tol a (n - st l ((a : Int) - 1)) (st l ((a : Int) - 1)) V) := by
  have hs := st_in l a (by omega)
  have hl : l.length ≤ 2000 := ((mi_iff l).1 hm).1
  have hf : nf l (st l ((a : Int) - 1) - a) a = true := by
    have key : ∀ d i, nf l (sk l d i - i) i = true := by
      intro d
      induction d with
      | zero => intro i; simp [sk, nf]
      | succ d ih =>
        intro i
        simp only [sk]
        split
        · simp [nf]
        · rename_i hh
          have h1 := le_sk l d (i + 1)
          rw [show sk l d (i + 1) - i = (sk l d (i + 1) - (i + 1)) + 1 by omega]
          simp only [nf]
          rw [ih (i + 1)]
          have : fz (rd_T47 l (i : Int)) = false := by
            unfold hit at hh
            simp only [Bool.or_eq_true, not_or] at hh
            exact Bool.eq_false_iff.mpr hh.2
          rw [this]; rfl
    have e : from_ ((a : Int) - 1) = a := by unfold from_ mx; split <;> omega
    unfold st
    by_cases q : (a : Int) - 1 ≥ (l.length : Int)
    · omega
    · rw [if_neg q, e]; exact key _ _
  obtain ⟨T', h1, h2, h3⟩ := from_loop hn hm w tol ha (n - st l ((a : Int) - 1)) (st l ((a : Int) - 1)) T SM0 V (by omega) (Nat.le_refl _) hs.1 hf (by rw [Nat.sub_self]; exact rel_nil) hT hB
  exact ⟨T', Ev.bind (start_ev l ((a : Int) - 1) hl (by omega)) h1, h2, h3⟩
theorem all_ev {n : Nat} {l : List S47} (hn : l.length = n) (hm : mi l = true) (w tol : Int) : ∀ (m : Nat) (T : List TL) (V : Nat → Nat → Way), m ≤ n + 1 → Tab n T V → Bnd n V → ∃ T', Ev (fun k => breaker_Best.l0 k l w tol T ((m : Int) - 2)) T' ∧ Tab n T' (full n l w tol m V) := by
  have hl : l.length ≤ 2000 := ((mi_iff l).1 hm).1
  intro m
  induction m with
  | zero =>
    intro T V _ hT hB
    refine ⟨T, Ev.step (f := fun _ => some T) (fun k => ?_) (Ev.now _), hT⟩
    simp only [breaker_Best.l0]
    rw [if_neg (by omega)]
  | succ m ih =>
    intro T V hmn hT hB
    have g0 : ((m + 1 : Nat) : Int) - 2 ≥ -1 := by omega
    have g1 : ((m + 1 : Nat) : Int) - 2 < (l.length : Int) := by omega
    have ew : wrap64 (((m + 1 : Nat) : Int) - 2 - 1) = (m : Int) - 2 := by rw [wrap_small (by omega)]; omega
    have em : ((m + 1 : Nat) : Int) - 2 = (m : Int) - 1 := by omega
    have ht : Ev (fun k => breaker_Best.t k l ((m : Int) - 1)) (decide (Lg l m)) := by
      unfold breaker_Best.t
      by_cases q : m = 0
      · subst q
        simp only [show ((0 : Nat) : Int) - 1 = -1 from rfl, if_true]
        rw [decide_eq_true (show Lg l 0 from .inl rfl)]; exact Ev.now _
      · simp only [if_neg (show ¬ (m : Int) - 1 = -1 by omega)]
        have e : decide (Lg l m) = lg l ((m : Int) - 1) := by
          by_cases c : lg l ((m : Int) - 1) = true
          · rw [c]; exact decide_eq_true (.inr c)
          · rw [Bool.eq_false_iff.mpr c]; exact decide_eq_false (fun h => h.elim q (fun h => c h))
        rw [e]; exact legal_ev l _ hl
    have step : ∀ k, breaker_Best.l0 (k + 1) l w tol T (((m + 1 : Nat) : Int) - 2) = (breaker_Best.t k l ((m : Int) - 1)).bind fun t => (if t = true then bfrom.f k l w tol ((m : Int) - 1) T else some T).bind fun T1 => breaker_Best.l0 k l w tol T1 ((m : Int) - 2) := by
      intro k
      simp only [breaker_Best.l0]
      rw [if_pos g0, if_pos g1, ew, em]
    by_cases hL : Lg l m
    · obtain ⟨T1, h1, hT1, hB1⟩ := from_ev hn hm w tol (by omega) hL hT hB
      obtain ⟨T', h2, hT2⟩ := ih T1 _ (by omega) hT1 hB1
      refine ⟨T', Ev.step (fun k => step k) (Ev.bind ht ?_), by simp only [full]; rw [if_pos hL]; exact hT2⟩
      rw [decide_eq_true hL]
      simp only [if_true]
      exact Ev.bind h1 h2
    · obtain ⟨T', h2, hT2⟩ := ih T V (by omega) hT hB
      refine ⟨T', Ev.step (fun k => step k) (Ev.bind ht ?_), by simp only [full]; rw [if_neg hL]; exact hT2⟩
      rw [decide_eq_false hL]
      simp only [Bool.false_eq_true, if_false, Option.bind_some]
      exact h2
/-- The breaks that the table tells. -/
def told (l : List S47) (w tol : Int) : List Nat := fol l.length (VF l w tol) l.length 0 2
theorem fol_ev {l : List S47} (hm : mi l = true) {w tol : Int} {T : List TL} (hT : Tab l.length T (VF l w tol)) : ∀ (m a c : Nat) (v : Int × Nat × Nat) (out : List Int), l.length ≤ a + m → Lg l a → a < l.length → c < 4 → VF l w tol a c = some v → out.length ≤ a →
    Ev (fun k => breaker_Best.l1 k l T out ((a : Int) - 1) (c : Int)) (out ++ (fol l.length (VF l w tol) m a c).map (fun x : Nat => (x : Int)))
  | 0, a, c, v, out => fun h _ ha => by omega
  | m + 1, a, c, v, out => fun h hL ha hc hv ho => by
    have hl : l.length ≤ 2000 := ((mi_iff l).1 hm).1
    obtain ⟨x, e, hx, he, hve, _⟩ := v_is (filled hm w tol) hL ha hc hv
    have ln := (filled hm w tol).line _ _ _ hx
    have e2 : v.2.2 = x.2 := by rw [hve]
    have e1 : ((a : Int) - 1 + 1).toNat = a := by omega
    have hg : tg T (4 * a + c) = encW (some v) := by rw [hT.val a c (by omega) hc, hv]
    have ef : fol l.length (VF l w tol) (m + 1) a c = v.2.1 :: (if v.2.1 + 1 = l.length then [] else fol l.length (VF l w tol) m (v.2.1 + 1) v.2.2) := by simp only [fol, hv]
    have g0 : (a : Int) - 1 < (l.length : Int) - 1 := by omega
    have g1 : -1 ≤ (a : Int) - 1 := by omega
    have g2 : (0 : Int) ≤ (c : Int) := by omega
    have g3 : (c : Int) < 4 := by omega
    have g4 : out.length < 1954687338268 := by omega
    rw [ef]
    refine Ev.step (f := fun k => breaker_Best.l1 k l T (out ++ [(v.2.1 : Int)]) (v.2.1 : Int) (v.2.2 : Int)) (fun k => ?_) ?_
    · simp only [breaker_Best.l1]
      rw [if_pos g0, if_pos g1, if_pos g2, if_pos g3, if_pos g4, e1, Int.toNat_natCast, hg]
      rfl
    · by_cases q : v.2.1 + 1 = l.length
      · rw [if_pos q]
        refine Ev.step (f := fun _ => some _) (fun k => ?_) (Ev.now _)
        simp only [breaker_Best.l1]
        rw [if_neg (by omega)]
        simp
      · rw [if_neg q]
        unfold rest at he
        rw [if_neg q] at he
        obtain ⟨u, hu, _⟩ := Option.map_eq_some_iff.mp he
        have ih := fol_ev hm hT m (v.2.1 + 1) v.2.2 u (out ++ [(v.2.1 : Int)]) (by omega) ln.2.2.1 (by omega) (by rw [e2]; exact ln.2.2.2) (by rw [e2]; exact hu) (by rw [List.length_append, List.length_singleton]; omega)
        rw [show ((v.2.1 + 1 : Nat) : Int) - 1 = (v.2.1 : Int) by omega] at ih
        simpa using ih
/-- What Best answers. -/
def bv (l : List S47) (w tol : Int) : List Int × Int × Bool := if mi l = true then (match VF l w tol 0 2 with
  | none => ([], 0, false)
  | some v => ((told l w tol).map (fun x : Nat => (x : Int)), v.1, true)) else ([], 0, false)
theorem best_ev (l : List S47) (w tol : Int) : Ev (fun k => breaker_Best.f k l w tol) (bv l w tol) := by
  unfold breaker_Best.f bv
  refine Ev.bind (imay_ev l) ?_
  by_cases hm : mi l = true
  · have hl : l.length ≤ 2000 := ((mi_iff l).1 hm).1
    simp only [hm, if_true, if_pos (show l.length ≤ 100000 by omega)]
    obtain ⟨T, h1, hT⟩ := all_ev rfl hm w tol (l.length + 1) (List.replicate (4 * (l.length + 1)) TL0) (fun _ _ => none) (Nat.le_refl _) ⟨List.length_replicate .., fun a c _ _ => by rw [tg_new]; rfl⟩ (fun x y v _ h => by cases h)
    rw [show ((l.length + 1 : Nat) : Int) - 2 = (l.length : Int) - 1 by omega] at h1
    refine Ev.bind h1 ?_
    have h2 : tg T 2 = encW (VF l w tol 0 2) := hT.val 0 2 (by omega) (by omega)
    cases hv : VF l w tol 0 2 with
    | none =>
      rw [h2, hv]
      simp only [encW, TL0, Bool.false_eq_true, if_false]
      exact Ev.now _
    | some v =>
      rw [h2, hv]
      simp only [encW, if_true]
      by_cases hz : l.length = 0
      · exfalso
        have hr := hT.val 0 2 (by omega) (by omega)
        have : VF l w tol 0 2 = none := by
          have e : l = [] := List.eq_nil_of_length_eq_zero hz
          subst e
          have key : ∀ (w tol : Int), VF [] w tol 0 2 = none := fun w tol => by
            unfold VF
            simp only [List.length_nil, full]
            split
            · have hs := st_in [] 0 (Nat.le_refl _)
              simp only [List.length_nil, Nat.le_zero_eq] at hs
              rw [show (0 - st [] (((0 : Nat) : Int) - 1)) = 0 by omega]; rfl
            · rfl
          exact key w tol
        rw [this] at hv; cases hv
      · have h3 := fol_ev hm hT l.length 0 2 v [] (by omega) (.inl rfl) (by omega) (by omega) hv (by simp)
        have h4 : Ev (fun k => breaker_Best.l1 k l T [] (-1) 2) ((told l w tol).map (fun x : Nat => (x : Int))) := h3
        exact Ev.bind h4 (Ev.now _)
  · simp only [if_neg hm]; exact Ev.now _
end Go.Proofs.Ytnkdopihaohimaa.Pure

namespace Go.Proofs.Ytnkdopihaohimaa.Pure
set_option linter.unusedVariables false
set_option linter.unusedSimpArgs false
open Go.RowKit Go.Proofs.Ytnkdopihaohimaa.PBr Go.Proofs.YtnkdopihaohimaaW.PrintWords Go.Proofs.YtnkdopihaohimaaW.PrintLast Go.Proofs.YtnkdopihaohimaaW.PrintMore

theorem vf_pos {l : List S47} {w tol : Int} {v : Int × Nat × Nat} (hv : VF l w tol 0 2 = some v) : 0 < l.length := by
  rcases Nat.eq_zero_or_pos l.length with hz | hz
  · exfalso
    have e : l = [] := List.eq_nil_of_length_eq_zero hz
    subst e
    have key : VF [] w tol 0 2 = none := by
      unfold VF
      simp only [List.length_nil, full]
      split
      · have hs := st_in [] 0 (Nat.le_refl _)
        simp only [List.length_nil, Nat.le_zero_eq] at hs
        rw [show (0 - st [] (((0 : Nat) : Int) - 1)) = 0 by omega]; rfl
      · rfl
    rw [key] at hv; cases hv
  · exact hz
def ints (r : List Nat) : List Int := r.map (fun x : Nat => (x : Int))
theorem told_cost {l : List S47} (hm : mi l = true) {w tol : Int} {v : Int × Nat × Nat} (hv : VF l w tol 0 2 = some v) : tot l.length (cst l w tol) apn 0 2 (told l w tol) = some v.1 :=
  sound (filled hm w tol) l.length 0 2 v (by omega) (.inl rfl) (vf_pos hv) (by omega) hv
theorem tot_cons {l : List S47} {w tol : Int} {a c b : Nat} {r : List Nat} {t : Int} (h : tot l.length (cst l w tol) apn a c (b :: r) = some t) : ∃ x e, cst l w tol a b = some x ∧ tot l.length (cst l w tol) apn (b + 1) x.2 r = some e ∧ t = x.1 + e + apn x.2 c := by
  simp only [tot] at h
  obtain ⟨x, hx, h⟩ := Option.bind_eq_some_iff.mp h
  obtain ⟨e, he, h⟩ := Option.map_eq_some_iff.mp h
  exact ⟨x, e, hx, he, h.symm⟩
theorem rd_mid (pre : List Int) (b : Int) (r : List Int) : rd (pre ++ b :: r) (pre.length : Int) = b := by
  unfold rd
  rw [Int.toNat_natCast, List.getD_eq_getElem?_getD, List.getElem?_append_right (Nat.le_refl _), Nat.sub_self]
  rfl
end Go.Proofs.Ytnkdopihaohimaa.Pure

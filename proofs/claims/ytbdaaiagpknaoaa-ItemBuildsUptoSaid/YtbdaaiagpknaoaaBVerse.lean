/- Plain lemmas: what any lines of verse come to, as items. -/
import Derived.Test.YtbdaaiagpknaoaaPUbx11
import Derived.Test.YtbdaaiagpknaoaaBItem
namespace Go.Proofs.Ytbdaaiagpknaoaa.Pure
set_option linter.unusedVariables false
set_option linter.unusedSimpArgs false
open Go.RowKit Go.Proofs.Ytbdaaiagpknaoaa.PUb Go.Proofs.YtbdaaiagpknaoaaW.PrintWords Go.Proofs.YtbdaaiagpknaoaaW.PrintLast Go.Proofs.YtbdaaiagpknaoaaW.PrintMore

def bxi (ps : List S47) (wn : Int) (i : Nat) : S45 := ⟨0, ⟨(rd_T47 ps (i : Int)).f1, 0, 0, 0⟩, 0, false, wn, (i : Int)⟩
def pni (hy : Int) : S45 := ⟨2, ⟨hy, 0, 0, 0⟩, 50, true, 0, 0⟩
def wd (ps : List S47) (hy wn : Int) : Nat → Nat → List S45
  | 0, _ => []
  | d + 1, i => (if (i : Int) > 0 then [pni hy] else []) ++ (bxi ps wn i :: wd ps hy wn d (i + 1))
theorem wd_len (ps : List S47) (hy wn : Int) : ∀ d i, (wd ps hy wn d i).length ≤ 2 * d
  | 0, i => Nat.le_refl _
  | d + 1, i => by
    have := wd_len ps hy wn d (i + 1)
    simp only [wd, List.length_append, List.length_cons]
    split <;> simp <;> omega
theorem bword_loop (ps : List S47) (hy wn : Int) (hl : ps.length ≤ 10000000) : ∀ (d i : Nat) (xs : List S45), i + d = ps.length → xs.length + 2 * d + 2 < 1954687338268 → Ev (fun k => bword.l0 k ps hy wn xs (i : Int)) (xs ++ wd ps hy wn d i) := by
  intro d
  induction d with
  | zero =>
    intro i xs hi hx
    have g0 : ¬ (i : Int) < (ps.length : Int) := by omega
    refine Ev.step (f := fun _ => some _) (fun k => ?_) (Ev.now _)
    simp only [bword.l0]; rw [if_neg g0]; simp [wd]
  | succ d ih =>
    intro i xs hi hx
    have g1 : (i : Int) < (ps.length : Int) := by omega
    have g2 : (0 : Int) ≤ (i : Int) := by omega
    have g3 : i ≤ 1000000000000000 := by omega
    have g4 : xs.length + 2 < 1954687338268 := by omega
    by_cases c : (i : Int) > 0
    · have e : xs ++ wd ps hy wn (d + 1) i = ((xs ++ [pni hy]) ++ [bxi ps wn i]) ++ wd ps hy wn d (i + 1) := by
        simp only [wd]; rw [if_pos c]; simp
      rw [e]
      refine Ev.step (fun k => ?_) (ih (i + 1) ((xs ++ [pni hy]) ++ [bxi ps wn i]) (by omega) (by simp; omega))
      simp only [bword.l0]; rw [if_pos g1, if_pos g2, if_pos g4, if_pos c, succ_w i g3]; rfl
    · have e : xs ++ wd ps hy wn (d + 1) i = (xs ++ [bxi ps wn i]) ++ wd ps hy wn d (i + 1) := by
        simp only [wd]; rw [if_neg c]; simp
      rw [e]
      refine Ev.step (fun k => ?_) (ih (i + 1) (xs ++ [bxi ps wn i]) (by omega) (by simp; omega))
      simp only [bword.l0]; rw [if_pos g1, if_pos g2, if_pos g4, if_neg c, succ_w i g3]; rfl
theorem bword_ev (ps : List S47) (hy wn : Int) (xs : List S45) (hl : ps.length ≤ 10000000) (hx : xs.length + 2 * ps.length + 2 < 1954687338268) : Ev (fun k => bword.f k ps hy wn xs) (xs ++ wd ps hy wn ps.length 0) := bword_loop ps hy wn hl ps.length 0 xs (by omega) hx

def spi (m0 m1 m2 m3 : Int) : S45 := ⟨1, ⟨m0, m1, m2, m3⟩, 0, false, 0, 0⟩
section
variable (m0 m1 m2 m3 hy : Int)
def ld (ws : List (List S47)) : Nat → Nat → Nat → List S45
  | 0, _, _ => bends
  | d + 1, i, wn => (if (i : Int) > 0 then [spi m0 m1 m2 m3] else []) ++ (wd (rd_W ws (i : Int)) hy (wn : Int) (rd_W ws (i : Int)).length 0 ++ ld ws d (i + 1) (wn + 1))
def lc (ws : List (List S47)) : Nat → Nat → Nat
  | 0, _ => 3
  | d + 1, i => 1 + 2 * (rd_W ws (i : Int)).length + lc ws d (i + 1)
theorem lc_ge (ws : List (List S47)) : ∀ d i, 3 ≤ lc ws d i
  | 0, i => Nat.le_refl _
  | d + 1, i => by have := lc_ge ws d (i + 1); simp only [lc]; omega
theorem ld_len (ws : List (List S47)) : ∀ d i wn, (ld m0 m1 m2 m3 hy ws d i wn).length ≤ lc ws d i
  | 0, i, wn => by simp [ld, lc, bends]
  | d + 1, i, wn => by
    have := ld_len ws d (i + 1) (wn + 1)
    have h2 := wd_len (rd_W ws (i : Int)) hy (wn : Int) (rd_W ws (i : Int)).length 0
    simp only [ld, lc, List.length_append]
    split <;> simp <;> omega
theorem bline_loop (ws : List (List S47)) (hl : ws.length ≤ 10000000) (hp : ∀ i : Int, (rd_W ws i).length ≤ 10000000) : ∀ (d i wn : Nat) (xs : List S45), i + d = ws.length → wn + d ≤ 1000000000 → xs.length + lc ws d i + 2 < 1954687338268 → Ev (fun k => bline.l0 k ws m0 m1 m2 m3 hy (wn : Int) xs (i : Int)) (xs ++ ld m0 m1 m2 m3 hy ws d i wn, ((wn + d : Nat) : Int)) := by
  intro d
  induction d with
  | zero =>
    intro i wn xs hi hw hx
    have g0 : ¬ (i : Int) < (ws.length : Int) := by omega
    have g4 : xs.length + 3 < 1954687338268 := by simp only [lc] at hx; omega
    refine Ev.step (f := fun _ => some _) (fun k => ?_) (Ev.now _)
    simp only [bline.l0]; rw [if_neg g0, if_pos g4]; simp [ld]
  | succ d ih =>
    intro i wn xs hi hw hx
    have hx2 := hx
    simp only [lc] at hx2
    have h3 := lc_ge ws d (i + 1)
    have hq := hp (i : Int)
    have g1 : (i : Int) < (ws.length : Int) := by omega
    have g2 : (0 : Int) ≤ (i : Int) := by omega
    have g3 : i ≤ 1000000000000000 := by omega
    have g4 : xs.length + 1 < 1954687338268 := by omega
    have g5 : wn ≤ 1000000000000000 := by omega
    have hwl := wd_len (rd_W ws (i : Int)) hy (wn : Int) (rd_W ws (i : Int)).length 0
    have key : ∀ a : List S45, a.length ≤ xs.length + 1 → xs ++ ld m0 m1 m2 m3 hy ws (d + 1) i wn = (a ++ wd (rd_W ws (i : Int)) hy (wn : Int) (rd_W ws (i : Int)).length 0) ++ ld m0 m1 m2 m3 hy ws d (i + 1) (wn + 1) → Ev (fun k => (bword.f k (rd_W ws (i : Int)) hy (wn : Int) a).bind fun ys => bline.l0 k ws m0 m1 m2 m3 hy ((wn + 1 : Nat) : Int) ys ((i + 1 : Nat) : Int)) (xs ++ ld m0 m1 m2 m3 hy ws (d + 1) i wn, ((wn + (d + 1) : Nat) : Int)) := by
      intro a ha e
      rw [e, show wn + (d + 1) = wn + 1 + d by omega]
      exact Ev.bind (bword_ev _ hy _ a hq (by omega)) (ih (i + 1) (wn + 1) _ (by omega) (by omega) (by rw [List.length_append]; omega))
    by_cases c : (i : Int) > 0
    · refine Ev.step (fun k => ?_) (key (xs ++ [spi m0 m1 m2 m3]) (by simp) (by simp only [ld]; rw [if_pos c]; simp))
      simp only [bline.l0]; rw [if_pos g1, if_pos g2, if_pos g4, if_pos c, succ_w i g3, succ_w wn g5]; rfl
    · refine Ev.step (fun k => ?_) (key xs (by omega) (by simp only [ld]; rw [if_neg c]; simp))
      simp only [bline.l0]; rw [if_pos g1, if_pos g2, if_pos g4, if_neg c, succ_w i g3, succ_w wn g5]
def vd (ls : List (List (List S47))) : Nat → Nat → Nat → List S45
  | 0, _, _ => []
  | d + 1, i, wn => ld m0 m1 m2 m3 hy (rd_V ls (i : Int)) (rd_V ls (i : Int)).length 0 wn ++ vd ls d (i + 1) (wn + (rd_V ls (i : Int)).length)
def vc (ls : List (List (List S47))) : Nat → Nat → Nat
  | 0, _ => 0
  | d + 1, i => lc (rd_V ls (i : Int)) (rd_V ls (i : Int)).length 0 + vc ls d (i + 1)
def vw (ls : List (List (List S47))) : Nat → Nat → Nat
  | 0, _ => 0
  | d + 1, i => (rd_V ls (i : Int)).length + vw ls d (i + 1)
def dn (l : List S45) : List S45 × Int × Int := if mi l = true then (l, 0, 0) else ([], 90, 0)
theorem bdone_ev (l : List S45) : Ev (fun k => bdone.f k l) (dn l) := by
  unfold bdone.f dn
  refine Ev.bind (imay_ev l) ?_
  by_cases h : mi l = true
  · simp only [if_pos h]; exact Ev.now _
  · simp only [if_neg h]; exact Ev.now _
theorem verse_loop (ls : List (List (List S47))) (hl : ls.length ≤ 10000000) (hw : ∀ i : Int, (rd_V ls i).length ≤ 10000000) (hp : ∀ i j : Int, (rd_W (rd_V ls i) j).length ≤ 10000000) : ∀ (d i wn : Nat) (xs : List S45), i + d = ls.length → wn + vw ls d i ≤ 1000000000 → xs.length + vc ls d i + 2 < 1954687338268 → Ev (fun k => item_Verse.l0 k ls m0 m1 m2 m3 hy (wn : Int) xs (i : Int)) (dn (xs ++ vd m0 m1 m2 m3 hy ls d i wn)) := by
  intro d
  induction d with
  | zero =>
    intro i wn xs hi hn hx
    have g0 : ¬ (i : Int) < (ls.length : Int) := by omega
    refine Ev.step (fun k => ?_) (by simpa [vd] using bdone_ev xs)
    simp only [item_Verse.l0]; rw [if_neg g0]
  | succ d ih =>
    intro i wn xs hi hn hx
    simp only [vw] at hn
    simp only [vc] at hx
    have g1 : (i : Int) < (ls.length : Int) := by omega
    have g2 : (0 : Int) ≤ (i : Int) := by omega
    have g3 : i ≤ 1000000000000000 := by omega
    have hlen := ld_len m0 m1 m2 m3 hy (rd_V ls (i : Int)) (rd_V ls (i : Int)).length 0 wn
    have e : xs ++ vd m0 m1 m2 m3 hy ls (d + 1) i wn = (xs ++ ld m0 m1 m2 m3 hy (rd_V ls (i : Int)) (rd_V ls (i : Int)).length 0 wn) ++ vd m0 m1 m2 m3 hy ls d (i + 1) (wn + (rd_V ls (i : Int)).length) := by simp [vd]
    rw [e]
    refine Ev.step (f := fun k => (bline.f k (rd_V ls (i : Int)) m0 m1 m2 m3 hy (wn : Int) xs).bind fun t => item_Verse.l0 k ls m0 m1 m2 m3 hy t.2 t.1 ((i + 1 : Nat) : Int)) (fun k => ?_) (Ev.bind (bline_loop m0 m1 m2 m3 hy (rd_V ls (i : Int)) (hw _) (hp _) (rd_V ls (i : Int)).length 0 wn xs (by omega) (by omega) (by omega)) (ih (i + 1) (wn + (rd_V ls (i : Int)).length) _ (by omega) (by omega) (by rw [List.length_append]; omega)))
    simp only [item_Verse.l0]; rw [if_pos g1, if_pos g2, succ_w i g3]
end
theorem rd_hit (l : List S45) (i : Nat) (h : i < l.length) : rd_T45 l (i : Int) = l[i] := by
  unfold rd_T45
  rw [Int.toNat_natCast, List.getD_eq_getElem?_getD, List.getElem?_eq_getElem h]; rfl
def isB (x : S45) : Bool := decide (x.f0 = 0)
theorem bx_filter (l : List S45) : ∀ d i, i + d = l.length → bx l d i = (l.drop i).filter isB
  | 0, i => fun h => by rw [List.drop_eq_nil_of_le (by omega)]; rfl
  | d + 1, i => fun h => by
    have hlt : i < l.length := by omega
    rw [List.drop_eq_getElem_cons hlt, List.filter_cons, ← bx_filter l d (i + 1) (by omega)]
    simp only [bx]
    rw [rd_hit l i hlt]
    by_cases c : l[i].f0 = 0
    · rw [if_pos c, if_pos (by simp [isB, c])]; rfl
    · rw [if_neg c, if_neg (by simp [isB, c])]; rfl
/-! ## What the bulk bounds -/
abbrev B1 : List S47 → Nat := OpenB.bulkOf (fun _ => 1)
abbrev B2 : List (List S47) → Nat := OpenB.bulkOf B1
theorem bulk_pos {α : Type} (bk : α → Nat) (l : List α) : 1 ≤ OpenB.bulkOf bk l := by
  induction l with
  | nil => exact Nat.le_refl _
  | cons x r ih => simp only [OpenB.bulkOf]; omega
theorem bulk_len {α : Type} (bk : α → Nat) (h : ∀ x, 1 ≤ bk x) (l : List α) : l.length + 1 ≤ OpenB.bulkOf bk l := by
  induction l with
  | nil => exact Nat.le_refl _
  | cons x r ih => have := h x; simp only [OpenB.bulkOf, List.length_cons]; omega
theorem bulk_mem {α : Type} (bk : α → Nat) {l : List α} {x : α} (h : x ∈ l) : bk x + 1 ≤ OpenB.bulkOf bk l := by
  induction l with
  | nil => cases h
  | cons y r ih =>
    simp only [OpenB.bulkOf]
    cases List.mem_cons.1 h with
    | inl e => subst e; have := bulk_pos bk r; omega
    | inr e => have := ih e; omega
theorem getD_mem {α : Type} (l : List (List α)) (i : Nat) : l.getD i [] = [] ∨ l.getD i [] ∈ l := by
  rw [List.getD_eq_getElem?_getD]
  cases h : l[i]? with
  | none => exact Or.inl rfl
  | some x => exact Or.inr (List.mem_of_getElem? h)
theorem lc_bulk (ws : List (List S47)) : ∀ d i, i + d = ws.length → lc ws d i ≤ 2 * B2 (ws.drop i) + 3
  | 0, i => fun h => by simp only [lc]; omega
  | d + 1, i => fun h => by
    have ih := lc_bulk ws d (i + 1) (by omega)
    have hlt : i < ws.length := by omega
    have e : rd_W ws (i : Int) = ws[i] := by unfold rd_W; rw [Int.toNat_natCast, List.getD_eq_getElem?_getD, List.getElem?_eq_getElem hlt]; rfl
    have h1 : ws[i].length + 1 ≤ B1 ws[i] := bulk_len _ (fun _ => Nat.le_refl _) _
    rw [List.drop_eq_getElem_cons hlt]
    simp only [lc, B2, OpenB.bulkOf, e]
    simp only [B2] at ih
    omega
theorem v_bulk (ls : List (List (List S47))) : ∀ d i, i + d = ls.length → vc ls d i ≤ 5 * OpenB.bulkOf B2 (ls.drop i) ∧ vw ls d i ≤ OpenB.bulkOf B2 (ls.drop i)
  | 0, i => fun h => by simp [vc, vw]
  | d + 1, i => fun h => by
    have ih := v_bulk ls d (i + 1) (by omega)
    have hlt : i < ls.length := by omega
    have e : rd_V ls (i : Int) = ls[i] := by unfold rd_V; rw [Int.toNat_natCast, List.getD_eq_getElem?_getD, List.getElem?_eq_getElem hlt]; rfl
    have h1 : ls[i].length + 1 ≤ B2 ls[i] := bulk_len _ (fun x => bulk_pos _ x) _
    have h2 := lc_bulk ls[i] ls[i].length 0 (by omega)
    rw [List.drop_zero] at h2
    rw [List.drop_eq_getElem_cons hlt]
    simp only [vc, vw, OpenB.bulkOf, e]
    omega

end Go.Proofs.Ytbdaaiagpknaoaa.Pure

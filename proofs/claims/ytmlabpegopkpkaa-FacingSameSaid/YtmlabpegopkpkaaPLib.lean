/- Plain lemmas on the printed functions of the package facing: what Pages and Find come to. -/
import Derived.Test.YtmlabpegopkpkaaPAllx4
namespace Go.Proofs.Ytmlabpegopkpkaa.Pure
set_option linter.unusedVariables false
set_option linter.unusedSimpArgs false
open Go.RowKit Go.Proofs.Ytmlabpegopkpkaa.PAll Go.Proofs.YtmlabpegopkpkaaW.PrintWords Go.Proofs.YtmlabpegopkpkaaW.PrintLast Go.Proofs.YtmlabpegopkpkaaW.PrintMore

theorem wrap_small {x : Int} (h : -9223372036854775808 ≤ x ∧ x ≤ 9223372036854775807) : wrap64 x = x := by
  unfold wrap64
  omega
theorem rd31 (a : List S31) (i : Nat) (h : i < a.length) : rd_T31 a i = a[i] := by
  unfold rd_T31
  rw [Int.toNat_natCast, List.getD_eq_getElem?_getD, List.getElem?_eq_getElem h]
  rfl

/-- How many spreads a chunk has. -/
def many (l r : List Int) (c : Nat) : Nat := (mx (rd l c) (rd r c)).toNat
/-- How many there are ahead of a chunk. -/
def before (l r : List Int) : Nat → Nat
  | 0 => 0
  | c + 1 => before l r c + many l r c
def which (i : Nat) (m : Int) : Int := if (i : Int) ≥ m then -1 else i
def leftCell (s c i : Nat) (a : Int) : S31 := ⟨2 * ((s + i : Nat) + 1 : Int), 0, c, which i a⟩
def rightCell (s c i : Nat) (b : Int) : S31 := ⟨2 * ((s + i : Nat) + 1 : Int) + 1, 1, c, which i b⟩
/-- The first spreads of a chunk. -/
def chunk (s c : Nat) (a b : Int) : Nat → List S31
  | 0 => []
  | i + 1 => chunk s c a b i ++ [leftCell s c i a] ++ [rightCell s c i b]
theorem chunk_length (s c : Nat) (a b : Int) (i : Nat) : (chunk s c a b i).length = 2 * i := by
  induction i with
  | zero => rfl
  | succ i ih => simp [chunk, ih]; omega
/-- The pages of the first chunks. -/
def pagesL (l r : List Int) : Nat → List S31
  | 0 => []
  | c + 1 => pagesL l r c ++ chunk (before l r c) c (rd l c) (rd r c) (many l r c)
theorem pagesL_length (l r : List Int) (c : Nat) : (pagesL l r c).length = 2 * before l r c := by
  induction c with
  | zero => rfl
  | succ c ih => simp [pagesL, before, ih, chunk_length]; omega

theorem may_f (n : Int) : facing_may.f n = some (decide (0 ≤ n ∧ n ≤ 2000)) := by
  unfold facing_may.f
  by_cases h : n ≥ 0
  · rw [if_pos h]; congr 1; exact decide_eq_decide.2 ⟨fun x => ⟨h, x⟩, fun x => x.2⟩
  · rw [if_neg h]; congr 1; symm; exact decide_eq_false (fun x => h x.1)

theorem page_arith (n S : Nat) (h : n = 2 * S) (hS : S ≤ 2000) : wrap64 ((n : Int) / 2) = (S : Int) ∧ wrap64 ((S : Int) + 1) = (S : Int) + 1 ∧ wrap64 (2 * ((S : Int) + 1)) = 2 * ((S : Int) + 1) ∧ wrap64 (2 * ((S : Int) + 1) + 1) = 2 * ((S : Int) + 1) + 1 ∧ n < 4398046511104 ∧ n + 1 < 4398046511104 := by
  refine ⟨?_, wrap_small (x := (S : Int) + 1) (by omega), wrap_small (x := 2 * ((S : Int) + 1)) (by omega), wrap_small (x := 2 * ((S : Int) + 1) + 1) (by omega), by omega, by omega⟩
  rw [wrap_small (by omega)]
  omega
theorem next_arith (i : Nat) (h : i ≤ 2000) : wrap64 ((i : Int) + 1) = ((i + 1 : Nat) : Int) := by rw [wrap_small (by omega)]; omega
/-- The rounds of a chunk. -/
theorem chunk_step (l r : List Int) (c : Nat) (hc : c < l.length) (hlen : l.length * 8 ≤ 140737488351232) (ha : 0 ≤ rd l c ∧ rd l c ≤ 2000) (hb : 0 ≤ rd r c ∧ rd r c ≤ 2000) (hs : before l r c + many l r c ≤ 2000)
    {res : List S31 × Int × Int} (hnext : Ev (fun k => facing_Pages.l0 k r (pagesL l r (c + 1)) l (l.length : Int) ((c + 1 : Nat) : Int)) res) (d : Nat) : ∀ i : Nat, i + d = many l r c →
    Ev (fun k => facing_Pages.l1 k r (pagesL l r c ++ chunk (before l r c) c (rd l c) (rd r c) i) c (rd l c) (rd r c) l (l.length : Int) c (mx (rd l c) (rd r c)) i) res := by
  have hm : mx (rd l c) (rd r c) = (many l r c : Int) := by
    unfold many mx
    split <;> omega
  induction d with
  | zero =>
    intro i hi
    have e : i = many l r c := by omega
    subst e
    refine Ev.step (f := fun k => facing_Pages.l0 k r (pagesL l r (c + 1)) l (l.length : Int) ((c + 1 : Nat) : Int)) (fun k => ?_) hnext
    simp only [facing_Pages.l1]
    rw [hm, if_neg (by omega), wrap_small (by omega)]
    rfl
  | succ d ih =>
    intro i hi
    have h := ih (i + 1) (by omega)
    have e : pagesL l r c ++ chunk (before l r c) c (rd l c) (rd r c) (i + 1) = pagesL l r c ++ chunk (before l r c) c (rd l c) (rd r c) i ++ [leftCell (before l r c) c i (rd l c)] ++ [rightCell (before l r c) c i (rd r c)] := by
      simp [chunk]
    rw [e] at h
    generalize hx : pagesL l r c ++ chunk (before l r c) c (rd l c) (rd r c) i = x at h
    have hxl : x.length = 2 * (before l r c + i) := by rw [← hx, List.length_append, pagesL_length, chunk_length]; omega
    refine Ev.step (f := fun k => facing_Pages.l1 k r (x ++ [leftCell (before l r c) c i (rd l c)] ++ [rightCell (before l r c) c i (rd r c)]) c (rd l c) (rd r c) l (l.length : Int) c (mx (rd l c) (rd r c)) ((i + 1 : Nat) : Int)) (fun k => ?_) h
    have hlt : (i : Int) < (many l r c : Int) := by omega
    generalize hS : before l r c + i = S at hxl
    have hS2 : S ≤ 2000 := by omega
    have hi2 : i ≤ 2000 := by omega
    obtain ⟨e1, e2, e3, e4, hL0⟩ := page_arith x.length S hxl hS2
    have e5 := next_arith i hi2
    simp only [facing_Pages.l1]
    rw [hm, if_pos hlt]
    simp only [e1, e2, e3, e4, e5]
    have hL : x.length < 4398046511104 := hL0.1
    have hL2 : ∀ y : S31, (x ++ [y]).length < 4398046511104 := by intro y; rw [List.length_append, List.length_singleton]; exact hL0.2
    by_cases h1 : (i : Int) ≥ rd l c
    · have w1 : leftCell (before l r c) c i (rd l c) = ⟨2 * ((S : Int) + 1), 0, c, -1⟩ := by unfold leftCell which; rw [if_pos h1, hS]
      rw [if_pos h1, if_pos hL]
      simp only [Option.bind_some]
      by_cases h2 : (i : Int) ≥ rd r c
      · have w2 : rightCell (before l r c) c i (rd r c) = ⟨2 * ((S : Int) + 1) + 1, 1, c, -1⟩ := by unfold rightCell which; rw [if_pos h2, hS]
        rw [if_pos h2, if_pos (hL2 _), w1, w2]
      · have w2 : rightCell (before l r c) c i (rd r c) = ⟨2 * ((S : Int) + 1) + 1, 1, c, i⟩ := by unfold rightCell which; rw [if_neg h2, hS]
        rw [if_neg h2, if_pos (hL2 _), w1, w2]
    · have w1 : leftCell (before l r c) c i (rd l c) = ⟨2 * ((S : Int) + 1), 0, c, i⟩ := by unfold leftCell which; rw [if_neg h1, hS]
      rw [if_neg h1, if_pos hL]
      simp only [Option.bind_some]
      by_cases h2 : (i : Int) ≥ rd r c
      · have w2 : rightCell (before l r c) c i (rd r c) = ⟨2 * ((S : Int) + 1) + 1, 1, c, -1⟩ := by unfold rightCell which; rw [if_pos h2, hS]
        rw [if_pos h2, if_pos (hL2 _), w1, w2]
      · have w2 : rightCell (before l r c) c i (rd r c) = ⟨2 * ((S : Int) + 1) + 1, 1, c, i⟩ := by unfold rightCell which; rw [if_neg h2, hS]
        rw [if_neg h2, if_pos (hL2 _), w1, w2]

/-- What Pages tells: a fault, and no pages; or all pages of all chunks. -/
def Told (l r : List Int) (res : List S31 × Int × Int) : Prop :=
  (res.2.1 ≠ 0 ∧ res.1 = []) ∨ (l.length = r.length ∧ res = (pagesL l r l.length, 0, 0) ∧ (∀ c : Nat, c < l.length → 0 ≤ rd l c ∧ rd l c ≤ 2000 ∧ 0 ≤ rd r c ∧ rd r c ≤ 2000) ∧ before l r l.length ≤ 2000)

theorem pages_step (l r : List Int) (he : l.length = r.length) (hlen : l.length * 8 ≤ 140737488351232) (d : Nat) : ∀ c : Nat, c + d = l.length → (∀ q : Nat, q < c → 0 ≤ rd l q ∧ rd l q ≤ 2000 ∧ 0 ≤ rd r q ∧ rd r q ≤ 2000) → before l r c ≤ 2000 →
    ∃ res, Told l r res ∧ Ev (fun k => facing_Pages.l0 k r (pagesL l r c) l (l.length : Int) c) res := by
  induction d with
  | zero =>
    intro c hc hq hb
    have e : c = l.length := by omega
    subst e
    refine ⟨(pagesL l r l.length, 0, 0), .inr ⟨he, rfl, hq, hb⟩, Ev.step (f := fun _ => some _) (fun k => ?_) (Ev.now _)⟩
    simp only [facing_Pages.l0]
    rw [if_neg (by omega)]
  | succ d ih =>
    intro c hc hq hb
    have hbad : ∀ b : Bool, b = true → ∃ res, Told l r res ∧ Ev (fun k => facing_Pages.j1 k r (pagesL l r c) c (rd l c) (rd r c) l (l.length : Int) c b) res := by
      rintro b rfl
      refine ⟨([], 230, c), .inl ⟨by simp, rfl⟩, Ev.step (f := fun _ => some _) (fun k => ?_) (Ev.now _)⟩
      simp [facing_Pages.j1, facing_wrong.f]
    have head : ∀ (b : Bool) (res : List S31 × Int × Int), (b = true ↔ ¬ (0 ≤ rd l c ∧ rd l c ≤ 2000 ∧ 0 ≤ rd r c ∧ rd r c ≤ 2000 ∧ before l r c + many l r c ≤ 2000)) →
        Ev (fun k => facing_Pages.j1 k r (pagesL l r c) c (rd l c) (rd r c) l (l.length : Int) c b) res → Ev (fun k => facing_Pages.l0 k r (pagesL l r c) l (l.length : Int) c) res := by
      intro b res hbb hev
      refine Ev.step (f := fun k => facing_Pages.j1 k r (pagesL l r c) c (rd l c) (rd r c) l (l.length : Int) c b) (fun k => ?_) hev
      simp only [facing_Pages.l0]
      rw [if_pos (by omega), if_pos (by omega), if_pos (by omega), if_pos (by omega), may_f, may_f]
      simp only [Option.bind_some]
      by_cases h1 : 0 ≤ rd l c ∧ rd l c ≤ 2000
      · rw [decide_eq_true h1, if_pos rfl]
        by_cases h2 : 0 ≤ rd r c ∧ rd r c ≤ 2000
        · rw [decide_eq_true h2, if_pos rfl]
          have hm : mx (rd l c) (rd r c) = (many l r c : Int) := by
            unfold many mx
            split <;> omega
          have hmm : many l r c ≤ 2000 := by unfold many mx; split <;> omega
          have e1 : wrap64 (wrap64 (((pagesL l r c).length : Int) / 2) + mx (rd l c) (rd r c)) = ((before l r c + many l r c : Nat) : Int) := by
            rw [pagesL_length, hm, wrap_small (x := ((2 * before l r c : Nat) : Int) / 2) (by omega), wrap_small (by omega)]
            omega
          rw [e1]
          congr 1
          rw [Bool.eq_iff_iff, decide_eq_true_iff, hbb]
          constructor
          · intro h ⟨_, _, _, _, g⟩; omega
          · intro h
            have : ¬ (before l r c + many l r c ≤ 2000) := fun g => h ⟨h1.1, h1.2, h2.1, h2.2, g⟩
            omega
        · rw [decide_eq_false h2, if_neg (by decide)]
          have : b = true := hbb.2 (fun g => h2 ⟨g.2.2.1, g.2.2.2.1⟩)
          rw [this]
      · rw [decide_eq_false h1, if_neg (by decide)]
        have : b = true := hbb.2 (fun g => h1 ⟨g.1, g.2.1⟩)
        rw [this]
    by_cases hall : 0 ≤ rd l c ∧ rd l c ≤ 2000 ∧ 0 ≤ rd r c ∧ rd r c ≤ 2000 ∧ before l r c + many l r c ≤ 2000
    · obtain ⟨g1, g2, g3, g4, g5⟩ := hall
      obtain ⟨res, ht, hev⟩ := ih (c + 1) (by omega) (by
        intro q hqc
        by_cases e : q = c
        · subst e; exact ⟨g1, g2, g3, g4⟩
        · exact hq q (by omega)) g5
      refine ⟨res, ht, head false res (by simp; exact ⟨g1, g2, g3, g4, g5⟩) ?_⟩
      have h := chunk_step l r c (by omega) hlen ⟨g1, g2⟩ ⟨g3, g4⟩ g5 hev (many l r c) 0 (by omega)
      refine Ev.step (f := fun k => facing_Pages.l1 k r (pagesL l r c ++ chunk (before l r c) c (rd l c) (rd r c) 0) c (rd l c) (rd r c) l (l.length : Int) c (mx (rd l c) (rd r c)) ((0 : Nat) : Int)) (fun k => ?_) h
      simp [facing_Pages.j1, chunk]
    · obtain ⟨res, ht, hev⟩ := hbad true rfl
      exact ⟨res, ht, head true res (by simp; intro a b c2 d2; omega) hev⟩

theorem pages_ev (l r : List Int) (hlen : l.length * 8 ≤ 140737488351232) : ∃ res, Told l r res ∧ Ev (fun k => facing_Pages.f k l r) res := by
  by_cases he : l.length = r.length
  · obtain ⟨res, ht, hev⟩ := pages_step l r he hlen l.length 0 (by omega) (fun q hq => by omega) (by simp [before])
    refine ⟨res, ht, Ev.congr (fun k => ?_) hev⟩
    unfold facing_Pages.f
    rw [if_pos (by omega)]
    rfl
  · refine ⟨([], 230, -1), .inl ⟨by simp, rfl⟩, Ev.congr (f := fun _ => some _) (fun k => ?_) (Ev.now _)⟩
    unfold facing_Pages.f
    rw [if_neg (by omega)]
    rfl

theorem fixed_ev : Ev (fun k => variorumlaw23_fixed.f k) true := Ev.of variorumlaw23_fixed.mono (k := 60) (by decide +kernel)

/-- What stands at each place. -/
def cellAt (l r : List Int) (c i : Nat) (σ : Bool) : S31 := if σ = true then rightCell (before l r c) c i (rd r c) else leftCell (before l r c) c i (rd l c)
theorem chunk_at (s c : Nat) (a b : Int) (n : Nat) : ∀ (i : Nat) (σ : Bool), i < n → (chunk s c a b n)[2 * i + (if σ = true then 1 else 0)]? = some (if σ = true then rightCell s c i b else leftCell s c i a) := by
  induction n with
  | zero => intro i σ hi; omega
  | succ n ih =>
    intro i σ hi
    have hl := chunk_length s c a b n
    by_cases e : i = n
    · subst e
      unfold chunk
      cases σ
      · rw [if_neg (by decide), if_neg (by decide), Nat.add_zero, List.append_assoc, List.getElem?_append_right (by omega), hl, Nat.sub_self]; rfl
      · rw [if_pos rfl, if_pos rfl, List.getElem?_append_right (by simp [hl]), List.length_append, hl]; simp
    · have h := ih i σ (by omega)
      unfold chunk
      rw [List.append_assoc, List.getElem?_append_left (by rw [hl]; split <;> omega)]
      exact h
theorem pages_at (l r : List Int) (n : Nat) : ∀ (c i : Nat) (σ : Bool), c < n → i < many l r c → (pagesL l r n)[2 * (before l r c + i) + (if σ = true then 1 else 0)]? = some (cellAt l r c i σ) := by
  induction n with
  | zero => intro c i σ hc; omega
  | succ n ih =>
    intro c i σ hc hi
    have hl := pagesL_length l r n
    unfold pagesL
    by_cases e : c = n
    · subst e
      rw [List.getElem?_append_right (by rw [hl]; omega), hl, show 2 * (before l r c + i) + (if σ = true then 1 else 0) - 2 * before l r c = 2 * i + (if σ = true then 1 else 0) by omega]
      exact chunk_at _ _ _ _ _ i σ hi
    · have h := ih c i σ (by omega) hi
      rw [List.getElem?_append_left]
      · exact h
      · exact (List.getElem?_eq_some_iff.1 h).1
/-- Each place is one of a chunk's. -/
theorem place (l r : List Int) (n : Nat) : ∀ q : Nat, q < 2 * before l r n → ∃ (c i : Nat) (σ : Bool), c < n ∧ i < many l r c ∧ q = 2 * (before l r c + i) + (if σ = true then 1 else 0) := by
  induction n with
  | zero => intro q hq; simp [before] at hq
  | succ n ih =>
    intro q hq
    by_cases h : q < 2 * before l r n
    · obtain ⟨c, i, σ, h1, h2, h3⟩ := ih q h
      exact ⟨c, i, σ, by omega, h2, h3⟩
    · unfold before at hq
      by_cases hp : q % 2 = 1
      · exact ⟨n, (q - 2 * before l r n) / 2, true, by omega, by omega, by rw [if_pos rfl]; omega⟩
      · exact ⟨n, (q - 2 * before l r n) / 2, false, by omega, by omega, by rw [if_neg (by decide)]; omega⟩
theorem pages_rd (l r : List Int) (n c i : Nat) (σ : Bool) (hc : c < n) (hi : i < many l r c) : rd_T31 (pagesL l r n) ((2 * (before l r c + i) + (if σ = true then 1 else 0) : Nat) : Int) = cellAt l r c i σ := by
  have h := pages_at l r n c i σ hc hi
  have hl := (List.getElem?_eq_some_iff.1 h).1
  rw [rd31 _ _ hl]
  rw [List.getElem?_eq_getElem hl] at h
  exact Option.some.inj h

/-- Find: the first place that fits. -/
theorem find_ev (x : List S31) (side c j : Int) (hx : x.length ≤ 1000000) (p : Nat) (hp : p < x.length) (hfit : (rd_T31 x p).f1 = side ∧ (rd_T31 x p).f2 = c ∧ (rd_T31 x p).f3 = j)
    (hno : ∀ q : Nat, q < p → ¬ ((rd_T31 x q).f1 = side ∧ (rd_T31 x q).f2 = c ∧ (rd_T31 x q).f3 = j)) : Ev (fun k => facing_Find.f k x side c j) (rd_T31 x p).f0 := by
  have key : ∀ (d i : Nat), i + d = p → Ev (fun k => facing_Find.l0 k side c j x (x.length : Int) i) (rd_T31 x p).f0 := by
    intro d
    induction d with
    | zero =>
      intro i hi
      have e : i = p := by omega
      subst e
      refine Ev.step (f := fun _ => some _) (fun k => ?_) (Ev.now _)
      simp only [facing_Find.l0]
      rw [if_pos (by omega), if_pos (by omega), if_pos (by omega), if_pos hfit.1, if_pos hfit.2.1, if_pos hfit.2.2]
    | succ d ih =>
      intro i hi
      have hn := hno i (by omega)
      refine Ev.step (f := fun k => facing_Find.l0 k side c j x (x.length : Int) ((i + 1 : Nat) : Int)) (fun k => ?_) (ih (i + 1) (by omega))
      simp only [facing_Find.l0]
      rw [if_pos (by omega), if_pos (by omega), if_pos (by omega), wrap_small (by omega)]
      by_cases a1 : (rd_T31 x i).f1 = side
      · by_cases a2 : (rd_T31 x i).f2 = c
        · rw [if_pos a1, if_pos a2, if_neg (fun a3 => hn ⟨a1, a2, a3⟩)]; rfl
        · rw [if_pos a1, if_neg a2]; rfl
      · rw [if_neg a1]; rfl
  exact key p 0 (by omega)
theorem find_none (x : List S31) (side c j : Int) (hx : x.length ≤ 1000000) (hno : ∀ q : Nat, q < x.length → ¬ ((rd_T31 x q).f1 = side ∧ (rd_T31 x q).f2 = c ∧ (rd_T31 x q).f3 = j)) : Ev (fun k => facing_Find.f k x side c j) (-1) := by
  have key : ∀ (d i : Nat), i + d = x.length → Ev (fun k => facing_Find.l0 k side c j x (x.length : Int) i) (-1) := by
    intro d
    induction d with
    | zero =>
      intro i hi
      refine Ev.step (f := fun _ => some _) (fun k => ?_) (Ev.now _)
      simp only [facing_Find.l0]
      rw [if_neg (by omega)]
    | succ d ih =>
      intro i hi
      have hn := hno i (by omega)
      refine Ev.step (f := fun k => facing_Find.l0 k side c j x (x.length : Int) ((i + 1 : Nat) : Int)) (fun k => ?_) (ih (i + 1) (by omega))
      simp only [facing_Find.l0]
      rw [if_pos (by omega), if_pos (by omega), if_pos (by omega), wrap_small (by omega)]
      by_cases a1 : (rd_T31 x i).f1 = side
      · by_cases a2 : (rd_T31 x i).f2 = c
        · rw [if_pos a1, if_pos a2, if_neg (fun a3 => hn ⟨a1, a2, a3⟩)]; rfl
        · rw [if_pos a1, if_neg a2]; rfl
      · rw [if_neg a1]; rfl
  exact key x.length 0 (by omega)

/-- How many pages a side has of a chunk. -/
def ofSide (l r : List Int) (c : Nat) (σ : Bool) : Int := if σ = true then rd r c else rd l c
def sideNo (σ : Bool) : Int := if σ = true then 1 else 0
theorem cell_parts (l r : List Int) (c i : Nat) (σ : Bool) : cellAt l r c i σ = ⟨2 * ((before l r c + i : Nat) + 1 : Int) + sideNo σ, sideNo σ, c, which i (ofSide l r c σ)⟩ := by
  cases σ
  · unfold cellAt ofSide sideNo leftCell; simp
  · unfold cellAt ofSide sideNo rightCell; simp

/-- The page of a page of a chunk. -/
theorem find_page (l r : List Int) (hb : before l r l.length ≤ 2000) (c i : Nat) (σ : Bool) (hc : c < l.length) (hi : i < many l r c) (hside : (i : Int) < ofSide l r c σ) :
    Ev (fun k => facing_Find.f k (pagesL l r l.length) (sideNo σ) c i) (2 * ((before l r c + i : Nat) + 1 : Int) + sideNo σ) := by
  have hat := pages_at l r l.length c i σ hc hi
  have hl := (List.getElem?_eq_some_iff.1 hat).1
  have hrd := pages_rd l r l.length c i σ hc hi
  have hlen := pagesL_length l r l.length
  rw [cell_parts] at hrd
  have h := find_ev (pagesL l r l.length) (sideNo σ) c i (by omega) _ hl (by rw [hrd]; refine ⟨rfl, rfl, ?_⟩; dsimp only; unfold which; rw [if_neg (by omega)]) (by
    intro q hq ⟨h1, h2, h3⟩
    obtain ⟨c', i', σ', g1, g2, g3⟩ := place l r l.length q (by omega)
    have hq2 := pages_rd l r l.length c' i' σ' g1 g2
    rw [← g3, cell_parts] at hq2
    rw [hq2] at h1 h2 h3
    dsimp only at h1 h2 h3
    have ec : c' = c := by omega
    have es : σ' = σ := by cases σ <;> cases σ' <;> simp [sideNo] at h1 <;> rfl
    subst ec; subst es
    unfold which at h3
    split at h3
    · omega
    · have ei : i' = i := by omega
      subst ei
      omega)
  rw [hrd] at h
  exact h

end Go.Proofs.Ytmlabpegopkpkaa.Pure

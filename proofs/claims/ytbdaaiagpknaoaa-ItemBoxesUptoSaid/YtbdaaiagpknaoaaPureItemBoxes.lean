/- ItemBoxes, where what comes in is of bulk at most 1048576: the boxes of verse are all parts of all words, each once, in order; each line's end is the only place at which it must be broken; and what is built may be. -/
import Derived.Test.YtbdaaiagpknaoaaPUpx9
import Derived.Test.YtbdaaiagpknaoaaUVerse
namespace Go.Proofs.Ytbdaaiagpknaoaa.Pure
set_option linter.unusedVariables false
set_option linter.unusedSimpArgs false
open Go.RowKit Go.Proofs.Ytbdaaiagpknaoaa.PUp Go.Proofs.YtbdaaiagpknaoaaW.PrintWords Go.Proofs.YtbdaaiagpknaoaaW.PrintLast Go.Proofs.YtbdaaiagpknaoaaW.PrintMore

theorem rdW (ws : List (List S47)) (i : Int) : rd_L10 ws i = rd_W ws i := rfl
theorem rdV (ls : List (List (List S47))) (i : Int) : rd_L11 ls i = rd_V ls i := rfl
theorem rd_hit (l : List S45) (i : Nat) (h : i < l.length) : rd_T45 l (i : Int) = l[i] := by
  unfold rd_T45
  rw [Int.toNat_natCast, List.getD_eq_getElem?_getD, List.getElem?_eq_getElem h]; rfl
theorem drop_head {b : List S45} {at_ : Nat} {y : S45} {t : List S45} (h : b.drop at_ = y :: t) : at_ < b.length ∧ rd_T45 b (at_ : Int) = y ∧ b.drop (at_ + 1) = t := by
  have hlt : at_ < b.length := by
    by_cases c : at_ < b.length
    · exact c
    · rw [List.drop_eq_nil_of_le (by omega)] at h; cases h
  rw [List.drop_eq_getElem_cons hlt] at h
  injection h with h1 h2
  exact ⟨hlt, by rw [rd_hit b at_ hlt]; exact h1, h2⟩
def isB (x : S45) : Bool := decide (x.f0 = 0)
def isF (x : S45) : Bool := decide (x.f0 = 2) && decide (x.f2 = -10000)
theorem bx_filter (l : List S45) : ∀ d i, i + d = l.length → bx l d i = (l.drop i).filter isB
  | 0, i => fun h => by rw [List.drop_eq_nil_of_le (by omega)]; rfl
  | d + 1, i => fun h => by
    have hlt : i < l.length := by omega
    rw [List.drop_eq_getElem_cons hlt, List.filter_cons, ← bx_filter l d (i + 1) (by omega)]
    simp only [bx]
    rw [rd_hit l i hlt]
    by_cases c : l[i].f0 = 0
    · rw [if_pos c, if_pos (by simp [isB, c])]; rfl
    · rw [if_neg c, if_neg (by simp [isB, c])]; rfl
def wb (ps : List S47) (wn : Int) : Nat → Nat → List S45
  | 0, _ => []
  | d + 1, i => bxi ps wn i :: wb ps wn d (i + 1)
theorem wd_boxes (ps : List S47) (hy wn : Int) : ∀ d i, (wd ps hy wn d i).filter isB = wb ps wn d i
  | 0, i => rfl
  | d + 1, i => by
    have ih := wd_boxes ps hy wn d (i + 1)
    simp only [wd, wb, List.filter_append, List.filter_cons, ih]
    by_cases c : (i : Int) > 0
    · rw [if_pos c]; simp [isB, pni, bxi]
    · rw [if_neg c]; simp [isB, bxi]
theorem wd_forced (ps : List S47) (hy wn : Int) : ∀ d i, (wd ps hy wn d i).filter isF = []
  | 0, i => rfl
  | d + 1, i => by
    have ih := wd_forced ps hy wn d (i + 1)
    simp only [wd, List.filter_append, List.filter_cons, ih]
    by_cases c : (i : Int) > 0
    · rw [if_pos c]; simp [isF, pni, bxi]
    · rw [if_neg c]; simp [isF, bxi]
def lb (ws : List (List S47)) : Nat → Nat → Nat → List S45
  | 0, _, _ => []
  | d + 1, i, wn => wb (rd_W ws (i : Int)) (wn : Int) (rd_W ws (i : Int)).length 0 ++ lb ws d (i + 1) (wn + 1)
section
variable (m0 m1 m2 m3 hy : Int)
theorem ld_boxes (ws : List (List S47)) : ∀ d i wn, (ld m0 m1 m2 m3 hy ws d i wn).filter isB = lb ws d i wn
  | 0, i, wn => by simp [ld, lb, bends, isB]
  | d + 1, i, wn => by
    have ih := ld_boxes ws d (i + 1) (wn + 1)
    simp only [ld, lb, List.filter_append, ih, wd_boxes]
    by_cases c : (i : Int) > 0
    · rw [if_pos c]; simp [isB, spi]
    · rw [if_neg c]; simp
theorem ld_forced (ws : List (List S47)) : ∀ d i wn, ((ld m0 m1 m2 m3 hy ws d i wn).filter isF).length = 1
  | 0, i, wn => by simp [ld, bends, isF]
  | d + 1, i, wn => by
    have ih := ld_forced ws d (i + 1) (wn + 1)
    simp only [ld, List.filter_append, wd_forced, List.length_append, ih]
    by_cases c : (i : Int) > 0
    · rw [if_pos c]; simp [isF, spi]
    · rw [if_neg c]; simp
def vb (ls : List (List (List S47))) : Nat → Nat → Nat → List S45
  | 0, _, _ => []
  | d + 1, i, wn => lb (rd_V ls (i : Int)) (rd_V ls (i : Int)).length 0 wn ++ vb ls d (i + 1) (wn + (rd_V ls (i : Int)).length)
theorem vd_boxes (ls : List (List (List S47))) : ∀ d i wn, (vd m0 m1 m2 m3 hy ls d i wn).filter isB = vb ls d i wn
  | 0, i, wn => rfl
  | d + 1, i, wn => by simp only [vd, vb, List.filter_append, ld_boxes, vd_boxes ls d]
theorem vd_forced (ls : List (List (List S47))) : ∀ d i wn, ((vd m0 m1 m2 m3 hy ls d i wn).filter isF).length = d
  | 0, i, wn => rfl
  | d + 1, i, wn => by simp only [vd, List.filter_append, List.length_append, ld_forced, vd_forced ls d]; omega
end

theorem l3_ev (x2 : List (List (List S47))) (L b : List S45) (hL : mi L = true) (hlen : L.length ≤ 2000) : ∀ d i n, i + d = L.length → x2.length ≤ 1000000000 → n + ((L.drop i).filter isF).length = x2.length → Ev (fun k => variorumlaw09_ItemBoxes.l3 k x2 L b (b.length : Int) (n : Int) (i : Int)) true := by
  intro d
  induction d with
  | zero =>
    intro i n hi hn hc
    have g0 : ¬ (i : Int) < (L.length : Int) := by omega
    rw [List.drop_eq_nil_of_le (by omega)] at hc
    have hn2 : (n : Int) = (x2.length : Int) := by simp at hc; omega
    refine Ev.step (f := fun k => (item_May.f k L).bind fun t => some t) (fun k => ?_) (Ev.bind (imay_ev L) (by rw [hL]; exact Ev.now _))
    simp only [variorumlaw09_ItemBoxes.l3]; rw [if_neg g0, if_pos trivial, if_pos hn2]
  | succ d ih =>
    intro i n hi hn hc
    have hlt : i < L.length := by omega
    have g1 : (i : Int) < (L.length : Int) := by omega
    have g2 : (0 : Int) ≤ (i : Int) := by omega
    have g3 : i ≤ 1000000000000000 := by omega
    have g4 : n ≤ 1000000000000000 := by omega
    rw [List.drop_eq_getElem_cons hlt, List.filter_cons] at hc
    have hr := rd_hit L i hlt
    have hle : ((L.drop (i + 1)).filter isF).length ≤ 2000 := by
      have := List.length_filter_le isF (L.drop (i + 1)); rw [List.length_drop] at this; omega
    by_cases a : L[i].f0 = 2
    · by_cases c : L[i].f2 = -10000
      · rw [if_pos (by simp [isF, a, c])] at hc
        refine Ev.step (fun k => ?_) (ih (i + 1) (n + 1) (by omega) (by simp at hc; omega) (by simp at hc; omega))
        simp only [variorumlaw09_ItemBoxes.l3]; rw [if_pos g1, if_pos g2, hr, if_pos a, if_pos c, succ_w i g3, succ_w n g4]
      · rw [if_neg (by simp [isF, a, c])] at hc
        refine Ev.step (fun k => ?_) (ih (i + 1) n (by omega) hn hc)
        simp only [variorumlaw09_ItemBoxes.l3]; rw [if_pos g1, if_pos g2, hr, if_pos a, if_neg c, succ_w i g3]
    · rw [if_neg (by simp [isF, a])] at hc
      refine Ev.step (fun k => ?_) (ih (i + 1) n (by omega) hn hc)
      simp only [variorumlaw09_ItemBoxes.l3]; rw [if_pos g1, if_pos g2, hr, if_neg a, succ_w i g3]

theorem wb_len (ps : List S47) (wn : Int) : ∀ d i, (wb ps wn d i).length = d
  | 0, i => rfl
  | d + 1, i => by simp only [wb, List.length_cons, wb_len ps wn d (i + 1)]
theorem drop_app {b u v : List S45} {n : Nat} (h : b.drop n = u ++ v) : b.drop (n + u.length) = v := by
  rw [← List.drop_drop, h, List.drop_left]
theorem l2_ev (x2 : List (List (List S47))) (L b rest : List S45) (li wi wn f : Nat) (hli : li < x2.length) (hwi : wi < (rd_V x2 (li : Int)).length) (hlen : (rd_W (rd_V x2 (li : Int)) (wi : Int)).length ≤ 1000000000) (hb : b.length ≤ 2000) (hwn : wn ≤ 1000000000) (hwb : wi ≤ 1000000000) (r : Bool) :
    ∀ d i at_, i + d = (rd_W (rd_V x2 (li : Int)) (wi : Int)).length → b.drop at_ = wb (rd_W (rd_V x2 (li : Int)) (wi : Int)) (wn : Int) d i ++ rest → Ev (fun k => variorumlaw09_ItemBoxes.l1 k x2 L b ((at_ + d : Nat) : Int) ((wn + 1 : Nat) : Int) (f : Int) (li : Int) ((wi + 1 : Nat) : Int)) r →
      Ev (fun k => variorumlaw09_ItemBoxes.l2 k x2 L b (at_ : Int) (wn : Int) (f : Int) (li : Int) (wi : Int) (i : Int)) r := by
  have q1 : (0 : Int) ≤ (li : Int) := by omega
  have q2 : (li : Int) < (x2.length : Int) := by omega
  have q3 : (0 : Int) ≤ (wi : Int) := by omega
  have q4 : (wi : Int) < ((rd_L11 x2 (li : Int)).length : Int) := by rw [rdV]; omega
  intro d
  induction d with
  | zero =>
    intro i at_ hi hd hn
    have q5 : ¬ (i : Int) < ((rd_L10 (rd_L11 x2 (li : Int)) (wi : Int)).length : Int) := by rw [rdV, rdW]; omega
    refine Ev.step (fun k => ?_) hn
    simp only [variorumlaw09_ItemBoxes.l2]
    rw [if_pos q1, if_pos q2, if_pos q3, if_pos q4, if_neg q5, succ_w wn (by omega), succ_w wi (by omega)]; rfl
  | succ d ih =>
    intro i at_ hi hd hn
    have q5 : (i : Int) < ((rd_L10 (rd_L11 x2 (li : Int)) (wi : Int)).length : Int) := by rw [rdV, rdW]; omega
    obtain ⟨hlt, hr, ht⟩ := drop_head hd
    have q6 : ¬ (at_ : Int) ≥ (b.length : Int) := by omega
    have q7 : (0 : Int) ≤ (at_ : Int) := by omega
    have q8 : (at_ : Int) < (b.length : Int) := by omega
    have q9 : (0 : Int) ≤ (i : Int) := by omega
    have e : at_ + 1 + d = at_ + (d + 1) := by omega
    refine Ev.step (fun k => ?_) (ih (i + 1) (at_ + 1) (by omega) ht (by rw [e]; exact hn))
    simp only [variorumlaw09_ItemBoxes.l2]
    rw [if_pos q1, if_pos q2, if_pos q3, if_pos q4, if_pos q5, if_neg q6, if_pos q7, if_pos q8, hr, if_pos (show (bxi (rd_W (rd_V x2 (li : Int)) (wi : Int)) (wn : Int) i).f4 = (wn : Int) from rfl), if_pos (show (bxi (rd_W (rd_V x2 (li : Int)) (wi : Int)) (wn : Int) i).f5 = (i : Int) from rfl), if_pos q9,
      if_pos (show (bxi (rd_W (rd_V x2 (li : Int)) (wi : Int)) (wn : Int) i).f1.f0 = (rd_T47 (rd_L10 (rd_L11 x2 (li : Int)) (wi : Int)) (i : Int)).f1 from rfl), succ_w at_ (by omega), succ_w i (by omega)]
theorem l1_ev (x2 : List (List (List S47))) (L b rest : List S45) (li f : Nat) (hli : li < x2.length) (hl : (rd_V x2 (li : Int)).length ≤ 1000000000) (hlen : ∀ j : Int, (rd_W (rd_V x2 (li : Int)) j).length ≤ 1000000000) (hb : b.length ≤ 2000) (hlb : li ≤ 1000000000) (r : Bool) :
    ∀ d wi at_ wn, wi + d = (rd_V x2 (li : Int)).length → wn + d ≤ 1000000000 → b.drop at_ = lb (rd_V x2 (li : Int)) d wi wn ++ rest → Ev (fun k => variorumlaw09_ItemBoxes.l0 k x2 L b ((at_ + (lb (rd_V x2 (li : Int)) d wi wn).length : Nat) : Int) ((wn + d : Nat) : Int) (f : Int) ((li + 1 : Nat) : Int)) r →
      Ev (fun k => variorumlaw09_ItemBoxes.l1 k x2 L b (at_ : Int) (wn : Int) (f : Int) (li : Int) (wi : Int)) r := by
  have q1 : (0 : Int) ≤ (li : Int) := by omega
  have q2 : (li : Int) < (x2.length : Int) := by omega
  intro d
  induction d with
  | zero =>
    intro wi at_ wn hi hw hd hn
    have q4 : ¬ (wi : Int) < ((rd_L11 x2 (li : Int)).length : Int) := by rw [rdV]; omega
    refine Ev.step (fun k => ?_) hn
    simp only [variorumlaw09_ItemBoxes.l1]
    rw [if_pos q1, if_pos q2, if_neg q4, succ_w li (by omega)]; rfl
  | succ d ih =>
    intro wi at_ wn hi hw hd hn
    have q4 : (wi : Int) < ((rd_L11 x2 (li : Int)).length : Int) := by rw [rdV]; omega
    simp only [lb] at hd hn
    rw [List.append_assoc] at hd
    have hwl := wb_len (rd_W (rd_V x2 (li : Int)) (wi : Int)) (wn : Int) (rd_W (rd_V x2 (li : Int)) (wi : Int)).length 0
    have hd2 := drop_app hd
    rw [hwl] at hd2
    rw [List.length_append, hwl] at hn
    refine Ev.step (f := fun k => variorumlaw09_ItemBoxes.l2 k x2 L b (at_ : Int) (wn : Int) (f : Int) (li : Int) (wi : Int) ((0 : Nat) : Int)) (fun k => ?_) (l2_ev x2 L b _ li wi wn f hli (by omega) (hlen _) hb (by omega) (by omega) r _ 0 at_ (by omega) hd (ih (wi + 1) (at_ + (rd_W (rd_V x2 (li : Int)) (wi : Int)).length) (wn + 1) (by omega) (by omega) hd2 ?_))
    · simp only [variorumlaw09_ItemBoxes.l1]
      rw [if_pos q1, if_pos q2, if_pos q4]; rfl
    · have e1 : at_ + (rd_W (rd_V x2 (li : Int)) (wi : Int)).length + (lb (rd_V x2 (li : Int)) d (wi + 1) (wn + 1)).length = at_ + ((rd_W (rd_V x2 (li : Int)) (wi : Int)).length + (lb (rd_V x2 (li : Int)) d (wi + 1) (wn + 1)).length) := by omega
      rw [e1, show wn + 1 + d = wn + (d + 1) by omega]; exact hn
theorem l0_ev (x2 : List (List (List S47))) (L b : List S45) (f : Nat) (hx : x2.length ≤ 1000000000) (hl : ∀ j : Int, (rd_V x2 j).length ≤ 1000000000) (hlen : ∀ i j : Int, (rd_W (rd_V x2 i) j).length ≤ 1000000000) (hb : b.length ≤ 2000) (r : Bool) (hn : Ev (fun k => variorumlaw09_ItemBoxes.l3 k x2 L b (b.length : Int) (f : Int) 0) r) :
    ∀ d li at_ wn, li + d = x2.length → wn + vw x2 d li ≤ 1000000000 → b.drop at_ = vb x2 d li wn → at_ + (vb x2 d li wn).length = b.length → Ev (fun k => variorumlaw09_ItemBoxes.l0 k x2 L b (at_ : Int) (wn : Int) (f : Int) (li : Int)) r := by
  intro d
  induction d with
  | zero =>
    intro li at_ wn hi hw hd ha
    have q : ¬ (li : Int) < (x2.length : Int) := by omega
    have e : at_ = b.length := by simpa [vb] using ha
    subst e
    refine Ev.step (fun k => ?_) hn
    simp only [variorumlaw09_ItemBoxes.l0]; rw [if_neg q]
  | succ d ih =>
    intro li at_ wn hi hw hd ha
    have q : (li : Int) < (x2.length : Int) := by omega
    simp only [vb] at hd ha
    simp only [vw] at hw
    rw [List.length_append] at ha
    refine Ev.step (f := fun k => variorumlaw09_ItemBoxes.l1 k x2 L b (at_ : Int) (wn : Int) (f : Int) (li : Int) ((0 : Nat) : Int)) (fun k => ?_) (l1_ev x2 L b _ li f (by omega) (hl _) (hlen _) hb (by omega) r _ 0 at_ wn (by omega) (by omega) hd (ih (li + 1) _ _ (by omega) (by omega) (drop_app hd) (by omega)))
    simp only [variorumlaw09_ItemBoxes.l0]; rw [if_pos q]; rfl

/-! ## What the bulk bounds -/
abbrev B1 : List S47 → Nat := OpenB.bulkOf (fun _ => 1)
abbrev B2 : List (List S47) → Nat := OpenB.bulkOf B1
theorem bulk_pos {α : Type} (bk : α → Nat) (l : List α) : 1 ≤ OpenB.bulkOf bk l := by
  induction l with
  | nil => exact Nat.le_refl _
  | cons x r ih => simp only [OpenB.bulkOf]; omega
theorem bulk_len {α : Type} (bk : α → Nat) (h : ∀ x, 1 ≤ bk x) (l : List α) : l.length + 1 ≤ OpenB.bulkOf bk l := by
  induction l with
  | nil => exact Nat.le_refl _
  | cons x r ih => have := h x; simp only [OpenB.bulkOf, List.length_cons]; omega
theorem bulk_mem {α : Type} (bk : α → Nat) {l : List α} {x : α} (h : x ∈ l) : bk x + 1 ≤ OpenB.bulkOf bk l := by
  induction l with
  | nil => cases h
  | cons y r ih =>
    simp only [OpenB.bulkOf]
    cases List.mem_cons.1 h with
    | inl e => subst e; have := bulk_pos bk r; omega
    | inr e => have := ih e; omega
theorem getD_mem {α : Type} (l : List (List α)) (i : Nat) : l.getD i [] = [] ∨ l.getD i [] ∈ l := by
  rw [List.getD_eq_getElem?_getD]
  cases h : l[i]? with
  | none => exact Or.inl rfl
  | some x => exact Or.inr (List.mem_of_getElem? h)
theorem lc_bulk (ws : List (List S47)) : ∀ d i, i + d = ws.length → lc ws d i ≤ 2 * B2 (ws.drop i) + 3
  | 0, i => fun h => by simp only [lc]; omega
  | d + 1, i => fun h => by
    have ih := lc_bulk ws d (i + 1) (by omega)
    have hlt : i < ws.length := by omega
    have e : rd_W ws (i : Int) = ws[i] := by unfold rd_W; rw [Int.toNat_natCast, List.getD_eq_getElem?_getD, List.getElem?_eq_getElem hlt]; rfl
    have h1 : ws[i].length + 1 ≤ B1 ws[i] := bulk_len _ (fun _ => Nat.le_refl _) _
    rw [List.drop_eq_getElem_cons hlt]
    simp only [lc, B2, OpenB.bulkOf, e]
    simp only [B2] at ih
    omega
theorem v_bulk (ls : List (List (List S47))) : ∀ d i, i + d = ls.length → vc ls d i ≤ 5 * OpenB.bulkOf B2 (ls.drop i) ∧ vw ls d i ≤ OpenB.bulkOf B2 (ls.drop i)
  | 0, i => fun h => by simp [vc, vw]
  | d + 1, i => fun h => by
    have ih := v_bulk ls d (i + 1) (by omega)
    have hlt : i < ls.length := by omega
    have e : rd_V ls (i : Int) = ls[i] := by unfold rd_V; rw [Int.toNat_natCast, List.getD_eq_getElem?_getD, List.getElem?_eq_getElem hlt]; rfl
    have h1 : ls[i].length + 1 ≤ B2 ls[i] := bulk_len _ (fun x => bulk_pos _ x) _
    have h2 := lc_bulk ls[i] ls[i].length 0 (by omega)
    rw [List.drop_zero] at h2
    rw [List.drop_eq_getElem_cons hlt]
    simp only [vc, vw, OpenB.bulkOf, e]
    omega

theorem ItemBoxes : variorumlaw09_ItemBoxes.Pure := by
  intro x0 x1 x2 _ _ _ _ hk
  refine Ev.rounds (g := fun k => variorumlaw09_ItemBoxes.f k x0.f0.f0 x0.f0.f1 x0.f0.f2 x0.f0.f3 x0.f1 x0.f2 x0.f3 x0.f4 x1 x2) ?_
  have hk : OpenB.bulkOf B2 x2 ≤ 1048576 := hk
  have hx : x2.length + 1 ≤ OpenB.bulkOf B2 x2 := bulk_len _ (fun x => bulk_pos _ x) _
  have hV : ∀ i : Int, B2 (rd_V x2 i) ≤ 1048576 := by
    intro i
    unfold rd_V
    rcases getD_mem x2 i.toNat with h | h
    · rw [h]; decide
    · have := bulk_mem B2 h; omega
  have hl : ∀ i : Int, (rd_V x2 i).length ≤ 10000000 := fun i => by
    have h1 : (rd_V x2 i).length + 1 ≤ B2 (rd_V x2 i) := bulk_len _ (fun x => bulk_pos _ x) _
    have := hV i; omega
  have hW : ∀ i j : Int, (rd_W (rd_V x2 i) j).length ≤ 10000000 := by
    intro i j
    have h0 := hV i
    unfold rd_W
    rcases getD_mem (rd_V x2 i) j.toNat with h | h
    · rw [h]; decide
    · have h1 := bulk_mem B1 h
      have h2 : ((rd_V x2 i).getD j.toNat []).length + 1 ≤ B1 ((rd_V x2 i).getD j.toNat []) := bulk_len _ (fun _ => Nat.le_refl _) _
      simp only [B2] at h0
      omega
  have hv := v_bulk x2 x2.length 0 (by omega)
  rw [List.drop_zero] at hv
  have verse := verse_loop x0.f0.f0 x0.f0.f1 x0.f0.f2 x0.f0.f3 x1 x2 (by omega) hl hW x2.length 0 0 [] (by omega) (by omega) (by simp; omega)
  rw [List.nil_append] at verse
  generalize hL : vd x0.f0.f0 x0.f0.f1 x0.f0.f2 x0.f0.f3 x1 x2 x2.length 0 0 = L at verse
  unfold variorumlaw09_ItemBoxes.f
  refine Ev.bind (a := dn L) verse ?_
  refine Ev.bind fixed_ev ?_
  simp only [if_true]
  by_cases hm : mi L = true
  · have hd : dn L = (L, 0, 0) := by unfold dn; rw [if_pos hm]
    rw [hd]
    have hlen : L.length ≤ 2000 := by
      unfold mi at hm
      simp only [Bool.and_eq_true, decide_eq_true_eq] at hm
      omega
    have eb : bx L L.length 0 = vb x2 x2.length 0 0 := by
      rw [bx_filter L L.length 0 (by omega), List.drop_zero, ← hL, vd_boxes]
    have hf : (L.filter isF).length = x2.length := by rw [← hL, vd_forced]
    have hbl := bx_len L L.length 0
    refine Ev.step (f := fun k => (item_Boxes.f k L).bind fun t => variorumlaw09_ItemBoxes.l0 k x2 L t 0 0 0 0) (fun k => ?_) (Ev.bind (boxes_ev L (by omega)) ?_)
    · simp only [variorumlaw09_ItemBoxes.j0]; rw [if_neg (by decide)]
    · rw [eb] at hbl ⊢
      exact l0_ev x2 L _ 0 (by omega) (fun j => by have := hl j; omega) (fun i j => by have := hW i j; omega) (by omega) true (l3_ev x2 L _ hm hlen L.length 0 0 (by omega) (by omega) (by rw [List.drop_zero]; omega)) x2.length 0 0 0 (by omega) (by omega) (by rw [List.drop_zero]) (by omega)
  · have hd : dn L = ([], 90, 0) := by unfold dn; rw [if_neg hm]
    rw [hd]
    refine Ev.step (f := fun k => (variorumlaw09_fixed.f k).bind fun t => (if t = true then (some true) else none)) (fun k => ?_) (Ev.bind fixed_ev (by simp only [if_true]; exact Ev.now _))
    simp only [variorumlaw09_ItemBoxes.j0]
    rfl

end Go.Proofs.Ytbdaaiagpknaoaa.Pure

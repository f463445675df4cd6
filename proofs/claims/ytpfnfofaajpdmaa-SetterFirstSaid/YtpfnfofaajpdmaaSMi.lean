/- Items: parts of items that may be may be. -/
import Derived.Test.YtpfnfofaajpdmaaSItem
namespace Go.Proofs.Ytpfnfofaajpdmaa.Pure
set_option linter.unusedVariables false
set_option linter.unusedSimpArgs false
open Go.RowKit Go.Proofs.Ytpfnfofaajpdmaa.PKe Go.Proofs.YtpfnfofaajpdmaaW.PrintWords Go.Proofs.YtpfnfofaajpdmaaW.PrintLast Go.Proofs.YtpfnfofaajpdmaaW.PrintMore

theorem rd_hit (l : List S40) (i : Nat) (h : i < l.length) : rd_T40 l (i : Int) = l[i] := by
  unfold rd_T40
  rw [Int.toNat_natCast, List.getD_eq_getElem?_getD, List.getElem?_eq_getElem h]; rfl
theorem ar_iff (l : List S40) : ∀ d i, i + d = l.length → (ar l d i = true ↔ ∀ x ∈ l.drop i, ri x = true)
  | 0, i => fun h => by rw [List.drop_eq_nil_of_le (by omega)]; simp [ar]
  | d + 1, i => fun h => by
    have hlt : i < l.length := by omega
    rw [List.drop_eq_getElem_cons hlt]
    simp only [ar, Bool.and_eq_true, List.mem_cons, forall_eq_or_imp, rd_hit l i hlt, ar_iff l d (i + 1) (by omega)]
theorem gq_map (l : List S40) : ∀ d i, i + d = l.length → gq l d i = (l.drop i).map (·.f1)
  | 0, i => fun h => by rw [List.drop_eq_nil_of_le (by omega)]; rfl
  | d + 1, i => fun h => by
    have hlt : i < l.length := by omega
    rw [List.drop_eq_getElem_cons hlt]
    simp only [gq, List.map_cons, rd_hit l i hlt, gq_map l d (i + 1) (by omega)]
def gd (x : S38) : Prop := fi x.f0 = true ∧ am x.f1 = true ∧ am x.f2 = true ∧ 0 ≤ x.f3 ∧ x.f3 ≤ 3
def qw : List S38 → Int
  | [] => 0
  | x :: r => mx x.f0 (-x.f0) + qw r
def qs : List S38 → Int
  | [] => 0
  | x :: r => x.f1 + qs r
def qh : List S38 → Int
  | [] => 0
  | x :: r => x.f2 + qh r
theorem mv_iff (g : List S38) : ∀ d i w s h, i + d = g.length → (mv g d i w s h = true ↔ (∀ x ∈ g.drop i, gd x) ∧ am (w + qw (g.drop i)) = true ∧ am (s + qs (g.drop i)) = true ∧ am (h + qh (g.drop i)) = true)
  | 0, i, w, s, h => fun e => by
    rw [List.drop_eq_nil_of_le (by omega)]
    simp [mv, qw, qs, qh, gd]
  | d + 1, i, w, s, h => fun e => by
    have hlt : i < g.length := by omega
    have hr : rd_T38 g (i : Int) = g[i] := by
      unfold rd_T38
      rw [Int.toNat_natCast, List.getD_eq_getElem?_getD, List.getElem?_eq_getElem hlt]; rfl
    have ih := mv_iff g d (i + 1) (w + mx g[i].f0 (-g[i].f0)) (s + g[i].f1) (h + g[i].f2) (by omega)
    rw [List.drop_eq_getElem_cons hlt]
    simp only [mv, hr, qw, qs, qh, List.mem_cons, forall_eq_or_imp]
    rw [← Int.add_assoc, ← Int.add_assoc, ← Int.add_assoc]
    unfold gd at ih ⊢
    by_cases a1 : fi g[i].f0 = true
    · by_cases a2 : am g[i].f1 = true
      · by_cases a3 : am g[i].f2 = true
        · by_cases a4 : g[i].f3 < 0
          · rw [if_pos a1, if_pos a2, if_pos a3, if_pos a4]
            exact ⟨fun h => (by cases h), fun h => (by have := h.1.1.2.2.2.1; omega)⟩
          · by_cases a5 : g[i].f3 > 3
            · rw [if_pos a1, if_pos a2, if_pos a3, if_neg a4, if_pos a5]
              exact ⟨fun h => (by cases h), fun h => (by have := h.1.1.2.2.2.2; omega)⟩
            · rw [if_pos a1, if_pos a2, if_pos a3, if_neg a4, if_neg a5, ih]
              exact ⟨fun h => ⟨⟨⟨a1, a2, a3, by omega, by omega⟩, h.1⟩, h.2⟩, fun h => ⟨h.1.2, h.2⟩⟩
        · rw [if_pos a1, if_pos a2, if_neg a3]; exact ⟨fun h => (by cases h), fun h => absurd h.1.1.2.2.1 a3⟩
      · rw [if_pos a1, if_neg a2]; exact ⟨fun h => (by cases h), fun h => absurd h.1.1.2.1 a2⟩
    · rw [if_neg a1]; exact ⟨fun h => (by cases h), fun h => absurd h.1.1.1 a1⟩
theorem my_iff (g : List S38) : my g = true ↔ g.length ≤ 2000 ∧ (∀ x ∈ g, gd x) ∧ am (qw g) = true ∧ am (qs g) = true ∧ am (qh g) = true := by
  have h := mv_iff g g.length 0 0 0 0 (by omega)
  rw [List.drop_zero, Int.zero_add, Int.zero_add, Int.zero_add] at h
  unfold my
  by_cases c : (g.length : Int) > 2000
  · rw [if_pos c]; exact ⟨fun h => (by cases h), fun h => (by omega)⟩
  · rw [if_neg c, h]; exact ⟨fun h => ⟨by omega, h⟩, fun h => h.2⟩
theorem qw_app : ∀ a b : List S38, qw (a ++ b) = qw a + qw b
  | [], b => by simp [qw]
  | x :: a, b => by simp only [List.cons_append, qw, qw_app a b]; omega
theorem qs_app : ∀ a b : List S38, qs (a ++ b) = qs a + qs b
  | [], b => by simp [qs]
  | x :: a, b => by simp only [List.cons_append, qs, qs_app a b]; omega
theorem qh_app : ∀ a b : List S38, qh (a ++ b) = qh a + qh b
  | [], b => by simp [qh]
  | x :: a, b => by simp only [List.cons_append, qh, qh_app a b]; omega
theorem sums_pos : ∀ a : List S38, (∀ x ∈ a, gd x) → 0 ≤ qw a ∧ 0 ≤ qs a ∧ 0 ≤ qh a
  | [], _ => ⟨Int.le_refl _, Int.le_refl _, Int.le_refl _⟩
  | x :: a, h => by
    have ih := sums_pos a (fun y hy => h y (List.mem_cons_of_mem _ hy))
    have hx := h x (List.mem_cons_self ..)
    have h1 := am_iff.1 hx.2.1
    have h2 := am_iff.1 hx.2.2.1
    have h3 : 0 ≤ mx x.f0 (-x.f0) := by unfold mx; split <;> omega
    simp only [qw, qs, qh]
    omega
theorem my_app {a b : List S38} (h : my (a ++ b) = true) : my a = true ∧ my b = true := by
  rw [my_iff] at h
  obtain ⟨hl, hg, h1, h2, h3⟩ := h
  rw [qw_app, am_iff] at h1
  rw [qs_app, am_iff] at h2
  rw [qh_app, am_iff] at h3
  rw [List.length_append] at hl
  have ha := sums_pos a (fun x hx => hg x (List.mem_append_left _ hx))
  have hb := sums_pos b (fun x hx => hg x (List.mem_append_right _ hx))
  constructor
  · exact (my_iff a).2 ⟨by omega, fun x hx => hg x (List.mem_append_left _ hx), am_iff.2 (by omega), am_iff.2 (by omega), am_iff.2 (by omega)⟩
  · exact (my_iff b).2 ⟨by omega, fun x hx => hg x (List.mem_append_right _ hx), am_iff.2 (by omega), am_iff.2 (by omega), am_iff.2 (by omega)⟩
theorem mi_iff (l : List S40) : mi l = true ↔ l.length ≤ 2000 ∧ (∀ x ∈ l, ri x = true) ∧ my (l.map (·.f1)) = true := by
  have h1 := ar_iff l l.length 0 (by omega)
  have h2 := gq_map l l.length 0 (by omega)
  rw [List.drop_zero] at h1 h2
  unfold mi
  rw [h2, Bool.and_eq_true, Bool.and_eq_true, h1, decide_eq_true_eq]
  exact ⟨fun h => ⟨by omega, h.2⟩, fun h => ⟨by omega, h.2⟩⟩
theorem mi_app {a b : List S40} (h : mi (a ++ b) = true) : mi a = true ∧ mi b = true := by
  rw [mi_iff] at h
  obtain ⟨hl, hr, hm⟩ := h
  rw [List.length_append] at hl
  rw [List.map_append] at hm
  have := my_app hm
  exact ⟨(mi_iff a).2 ⟨by omega, fun x hx => hr x (List.mem_append_left _ hx), this.1⟩, (mi_iff b).2 ⟨by omega, fun x hx => hr x (List.mem_append_right _ hx), this.2⟩⟩

end Go.Proofs.Ytpfnfofaajpdmaa.Pure

/- Texts as lists of bytes: which are letters' bytes, whole; parts of them; escapes. No program in sight. -/
import Derived.Test.YtjiljpddkfcdbaaGreatDoorHandB
import Derived.Test.YtjiljpddkfcdbaaGreatDoorUMath
namespace Go.Proofs.YtjiljpddkfcdbaaGreatDoor.VMath
open Go Go.Lib Go.Proofs.YtjiljpddkfcdbaaGreatDoor.UMath Go.Proofs.YtjiljpddkfcdbaaGreatDoor.PLx
set_option linter.unusedVariables false
set_option linter.unusedSimpArgs false

/-- The bytes of one letter. -/
def Ch (x : List UInt8) : Prop := ∃ c, UMath.Good x.length (x.getD 0 0).toNat (x.getD 1 0).toNat (x.getD 2 0).toNat (x.getD 3 0).toNat c x.length
inductive V : List UInt8 → Prop
  | nil : V []
  | cons {x r : List UInt8} : Ch x → V r → V (x ++ r)
theorem ch_forms {x : List UInt8} (h : Ch x) : (∃ a, x = [a] ∧ a.toNat < 128) ∨ (∃ a b, x = [a, b] ∧ T2 2 a.toNat b.toNat) ∨ (∃ a b c, x = [a, b, c] ∧ T3 3 a.toNat b.toNat c.toNat) ∨ (∃ a b c d, x = [a, b, c, d] ∧ T4 4 a.toNat b.toNat c.toNat d.toNat) := by
  obtain ⟨v, h⟩ := h
  rcases x with _ | ⟨a, _ | ⟨b, _ | ⟨c, _ | ⟨d, _ | ⟨e, r⟩⟩⟩⟩⟩
  · have := good_pos h; simp at this
  · left; refine ⟨a, rfl, ?_⟩; simp at h; cases h; assumption
  · right; left; refine ⟨a, b, rfl, ?_⟩; simp at h; cases h; assumption
  · right; right; left; refine ⟨a, b, c, rfl, ?_⟩; simp at h; cases h; assumption
  · right; right; right; refine ⟨a, b, c, d, rfl, ?_⟩; simp at h; cases h; assumption
  · have := good_pos h; simp at this
theorem ch_one {a : UInt8} (h : a.toNat < 128) : Ch [a] := ⟨_, .one (by simpa using h)⟩
theorem ch_two {a b : UInt8} (h : T2 2 a.toNat b.toNat) : Ch [a, b] := ⟨_, .two h⟩
theorem ch_soft : Ch [194, 173] := ch_two ⟨by decide, by decide, by decide, by decide⟩
theorem ch_high {x : List UInt8} (h0 : Ch x) : (∃ a, x = [a] ∧ a.toNat < 128) ∨ (∀ b ∈ x, 128 ≤ b.toNat) ∧ ∃ a b r, x = a :: b :: r := by
  rcases ch_forms h0 with h | ⟨a, b, rfl, h⟩ | ⟨a, b, c, rfl, h⟩ | ⟨a, b, c, d, rfl, h⟩
  · exact .inl h
  · refine .inr ⟨fun y hy => ?_, a, b, [], rfl⟩
    obtain ⟨h1, h2, h3, h4⟩ := h
    simp only [List.mem_cons, List.not_mem_nil, or_false] at hy
    rcases hy with rfl | rfl <;> omega
  · refine .inr ⟨fun y hy => ?_, a, b, [c], rfl⟩
    obtain ⟨h1, h2, h3, h4, h5, h6⟩ := h
    simp only [List.mem_cons, List.not_mem_nil, or_false] at hy
    rcases hy with rfl | rfl | rfl <;> omega
  · refine .inr ⟨fun y hy => ?_, a, b, [c, d], rfl⟩
    obtain ⟨h1, h2, h3, h4, h5, h6, h7⟩ := h
    simp only [List.mem_cons, List.not_mem_nil, or_false] at hy
    rcases hy with rfl | rfl | rfl | rfl <;> omega
theorem V.one {a : UInt8} {r : List UInt8} (h : a.toNat < 128) (hr : V r) : V (a :: r) := V.cons (ch_one h) hr
theorem V.app {a b : List UInt8} (ha : V a) (hb : V b) : V (a ++ b) := by
  induction ha with
  | nil => exact hb
  | cons h _ ih => rw [List.append_assoc]; exact V.cons h ih
theorem V.tail {a : UInt8} {r : List UInt8} (h : V (a :: r)) (ha : a.toNat < 128) : V r := by
  generalize hS : a :: r = S at h
  cases h with
  | nil => cases hS
  | @cons x r' hx hr =>
    rcases ch_high hx with ⟨b, rfl, hb⟩ | ⟨hb, b, c, y, rfl⟩
    · simp only [List.cons_append, List.nil_append, List.cons.injEq] at hS
      rw [hS.2]; exact hr
    · simp only [List.cons_append, List.cons.injEq] at hS
      have := hb b List.mem_cons_self
      rw [← hS.1] at this
      omega
/-- Parted ahead of a byte below 128. -/
theorem V.split {S : List UInt8} (h : V S) : ∀ (a : List UInt8) (c : UInt8) (b : List UInt8), S = a ++ c :: b → c.toNat < 128 → V a ∧ V (c :: b) := by
  induction h with
  | nil => intro a c b h _; simp at h
  | @cons x r hx hr ih =>
    intro a c b h hc
    rcases List.append_eq_append_iff.1 h with ⟨t, rfl, h2⟩ | ⟨t, rfl, h2⟩
    · obtain ⟨h3, h4⟩ := ih t c b h2 hc
      exact ⟨V.cons hx h3, h4⟩
    · cases t with
      | nil =>
        rw [List.append_nil] at hx
        rw [List.nil_append] at h2
        refine ⟨?_, by rw [h2]; exact hr⟩
        have := V.cons hx V.nil
        rwa [List.append_nil] at this
      | cons d t =>
        simp only [List.cons_append, List.cons.injEq] at h2
        obtain ⟨rfl, rfl⟩ := h2
        rcases ch_high hx with ⟨e, he, hb⟩ | ⟨hb, _⟩
        · cases a with
          | nil =>
            simp only [List.nil_append, List.cons.injEq] at he
            obtain ⟨rfl, rfl⟩ := he
            exact ⟨V.nil, V.one hb hr⟩
          | cons e2 a => simp at he
        · have := hb c (by simp)
          omega
theorem V.low {a : List UInt8} (h : ∀ c ∈ a, c.toNat < 128) : V a := by
  induction a with
  | nil => exact V.nil
  | cons c a ih => exact V.one (h c List.mem_cons_self) (ih fun d hd => h d (List.mem_cons_of_mem _ hd))
theorem V.drop_low {a b : List UInt8} (h : V (a ++ b)) (ha : ∀ c ∈ a, c.toNat < 128) : V b := by
  induction a with
  | nil => exact h
  | cons c a ih => exact ih (V.tail h (ha c List.mem_cons_self)) (fun d hd => ha d (List.mem_cons_of_mem _ hd))

/-! ## Strings -/
def sl (s : ByteArray) (p q : Nat) : List UInt8 := (s.data.toList.drop p).take (q - p)
theorem sl_full (s : ByteArray) : sl s 0 s.size = s.data.toList := by
  unfold sl
  rw [List.drop_zero, Nat.sub_zero, List.take_of_length_le (by rw [Lib.size_eq]; omega)]
theorem gd (s : ByteArray) (p : Nat) : g s p = (s.data.toList.getD p 0).toNat := by unfold g; rw [Lib.getD_get!']
theorem at_ch {s : ByteArray} {p c w : Nat} (hp : p < s.size) (h : At s p c w) : Ch (sl s p (p + w)) := by
  have hw := at_width hp h
  have hl : (sl s p (p + w)).length = w := by
    unfold sl; rw [List.length_take, List.length_drop, ← Lib.size_eq]; omega
  have he : ∀ j, j < w → ((sl s p (p + w)).getD j 0).toNat = g s (p + j) := by
    intro j hj
    rw [gd]; unfold sl
    simp [List.getD, List.getElem?_take, List.getElem?_drop, show j < p + w - p by omega]
    rw [if_pos hj]
  refine ⟨c, ?_⟩
  rw [hl]
  exact good_same h (Nat.le_refl _) (he 0 (by omega)) (fun h => he 1 h) (fun h => he 2 h) (fun h => he 3 h)
theorem ls_v {s : ByteArray} {p q : Nat} {cs ps : List Int} (h : Ls s p cs ps q) (hq : q ≤ s.size) : V (sl s p q) := by
  induction h with
  | nil p => unfold sl; rw [Nat.sub_self, List.take_zero]; exact V.nil
  | @cons p c w q cs ps h0 h1 hl ih =>
    have hw := at_width h0 h1
    have := hl.le
    have e : sl s p q = sl s p (p + w) ++ sl s (p + w) q := by
      unfold sl
      rw [show q - p = w + (q - (p + w)) by omega, List.take_add, List.drop_drop, Nat.add_sub_cancel_left]
    rw [e]
    exact V.cons (at_ch h0 h1) (ih hq)
theorem v_ls {s : ByteArray} : ∀ (S : List UInt8), V S → ∀ p, p ≤ s.size → s.data.toList.drop p = S → ∃ cs ps, Ls s p cs ps s.size := by
  intro S h
  induction h with
  | nil =>
    intro p hp h
    have := congrArg List.length h
    rw [List.length_drop, ← Lib.size_eq, List.length_nil] at this
    have : p = s.size := by omega
    subst this
    exact ⟨[], [], .nil _⟩
  | @cons x r hx hr ih =>
    intro p hp h
    have hlen := congrArg List.length h
    rw [List.length_drop, ← Lib.size_eq, List.length_append] at hlen
    obtain ⟨c, hg⟩ := hx
    have hpos := good_pos hg
    have hd : s.data.toList.drop (p + x.length) = r := by rw [← List.drop_drop, h, List.drop_left]
    obtain ⟨cs, ps, hl⟩ := ih (p + x.length) (by omega) hd
    have he : ∀ j, j < x.length → g s (p + j) = (x.getD j 0).toNat := by
      intro j hj
      have : s.data.toList[p + j]? = x[j]? := by
        rw [← List.getElem?_drop, h, List.getElem?_append_left hj]
      rw [gd, List.getD, List.getD, this]
    have a : At s p c x.length := by
      unfold At
      exact good_same hg (by omega) (he 0 (by omega)) (fun h => he 1 h) (fun h => he 2 h) (fun h => he 3 h)
    exact ⟨_, _, .cons (by omega) a hl⟩
/-- A text is all letters just where its bytes are letters' bytes. -/
theorem ls_iff (s : ByteArray) : (∃ cs ps, Ls s 0 cs ps s.size) ↔ V s.data.toList := by
  constructor
  · rintro ⟨cs, ps, h⟩
    rw [← sl_full]; exact ls_v h (Nat.le_refl _)
  · intro h
    exact v_ls _ h 0 (by omega) (by rw [List.drop_zero])

/-! ## Bytes' classes -/
theorem cls_high {c : UInt8} (h : 128 ≤ c.toNat) : cls c = 0 := by
  unfold cls
  have n : ∀ d : UInt8, d.toNat < 128 → c ≠ d := fun d hd e => by subst e; omega
  rw [if_neg, if_neg (n 37 (by decide)), if_neg, if_neg (n 92 (by decide))]
  · rintro (e | e)
    · exact n 123 (by decide) e
    · exact n 125 (by decide) e
  · rintro (e | e | e | e)
    · exact n 9 (by decide) e
    · exact n 10 (by decide) e
    · exact n 13 (by decide) e
    · exact n 32 (by decide) e
theorem cls_low {c : UInt8} (h : ¬ cls c = 0) : c.toNat < 128 := by
  rcases Nat.lt_or_ge c.toNat 128 with h1 | h1
  · exact h1
  · exact absurd (cls_high h1) h
theorem letter_low {c : UInt8} (h : isLetter c = true) : c.toNat < 128 := by
  unfold isLetter at h
  have := of_decide_eq_true h
  omega
theorem letter_cls {c : UInt8} (h : isLetter c = true) : cls c = 0 := by
  unfold isLetter at h
  have h := of_decide_eq_true h
  unfold cls
  have n : ∀ d : UInt8, (d.toNat < 65 ∨ 90 < d.toNat ∧ d.toNat < 97 ∨ 122 < d.toNat) → c ≠ d := fun d hd e => by subst e; omega
  rw [if_neg, if_neg (n 37 (by decide)), if_neg, if_neg (n 92 (by decide))]
  · rintro (e | e)
    · exact n 123 (by decide) e
    · exact n 125 (by decide) e
  · rintro (e | e | e | e)
    · exact n 9 (by decide) e
    · exact n 10 (by decide) e
    · exact n 13 (by decide) e
    · exact n 32 (by decide) e
theorem cls_blank {c : UInt8} : cls c = 1 ↔ (c = 9 ∨ c = 10 ∨ c = 13 ∨ c = 32) := by
  unfold cls
  constructor
  · intro h
    repeat' split at h
    all_goals first | assumption | omega
  · intro h; rw [if_pos h]
theorem cls_remark {c : UInt8} : cls c = 2 ↔ c = 37 := by
  unfold cls
  constructor
  · intro h
    repeat' split at h
    all_goals first | assumption | omega
  · rintro rfl; rfl
theorem cls_brace {c : UInt8} : cls c = 3 ↔ (c = 123 ∨ c = 125) := by
  unfold cls
  constructor
  · intro h
    repeat' split at h
    all_goals first | assumption | omega
  · rintro (rfl | rfl) <;> rfl
theorem cls_five (c : UInt8) : cls c = 0 ∨ cls c = 1 ∨ cls c = 2 ∨ cls c = 3 ∨ cls c = 4 := by
  unfold cls
  repeat' split
  all_goals simp
theorem special_iff {c : UInt8} : (c = 92 ∨ c = 123 ∨ c = 125 ∨ c = 37) ↔ (cls c = 2 ∨ cls c = 3 ∨ cls c = 4) := by
  rw [cls_remark, cls_brace, cls_slash]
  constructor
  · rintro (h | h | h | h) <;> simp [h]
  · rintro (h | (h | h) | h) <;> simp [h]
/-! ## Escapes -/
theorem escd_some {d : UInt8} {t : ByteArray} (h : escd d = some t) : (d = 45 ∧ t.data.toList = [194, 173]) ∨ ((cls d = 2 ∨ cls d = 3 ∨ cls d = 4) ∧ t.data.toList = [d]) := by
  unfold escd at h
  split at h
  · rename_i e; cases h; exact .inl ⟨e, rfl⟩
  · split at h
    · rename_i e; cases h; exact .inr ⟨special_iff.1 e, rfl⟩
    · cases h
theorem escd_low {d : UInt8} {t : ByteArray} (h : escd d = some t) : d.toNat < 128 := by
  rcases escd_some h with ⟨rfl, _⟩ | ⟨h, _⟩
  · decide
  · exact cls_low (by omega)
theorem escd_v {d : UInt8} {t : ByteArray} (h : escd d = some t) : V t.data.toList := by
  rcases escd_some h with ⟨_, h⟩ | ⟨h1, h⟩
  · rw [h]; exact V.cons ch_soft V.nil
  · rw [h]; exact V.one (cls_low (by omega)) V.nil
theorem escd_special {d : UInt8} (h : cls d = 2 ∨ cls d = 3 ∨ cls d = 4) : escd d = some ⟨#[d]⟩ ∧ isLetter d = false := by
  have h := special_iff.2 h
  rcases h with rfl | rfl | rfl | rfl <;> exact ⟨rfl, rfl⟩
theorem esc_high {c : UInt8} (h : 128 ≤ c.toNat) (hn : ¬ c.toNat = 194) (r : List UInt8) : escL (c :: r) = c :: escL r := by
  refine esc_no ?_ r (fun e => hn (by rw [e.1]; rfl))
  intro e
  have := special_iff.1 e
  rw [cls_high h] at this
  omega
/-- The three ways of a text. -/
theorem esc_ways (c : UInt8) (r : List UInt8) : (c = 194 ∧ ∃ r', r = 173 :: r' ∧ escL (c :: r) = 92 :: 45 :: escL r') ∨ ((cls c = 2 ∨ cls c = 3 ∨ cls c = 4) ∧ escL (c :: r) = 92 :: c :: escL r) ∨ ((cls c = 0 ∨ cls c = 1) ∧ ¬ (c = 194 ∧ r.head? = some 173) ∧ escL (c :: r) = c :: escL r) := by
  by_cases h : c = 92 ∨ c = 123 ∨ c = 125 ∨ c = 37
  · exact .inr (.inl ⟨special_iff.1 h, esc_one h r⟩)
  · by_cases h2 : c = 194 ∧ r.head? = some 173
    · obtain ⟨rfl, h2⟩ := h2
      cases r with
      | nil => simp at h2
      | cons d r =>
        simp only [List.head?_cons, Option.some.injEq] at h2
        subst h2
        exact .inl ⟨rfl, r, rfl, esc_soft r⟩
    · refine .inr (.inr ⟨?_, h2, esc_no h r h2⟩)
      have := cls_five c
      have : ¬ (cls c = 2 ∨ cls c = 3 ∨ cls c = 4) := fun e => h (special_iff.2 e)
      omega
theorem esc_v {S : List UInt8} (h : V S) : V (escL S) := by
  induction h with
  | nil => exact V.nil
  | @cons x r hx hr ih =>
    rcases ch_forms hx with ⟨a, rfl, h⟩ | ⟨a, b, rfl, h⟩ | ⟨a, b, c, rfl, h⟩ | ⟨a, b, c, d, rfl, h⟩
    · rcases esc_ways a r with ⟨rfl, r', _, _⟩ | ⟨hc, e⟩ | ⟨hc, _, e⟩
      · exact absurd h (by decide)
      · rw [List.cons_append, List.nil_append, e]
        exact V.one (by decide) (V.one h ih)
      · rw [List.cons_append, List.nil_append, e]
        exact V.one h ih
    · obtain ⟨h1, h2, h3, h4⟩ := h
      rcases esc_ways a (b :: r) with ⟨rfl, r', e1, e⟩ | ⟨hc, e⟩ | ⟨hc, _, e⟩
      · simp only [List.cons.injEq] at e1
        obtain ⟨rfl, rfl⟩ := e1
        rw [List.cons_append, List.cons_append, List.nil_append, e]
        exact V.one (by decide) (V.one (by decide) ih)
      · have := cls_low (c := a) (by omega); omega
      · rw [List.cons_append, List.cons_append, List.nil_append, e, esc_high (by omega) (by omega)]
        exact V.cons hx ih
    · obtain ⟨h1, h2, h3, h4, h5, h6⟩ := h
      rw [List.cons_append, List.cons_append, List.cons_append, List.nil_append, esc_high (by omega) (by omega), esc_high (by omega) (by omega), esc_high (by omega) (by omega)]
      exact V.cons hx ih
    · obtain ⟨h1, h2, h3, h4, h5, h6, h7⟩ := h
      rw [List.cons_append, List.cons_append, List.cons_append, List.cons_append, List.nil_append, esc_high (by omega) (by omega), esc_high (by omega) (by omega), esc_high (by omega) (by omega), esc_high (by omega) (by omega)]
      exact V.cons hx ih
/-- A word's bytes of letters' bytes stand for letters' bytes, and so does what is left. -/
theorem w_v : ∀ (n : Nat) (S : List UInt8), S.length ≤ n → V S → V (wordL S).1 ∧ V (wordL S).2.1
  | n, S, hn, h => by
    generalize hS : S = S' at h
    cases h with
    | nil => rw [w_nil]; exact ⟨V.nil, V.nil⟩
    | @cons x r hx hr =>
      subst hS
      rcases ch_high hx with ⟨a, rfl, ha⟩ | ⟨hb, a, b, y, rfl⟩
      · cases n with
        | zero => simp at hn
        | succ n =>
        rw [List.cons_append, List.nil_append] at *
        have hn' : r.length ≤ n := by simpa using hn
        by_cases h0 : cls a = 0
        · rw [w_plain h0]
          have := w_v n r hn' hr
          exact ⟨V.one ha this.1, this.2⟩
        · by_cases h4 : cls a = 4
          · obtain rfl := cls_slash.1 h4
            cases r with
            | nil => rw [w_end]; exact ⟨V.nil, V.one ha V.nil⟩
            | cons d r =>
              by_cases hl : isLetter d = true
              · rw [w_cmd hl]; exact ⟨V.nil, V.one ha hr⟩
              · have hl : isLetter d = false := by simpa using hl
                cases he : escd d with
                | none => rw [w_bad hl he]; exact ⟨V.nil, V.one ha hr⟩
                | some t =>
                  rw [w_esc hl he]
                  have := w_v n r (by simp at hn'; omega) (V.tail hr (escd_low he))
                  exact ⟨V.app (escd_v he) this.1, this.2⟩
          · rw [w_stop h0 h4]; exact ⟨V.nil, V.one ha hr⟩
      · have key : ∀ (z : List UInt8), (∀ b ∈ z, 128 ≤ b.toNat) → wordL (z ++ r) = (z ++ (wordL r).1, (wordL r).2) := by
          intro z
          induction z with
          | nil => intro _; rfl
          | cons c z ih =>
            intro hz
            rw [List.cons_append, w_plain (cls_high (hz c List.mem_cons_self)), ih (fun d hd => hz d (List.mem_cons_of_mem _ hd))]
            rfl
        cases n with
        | zero => simp at hn
        | succ n =>
        have := w_v n r (by simp at hn; omega) hr
        rw [key _ hb]
        exact ⟨V.cons hx this.1, this.2⟩
/-- What a word stands for: no blanks. -/
theorem w_blank : ∀ (n : Nat) (S : List UInt8), S.length ≤ n → ∀ c ∈ (wordL S).1, ¬ cls c = 1
  | _, [], _ => by rw [w_nil]; simp
  | 0, c :: r, h => by simp at h
  | n + 1, c :: r, h => by
    have hr : r.length ≤ n := by simpa using h
    by_cases h0 : cls c = 0
    · rw [w_plain h0]
      intro d hd
      rcases List.mem_cons.1 hd with rfl | hd
      · omega
      · exact w_blank n r hr d hd
    · by_cases h4 : cls c = 4
      · obtain rfl := cls_slash.1 h4
        cases r with
        | nil => rw [w_end]; simp
        | cons d r =>
          by_cases hl : isLetter d = true
          · rw [w_cmd hl]; simp
          · have hl : isLetter d = false := by simpa using hl
            cases he : escd d with
            | none => rw [w_bad hl he]; simp
            | some t =>
              rw [w_esc hl he]
              intro x hx
              rcases List.mem_append.1 hx with hx | hx
              · rcases escd_some he with ⟨rfl, e⟩ | ⟨h1, e⟩
                · rw [e] at hx
                  simp only [List.mem_cons, List.not_mem_nil, or_false] at hx
                  rcases hx with rfl | rfl <;> decide
                · rw [e] at hx
                  simp only [List.mem_cons, List.not_mem_nil, or_false] at hx
                  subst hx; omega
              · exact w_blank n r (by simp at hr; omega) x hx
      · rw [w_stop h0 h4]; simp
/-- A word ends here. -/
def WS (R : List UInt8) : Prop := wordL R = ([], R, true)
theorem ws_nil : WS [] := w_nil
theorem ws_stop {c : UInt8} {r : List UInt8} (h : ¬ cls c = 0) (h4 : ¬ cls c = 4) : WS (c :: r) := w_stop h h4
theorem ws_cmd {d : UInt8} {r : List UInt8} (h : isLetter d = true) : WS (92 :: d :: r) := w_cmd h
theorem ws_inv {c : UInt8} {r : List UInt8} (h : WS (c :: r)) : ¬ cls c = 0 ∧ (cls c = 4 → ∃ d r', r = d :: r' ∧ isLetter d = true) := by
  unfold WS at h
  refine ⟨fun h0 => ?_, fun h4 => ?_⟩
  · rw [w_plain h0] at h; cases h
  · obtain rfl := cls_slash.1 h4
    cases r with
    | nil => rw [w_end] at h; cases h
    | cons d r =>
      refine ⟨d, r, rfl, ?_⟩
      by_cases hl : isLetter d = true
      · exact hl
      · exfalso
        have hl : isLetter d = false := by simpa using hl
        cases he : escd d with
        | none => rw [w_bad hl he] at h; cases h
        | some t =>
          rw [w_esc hl he] at h
          have h2 := congrArg (fun z => z.2.1.length) h
          have := (w_suffix _ r (Nat.le_refl _)).length_le
          simp only [List.length_cons] at h2
          omega
/-- A text without blanks, escaped, is read as it was. -/
theorem w_back : ∀ (n : Nat) (S : List UInt8), S.length ≤ n → (∀ c ∈ S, ¬ cls c = 1) → ∀ R, WS R → wordL (escL S ++ R) = (S, R, true)
  | _, [], _, _, R, hR => hR
  | 0, c :: r, h, _, _, _ => by simp at h
  | n + 1, c :: r, h, hb, R, hR => by
    have hr : r.length ≤ n := by simpa using h
    have hb' : ∀ d ∈ r, ¬ cls d = 1 := fun d hd => hb d (List.mem_cons_of_mem _ hd)
    rcases esc_ways c r with ⟨rfl, r', rfl, e⟩ | ⟨hc, e⟩ | ⟨hc, _, e⟩
    · have := w_back n r' (by simp at hr; omega) (fun d hd => hb' d (List.mem_cons_of_mem _ hd)) R hR
      rw [e, List.cons_append, List.cons_append, w_esc (t := ⟨#[194, 173]⟩) (by decide) rfl, this]
      rfl
    · have := w_back n r hr hb' R hR
      have hs := escd_special hc
      rw [e, List.cons_append, List.cons_append, w_esc hs.2 hs.1, this]
      rfl
    · have := w_back n r hr hb' R hR
      have := hb c List.mem_cons_self
      rw [e, List.cons_append, w_plain (by omega), w_back n r hr hb' R hR]
theorem esc_nil {S : List UInt8} (h : S ≠ []) : escL S ≠ [] := by
  cases S with
  | nil => exact absurd rfl h
  | cons c r =>
    rcases esc_ways c r with ⟨rfl, r', rfl, e⟩ | ⟨hc, e⟩ | ⟨hc, _, e⟩ <;> (rw [e]; simp)
end Go.Proofs.YtjiljpddkfcdbaaGreatDoor.VMath

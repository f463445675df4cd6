/- Letters and their bytes, in plain Lean: what stands at a place of a string, the letters from place to place, and their bytes again. No program in sight. -/
import Derived.Lib.DecodeNEq
import Derived.Lib.RuneBytes
import Derived.Lib.Small
import Derived.Lib.RuneCountTail
namespace Go.Proofs.YtjiljpddkfcdbaaGreatDoor.UMath
open Go Go.Lib
set_option linter.unusedVariables false

/-! ## Four bytes -/
def T2 (n b0 b1 : Nat) : Prop := b0 / 32 = 6 ∧ 1 < n ∧ b1 / 64 = 2 ∧ 128 ≤ b0 % 32 * 64 + b1 % 64
def T3 (n b0 b1 b2 : Nat) : Prop := b0 / 16 = 14 ∧ 2 < n ∧ b1 / 64 = 2 ∧ b2 / 64 = 2 ∧ 2048 ≤ b0 % 16 * 4096 + b1 % 64 * 64 + b2 % 64 ∧ (b0 % 16 * 4096 + b1 % 64 * 64 + b2 % 64 < 55296 ∨ 57344 ≤ b0 % 16 * 4096 + b1 % 64 * 64 + b2 % 64)
def T4 (n b0 b1 b2 b3 : Nat) : Prop := b0 / 8 = 30 ∧ 3 < n ∧ b1 / 64 = 2 ∧ b2 / 64 = 2 ∧ b3 / 64 = 2 ∧ 65536 ≤ b0 % 8 * 262144 + b1 % 64 * 4096 + b2 % 64 * 64 + b3 % 64 ∧ b0 % 8 * 262144 + b1 % 64 * 4096 + b2 % 64 * 64 + b3 % 64 ≤ 1114111
theorem dec_1 {n b0 b1 b2 b3 : Nat} (h : b0 < 128) : decodeN n b0 b1 b2 b3 = (b0, 1) := by unfold decodeN; rw [if_pos h]
theorem dec_2 {n b0 b1 b2 b3 : Nat} (h : T2 n b0 b1) : decodeN n b0 b1 b2 b3 = (b0 % 32 * 64 + b1 % 64, 2) := by
  obtain ⟨h0, h1, h2, h3⟩ := h
  unfold decodeN
  rw [if_neg (by omega), if_pos ⟨h0, h1, h2⟩, if_pos h3]
theorem dec_3 {n b0 b1 b2 b3 : Nat} (h : T3 n b0 b1 b2) : decodeN n b0 b1 b2 b3 = (b0 % 16 * 4096 + b1 % 64 * 64 + b2 % 64, 3) := by
  obtain ⟨h0, h1, h2, h3, h4, h5⟩ := h
  unfold decodeN
  rw [if_neg (by omega), if_neg (by omega), if_pos ⟨h0, ⟨by omega, h2⟩, ⟨h1, h3⟩⟩, if_pos ⟨h4, by omega⟩]
theorem dec_4 {n b0 b1 b2 b3 : Nat} (h : T4 n b0 b1 b2 b3) : decodeN n b0 b1 b2 b3 = (b0 % 8 * 262144 + b1 % 64 * 4096 + b2 % 64 * 64 + b3 % 64, 4) := by
  obtain ⟨h0, h1, h2, h3, h4, h5, h6⟩ := h
  unfold decodeN
  rw [if_neg (by omega), if_neg (by omega), if_neg (by omega), if_pos ⟨h0, ⟨by omega, h2⟩, ⟨by omega, h3⟩, ⟨h1, h4⟩⟩, if_pos ⟨h5, by omega⟩]
theorem dec_0 {n b0 b1 b2 b3 : Nat} (h1 : ¬ b0 < 128) (h2 : ¬ T2 n b0 b1) (h3 : ¬ T3 n b0 b1 b2) (h4 : ¬ T4 n b0 b1 b2 b3) : decodeN n b0 b1 b2 b3 = (65533, 1) := by
  unfold decodeN
  rw [if_neg h1]
  by_cases c2 : b0 / 32 = 6 ∧ (1 < n ∧ b1 / 64 = 2)
  · rw [if_pos c2, if_neg]
    intro h; exact h2 ⟨c2.1, c2.2.1, c2.2.2, h⟩
  · rw [if_neg c2]
    by_cases c3 : b0 / 16 = 14 ∧ (1 < n ∧ b1 / 64 = 2) ∧ (2 < n ∧ b2 / 64 = 2)
    · rw [if_pos c3, if_neg]
      intro h; exact h3 ⟨c3.1, c3.2.2.1, c3.2.1.2, c3.2.2.2, h.1, by omega⟩
    · rw [if_neg c3]
      by_cases c4 : b0 / 8 = 30 ∧ (1 < n ∧ b1 / 64 = 2) ∧ (2 < n ∧ b2 / 64 = 2) ∧ (3 < n ∧ b3 / 64 = 2)
      · rw [if_pos c4, if_neg]
        intro h; exact h4 ⟨c4.1, c4.2.2.2.1, c4.2.1.2, c4.2.2.1.2, c4.2.2.2.2, h.1, by omega⟩
      · rw [if_neg c4]
/-- No letter. -/
def bad (x : Nat × Nat) : Prop := x.1 = 65533 ∧ x.2 = 1
instance (x : Nat × Nat) : Decidable (bad x) := inferInstanceAs (Decidable (_ ∧ _))
/-- A letter: its form. -/
inductive Good (n b0 b1 b2 b3 : Nat) : Nat → Nat → Prop
  | one : b0 < 128 → Good n b0 b1 b2 b3 b0 1
  | two : T2 n b0 b1 → Good n b0 b1 b2 b3 (b0 % 32 * 64 + b1 % 64) 2
  | three : T3 n b0 b1 b2 → Good n b0 b1 b2 b3 (b0 % 16 * 4096 + b1 % 64 * 64 + b2 % 64) 3
  | four : T4 n b0 b1 b2 b3 → Good n b0 b1 b2 b3 (b0 % 8 * 262144 + b1 % 64 * 4096 + b2 % 64 * 64 + b3 % 64) 4
theorem good_dec {n b0 b1 b2 b3 c w : Nat} (h : Good n b0 b1 b2 b3 c w) : decodeN n b0 b1 b2 b3 = (c, w) := by
  cases h with
  | one h => exact dec_1 h
  | two h => exact dec_2 h
  | three h => exact dec_3 h
  | four h => exact dec_4 h
theorem good_ok {n b0 b1 b2 b3 c w : Nat} (h : Good n b0 b1 b2 b3 c w) : ¬ bad (c, w) := by
  rintro ⟨h1, h2⟩
  simp only at h1 h2
  cases h with
  | one h => omega
  | two h => omega
  | three h => omega
  | four h => omega
theorem dec_good (n b0 b1 b2 b3 : Nat) : (∃ c w, Good n b0 b1 b2 b3 c w) ∨ (decodeN n b0 b1 b2 b3 = (65533, 1) ∧ ¬ b0 < 128 ∧ ¬ T2 n b0 b1 ∧ ¬ T3 n b0 b1 b2 ∧ ¬ T4 n b0 b1 b2 b3) := by
  by_cases c1 : b0 < 128
  · exact .inl ⟨_, _, .one c1⟩
  · by_cases c2 : T2 n b0 b1
    · exact .inl ⟨_, _, .two c2⟩
    · by_cases c3 : T3 n b0 b1 b2
      · exact .inl ⟨_, _, .three c3⟩
      · by_cases c4 : T4 n b0 b1 b2 b3
        · exact .inl ⟨_, _, .four c4⟩
        · exact .inr ⟨dec_0 c1 c2 c3 c4, c1, c2, c3, c4⟩
theorem good_width {n b0 b1 b2 b3 c w : Nat} (hn : 1 ≤ n) (h : Good n b0 b1 b2 b3 c w) : 1 ≤ w ∧ w ≤ n ∧ w ≤ 4 := by
  cases h with
  | one h => omega
  | two h => have := h.2.1; omega
  | three h => have := h.2.1; omega
  | four h => have := h.2.1; omega
/-- A letter that may be. -/
def letter (c : Int) : Prop := (0 ≤ c ∧ c < 55296) ∨ (57343 < c ∧ c ≤ 1114111)
theorem good_pos {n b0 b1 b2 b3 c w : Nat} (h : Good n b0 b1 b2 b3 c w) : w = 1 ∨ w = 2 ∨ w = 3 ∨ w = 4 := by cases h <;> simp
theorem good_letter {n b0 b1 b2 b3 c w : Nat} (h0 : b0 < 256) (h : Good n b0 b1 b2 b3 c w) : letter c := by
  unfold letter
  cases h with
  | one h => omega
  | two h => omega
  | three h => obtain ⟨_, _, _, _, _, h⟩ := h; omega
  | four h => obtain ⟨_, _, _, _, _, _, h⟩ := h; omega
/-- The same bytes, so many, make the same letter. -/
theorem good_same {n m b0 b1 b2 b3 c0 c1 c2 c3 c w : Nat} (h : Good n b0 b1 b2 b3 c w) (hm : w ≤ m) (e0 : c0 = b0) (e1 : 1 < w → c1 = b1) (e2 : 2 < w → c2 = b2) (e3 : 3 < w → c3 = b3) : Good m c0 c1 c2 c3 c w := by
  subst e0
  cases h with
  | one h => exact .one h
  | two h =>
    have := e1 (by omega); subst this
    exact .two ⟨h.1, by omega, h.2.2⟩
  | three h =>
    have := e1 (by omega); subst this
    have := e2 (by omega); subst this
    exact .three ⟨h.1, by omega, h.2.2⟩
  | four h =>
    have := e1 (by omega); subst this
    have := e2 (by omega); subst this
    have := e3 (by omega); subst this
    exact .four ⟨h.1, by omega, h.2.2⟩
/-- The bytes of a letter. -/
theorem enc_good {n b0 b1 b2 b3 c w : Nat} (h0 : b0 < 256) (h : Good n b0 b1 b2 b3 c w) : encodeRuneZ (c : Int) = ([(b0 : Int), b1, b2, b3]).take w := by
  cases h with
  | one h => rw [encodeRuneZ_one (by omega) (by omega)]; rfl
  | two h =>
    obtain ⟨h1, h2, h3, h4⟩ := h
    rw [encodeRuneZ_two (by omega) (by omega)]
    simp only [List.take_succ_cons, List.take_zero, List.cons.injEq, and_true]
    omega
  | three h =>
    obtain ⟨h1, h2, h3, h4, h5, h6⟩ := h
    rw [encodeRuneZ_three (by omega)]
    simp only [List.take_succ_cons, List.take_zero, List.cons.injEq, and_true]
    omega
  | four h =>
    obtain ⟨h1, h2, h3, h4, h5, h6, h7⟩ := h
    rw [encodeRuneZ_four (by omega) (by omega)]
    simp only [List.take_succ_cons, List.take_zero, List.cons.injEq, and_true]
    omega
theorem enc_byte (c : Int) : ∀ x ∈ encodeRuneZ c, 0 ≤ x ∧ x < 256 := by
  unfold encodeRuneZ
  intro x hx
  split at hx
  · simp at hx; omega
  · split at hx
    · simp at hx; omega
    · split at hx
      · simp at hx; omega
      · split at hx
        · simp at hx; omega
        · simp at hx; omega
/-- Its bytes, decoded. -/
theorem good_enc {c : Int} (hc : letter c) {n b0 b1 b2 b3 : Nat} (hn : (encodeRuneZ c).length ≤ n) (e : encodeRuneZ c = ([(b0 : Int), b1, b2, b3]).take (encodeRuneZ c).length) : Good n b0 b1 b2 b3 c.toNat (encodeRuneZ c).length := by
  unfold letter at hc
  by_cases c1 : 0 ≤ c ∧ c ≤ 127
  · have q := encodeRuneZ_one c1.1 c1.2
    rw [q] at e hn ⊢
    simp at e
    subst e
    exact .one (by omega)
  · by_cases c2 : 128 ≤ c ∧ c ≤ 2047
    · have q := encodeRuneZ_two c2.1 c2.2
      rw [q] at e hn ⊢
      simp at e hn
      obtain ⟨e0, e1⟩ := e
      have : c.toNat = b0 % 32 * 64 + b1 % 64 := by omega
      rw [this]
      exact .two ⟨by omega, by omega, by omega, by omega⟩
    · by_cases c3 : (2048 ≤ c ∧ c < 55296) ∨ (57343 < c ∧ c ≤ 65535)
      · have q := encodeRuneZ_three c3
        rw [q] at e hn ⊢
        simp at e hn
        obtain ⟨e0, e1, e2⟩ := e
        have : c.toNat = b0 % 16 * 4096 + b1 % 64 * 64 + b2 % 64 := by omega
        rw [this]
        exact .three ⟨by omega, by omega, by omega, by omega, by omega, by omega⟩
      · have h0 : 65536 ≤ c := by omega
        have h1 : c ≤ 1114111 := by omega
        clear c1 c2 c3 hc
        have q := encodeRuneZ_four h0 h1
        rw [q] at e hn ⊢
        simp at e hn
        obtain ⟨e0, e1, e2, e3⟩ := e
        have : c.toNat = b0 % 8 * 262144 + b1 % 64 * 4096 + b2 % 64 * 64 + b3 % 64 := by omega
        rw [this]
        exact .four ⟨by omega, by omega, by omega, by omega, by omega, by omega, by omega⟩

/-! ## A string -/
def g (s : ByteArray) (p : Nat) : Nat := (s.get! p).toNat
theorem g_lt (s : ByteArray) (p : Nat) : g s p < 256 := UInt8.toNat_lt _
/-- The letter at a place: it, and how many bytes it has. -/
def At (s : ByteArray) (p c w : Nat) : Prop := Good (s.size - p) (g s p) (g s (p + 1)) (g s (p + 2)) (g s (p + 3)) c w
theorem at_dec {s : ByteArray} {p c w : Nat} (h : At s p c w) : Utf8.decode s p = (c, w) := by rw [decode_at]; exact good_dec h
theorem at_or (s : ByteArray) (p : Nat) : (∃ c w, At s p c w) ∨ Utf8.decode s p = (65533, 1) := by
  rcases dec_good (s.size - p) (g s p) (g s (p + 1)) (g s (p + 2)) (g s (p + 3)) with h | ⟨h, _⟩
  · exact .inl h
  · exact .inr (by rw [decode_at]; exact h)
theorem at_not {s : ByteArray} {p c w : Nat} (h : At s p c w) : ¬ bad (Utf8.decode s p) := by rw [at_dec h]; exact good_ok h
theorem at_width {s : ByteArray} {p c w : Nat} (hp : p < s.size) (h : At s p c w) : 1 ≤ w ∧ p + w ≤ s.size ∧ w ≤ 4 := by
  have := good_width (by omega) h; omega
theorem at_letter {s : ByteArray} {p c w : Nat} (h : At s p c w) : letter c := good_letter (g_lt s p) h
/-- Letters, from place to place: they, and where each begins. -/
inductive Ls (s : ByteArray) : Nat → List Int → List Int → Nat → Prop
  | nil (p : Nat) : Ls s p [] [] p
  | cons {p c w q : Nat} {cs ps : List Int} : p < s.size → At s p c w → Ls s (p + w) cs ps q → Ls s p ((c : Int) :: cs) ((p : Int) :: ps) q
theorem Ls.le {s : ByteArray} {p q : Nat} {cs ps : List Int} (h : Ls s p cs ps q) : p ≤ q := by
  induction h with
  | nil => exact Nat.le_refl _
  | cons h0 h1 _ ih => have := at_width h0 h1; omega
theorem Ls.size {s : ByteArray} {p q : Nat} {cs ps : List Int} (h : Ls s p cs ps q) (hp : p ≤ s.size) : q ≤ s.size := by
  induction h with
  | nil => exact hp
  | cons h0 h1 _ ih => exact ih (by have := at_width h0 h1; omega)
theorem Ls.len {s : ByteArray} {p q : Nat} {cs ps : List Int} (h : Ls s p cs ps q) : cs.length = ps.length ∧ p + cs.length ≤ q := by
  induction h with
  | nil => exact ⟨rfl, Nat.le_refl _⟩
  | cons h0 h1 _ ih => have := at_width h0 h1; simp only [List.length_cons]; omega
/-- Up to where there is none, or the end. -/
theorem Ls.total (s : ByteArray) : ∀ d p, s.size - p ≤ d → p ≤ s.size → ∃ cs ps q, Ls s p cs ps q ∧ q ≤ s.size ∧ (q < s.size → Utf8.decode s q = (65533, 1))
  | 0, p, hd, hp => ⟨[], [], p, .nil p, hp, fun h => by omega⟩
  | d + 1, p, hd, hp => by
    by_cases h : p < s.size
    · rcases at_or s p with ⟨c, w, a⟩ | e
      · have hw := at_width h a
        obtain ⟨cs, ps, q, hl, hq, he⟩ := Ls.total s d (p + w) (by omega) (by omega)
        exact ⟨_, _, q, .cons h a hl, hq, he⟩
      · exact ⟨[], [], p, .nil p, hp, fun _ => e⟩
    · exact ⟨[], [], p, .nil p, hp, fun h' => absurd h' h⟩
theorem Ls.app {s : ByteArray} {p q r : Nat} {cs ps ds qs : List Int} (h : Ls s p cs ps q) (h2 : Ls s q ds qs r) : Ls s p (cs ++ ds) (ps ++ qs) r := by
  induction h with
  | nil => exact h2
  | cons h0 h1 _ ih => exact .cons h0 h1 (ih h2)
/-- The bytes of letters. -/
def enc (cs : List Int) : List Int := cs.flatMap encodeRuneZ
theorem enc_cons (c : Int) (cs : List Int) : enc (c :: cs) = encodeRuneZ c ++ enc cs := by simp [enc]
/-- The bytes of a string, as numbers. -/
def by_ (s : ByteArray) (p q : Nat) : List Int := (List.range' p (q - p)).map fun j => (g s j : Int)
theorem by_app {s : ByteArray} {p q r : Nat} (h : p ≤ q) (h2 : q ≤ r) : by_ s p q ++ by_ s q r = by_ s p r := by
  unfold by_
  rw [← List.map_append]
  congr 1
  rw [show r - p = (q - p) + (r - q) by omega, ← List.range'_append_1, show p + (q - p) = q by omega]
theorem enc_at {s : ByteArray} {p c w : Nat} (h : At s p c w) : encodeRuneZ (c : Int) = by_ s p (p + w) := by
  have hw := good_pos h
  rw [enc_good (g_lt s p) h]
  unfold by_
  rw [Nat.add_sub_cancel_left]
  rcases hw with rfl | rfl | rfl | rfl <;> simp [List.range', g]
theorem Ls.enc {s : ByteArray} {p q : Nat} {cs ps : List Int} (h : Ls s p cs ps q) : enc cs = by_ s p q := by
  induction h with
  | nil => simp [UMath.enc, by_]
  | @cons p c w q cs ps h0 h1 hl ih =>
    rw [enc_cons, ih, enc_at h1]
    exact by_app (by omega) hl.le
theorem by_len (s : ByteArray) (p q : Nat) : (by_ s p q).length = q - p := by simp [by_]
end Go.Proofs.YtjiljpddkfcdbaaGreatDoor.UMath

/- What the functions of utf, and the document's, come to: the letters of a text, or where there is none first. -/
import Derived.Test.YtjiljpddkfcdbaaGreatDoorPLxx5
import Derived.Test.YtjiljpddkfcdbaaGreatDoorRdMath
namespace Go.Proofs.YtjiljpddkfcdbaaGreatDoor.Pure
set_option linter.unusedVariables false
set_option linter.unusedSimpArgs false
open Go Go.RowKit Go.Proofs.YtjiljpddkfcdbaaGreatDoor.PLx Go.Proofs.YtjiljpddkfcdbaaGreatDoorW.PrintWords Go.Proofs.YtjiljpddkfcdbaaGreatDoorW.PrintLast Go.Proofs.YtjiljpddkfcdbaaGreatDoorW.PrintMore Go.Proofs.YtjiljpddkfcdbaaGreatDoor.UMath

theorem wrap_small {x : Int} (h : -9223372036854775808 ≤ x ∧ x ≤ 9223372036854775807) : wrap64 x = x := by
  unfold wrap64
  omega
theorem wrap_add {p w : Nat} (h : p + w ≤ 1000000000000000) : wrap64 ((p : Int) + (w : Int)) = ((p + w : Nat) : Int) := by
  rw [wrap_small (by omega)]; omega
theorem wrap_succ {p : Nat} (h : p ≤ 1000000000000000) : wrap64 ((p : Int) + 1) = ((p + 1 : Nat) : Int) := by
  rw [wrap_small (by omega)]; omega
theorem dec_tail (s : ByteArray) (p : Nat) (hp : p < s.size) : Lib.decodeGo (s.extract p s.size) = Utf8.decode s p := by
  unfold Lib.decodeGo
  rw [if_neg (by rw [Lib.tail_size]; omega), Lib.tail_decode, Nat.add_zero]

/-! ## Bytes of parts, and of texts one behind the other -/
theorem g_list (s : ByteArray) (i : Nat) : g s i = (s.data.toList.getD i 0).toNat := by unfold g; rw [Lib.getD_get!']
theorem size_list (s : ByteArray) : s.size = s.data.toList.length := Lib.size_eq s
theorem ext0_size (s : ByteArray) {q : Nat} (h : q ≤ s.size) : (s.extract 0 q).size = q := by
  rw [size_list, Lib.extract_data, List.length_take, List.length_drop, ← size_list]; omega
theorem g_ext0 (s : ByteArray) {q j : Nat} (h : j < q) : g (s.extract 0 q) j = g s j := by
  rw [g_list, g_list, Lib.extract_data]
  simp [List.getD, List.getElem?_take, h]
theorem app_data (s t : ByteArray) : (s ++ t).data.toList = s.data.toList ++ t.data.toList := by simp
theorem app_size (s t : ByteArray) : (s ++ t).size = s.size + t.size := by rw [size_list, app_data, List.length_append, ← size_list, ← size_list]
theorem str_by {s : ByteArray} : by_ s 0 s.size = s.data.toList.map fun b => (b.toNat : Int) := by
  unfold by_
  apply List.ext_getElem
  · rw [List.length_map, List.length_map, List.length_range', size_list, Nat.sub_zero]
  · intro i h1 h2
    have h3 : i < s.data.size := by simpa using h2
    simp [g_list]
    rw [Array.getElem?_eq_getElem h3]
    rfl
theorem str_of_by {s : ByteArray} {xs : List Int} (h : xs = by_ s 0 s.size) : strOfNums xs = s := by
  rw [h, str_by]
  unfold strOfNums
  cases s with
  | mk d =>
    congr 1
    rw [List.map_map]
    have : ((fun n : Int => UInt8.ofNat n.toNat) ∘ fun b : UInt8 => (b.toNat : Int)) = id := by funext b; simp
    rw [this, List.map_id]
theorem by_str {xs : List Int} (h : ∀ x ∈ xs, 0 ≤ x ∧ x < 256) : by_ (strOfNums xs) 0 (strOfNums xs).size = xs := by
  rw [str_by, strOfNums_data, List.map_map]
  conv => rhs; rw [← List.map_id xs]
  apply List.map_congr_left
  intro x hx
  have := h x hx
  simp only [Function.comp, id, UInt8.toNat_ofNat']
  omega
/-! ## Decode, Starts -/
theorem dec_good {s : ByteArray} {p c w : Nat} {xs : List Int} {r : List Int × Int} (hp : p < s.size) (h : At s p c w) (hx : xs.length < 17592186044416) (hs : s.size ≤ 100000000000000)
    (hr : Ev (fun k => utf_Decode.l0 k s (xs ++ [(c : Int)]) ((p + w : Nat) : Int)) r) : Ev (fun k => utf_Decode.l0 k s xs (p : Int)) r := by
  have hw := at_width hp h
  have hn := at_not h
  have e := dec_tail s p hp
  rw [at_dec h] at e hn
  have e1 : wrap64 ((p : Int) + (w : Int)) = ((p + w : Nat) : Int) := wrap_add (by omega)
  have g1 : (p : Int) < (s.size : Int) := by omega
  have g2 : (0 : Int) ≤ (p : Int) := by omega
  refine Ev.step (fun k => ?_) hr
  simp only [utf_Decode.l0]
  rw [if_pos g1, if_pos g2, if_pos hx, Int.toNat_natCast, e]
  by_cases hc : ((c, w).1 : Int) = 65533
  · have hw1 : ¬ ((c, w).2 : Int) = 1 := fun h1 => hn ⟨by have : ((c : Nat) : Int) = 65533 := hc; simp only; omega, by have : ((w : Nat) : Int) = 1 := h1; simp only; omega⟩
    rw [if_pos hc, if_neg hw1, e1]
  · rw [if_neg hc, e1]
theorem dec_bad {s : ByteArray} {p : Nat} {xs : List Int} (hp : p < s.size) (h : Utf8.decode s p = (65533, 1)) (hx : xs.length < 17592186044416) : Ev (fun k => utf_Decode.l0 k s xs (p : Int)) (xs, (p : Int)) := by
  have e := dec_tail s p hp
  rw [h] at e
  have g1 : (p : Int) < (s.size : Int) := by omega
  have g2 : (0 : Int) ≤ (p : Int) := by omega
  refine Ev.step (f := fun _ => some _) (fun k => ?_) (Ev.now _)
  simp only [utf_Decode.l0]
  rw [if_pos g1, if_pos g2, if_pos hx, Int.toNat_natCast, e]
  simp
theorem dec_end {s : ByteArray} {xs : List Int} : Ev (fun k => utf_Decode.l0 k s xs (s.size : Int)) (xs, -1) := by
  refine Ev.step (f := fun _ => some _) (fun k => ?_) (Ev.now _)
  simp only [utf_Decode.l0]
  rw [if_neg (by omega)]
theorem dec_run {s : ByteArray} {p q : Nat} {cs ps : List Int} (h : Ls s p cs ps q) (hs : s.size ≤ 100000000000000) : ∀ (xs : List Int) (r : List Int × Int), xs.length + cs.length < 17592186044416 → Ev (fun k => utf_Decode.l0 k s (xs ++ cs) (q : Int)) r → Ev (fun k => utf_Decode.l0 k s xs (p : Int)) r := by
  induction h with
  | nil => intro xs r hx hr; simpa using hr
  | cons h0 h1 hl ih =>
    intro xs r hx hr
    simp only [List.length_cons] at hx
    exact dec_good h0 h1 (by omega) hs (ih _ _ (by simp only [List.length_append, List.length_cons, List.length_nil]; omega) (by simpa using hr))
theorem dec_l0 {s : ByteArray} {q : Nat} {cs ps : List Int} (h : Ls s 0 cs ps q) (hq : q ≤ s.size) (hb : q < s.size → Utf8.decode s q = (65533, 1)) (hs : s.size ≤ 10000000000000) : Ev (fun k => utf_Decode.l0 k s [] 0) (cs, if q < s.size then (q : Int) else -1) := by
  have hl := h.len
  refine dec_run h (by omega) [] _ (by simp only [List.length_nil]; omega) ?_
  rw [List.nil_append]
  by_cases c : q < s.size
  · rw [if_pos c]; exact dec_bad c (hb c) (by omega)
  · rw [if_neg c, show q = s.size by omega]; exact dec_end
theorem decode_ev {s : ByteArray} {q : Nat} {cs ps : List Int} (h : Ls s 0 cs ps q) (hq : q ≤ s.size) (hb : q < s.size → Utf8.decode s q = (65533, 1)) (hs : s.size ≤ 10000000000000) : Ev (fun k => utf_Decode.f k s) (if q < s.size then ([], 40, (q : Int)) else (cs, 0, 0)) := by
  refine Ev.bind (dec_l0 h hq hb hs) ?_
  by_cases c : q < s.size
  · simp only [if_pos c]; rw [if_pos (by omega)]; exact Ev.now _
  · simp only [if_neg c]; rw [if_neg (by omega)]; exact Ev.now _
theorem decode_ok {s : ByteArray} {cs ps : List Int} (h : Ls s 0 cs ps s.size) (hs : s.size ≤ 10000000000000) : Ev (fun k => utf_Decode.f k s) (cs, 0, 0) := by
  have := decode_ev h (Nat.le_refl _) (fun h => by omega) hs
  rwa [if_neg (by omega)] at this
theorem decode_no {s : ByteArray} {q : Nat} {cs ps : List Int} (h : Ls s 0 cs ps q) (hq : q < s.size) (hb : Utf8.decode s q = (65533, 1)) (hs : s.size ≤ 10000000000000) : Ev (fun k => utf_Decode.f k s) ([], 40, (q : Int)) := by
  have := decode_ev h (by omega) (fun _ => hb) hs
  rwa [if_pos hq] at this
/-- A text: all letters, or letters up to where there is none. -/
theorem text (s : ByteArray) : (∃ cs ps, Ls s 0 cs ps s.size) ∨ (∃ cs ps q, Ls s 0 cs ps q ∧ q < s.size ∧ Utf8.decode s q = (65533, 1)) := by
  obtain ⟨cs, ps, q, h, hq, hb⟩ := Ls.total s s.size 0 (by omega) (by omega)
  by_cases c : q < s.size
  · exact .inr ⟨cs, ps, q, h, c, hb c⟩
  · have : q = s.size := by omega
    subst this
    exact .inl ⟨cs, ps, h⟩
instance (c : Int) : Decidable (letter c) := inferInstanceAs (Decidable (_ ∨ _))
theorem rletter_f (c : Int) : variorumref04_Letter.f c = some (decide (letter c)) := by
  unfold variorumref04_Letter.f
  by_cases hl : letter c
  · rw [decide_eq_true hl]
    unfold letter at hl
    rw [if_pos (show c ≥ 0 by omega), if_pos (show c ≤ 1114111 by omega)]
    by_cases c2 : c < 55296
    · rw [if_pos c2]
    · rw [if_neg c2, decide_eq_true (show c > 57343 by omega)]
  · rw [decide_eq_false hl]
    unfold letter at hl
    by_cases c0 : c ≥ 0
    · rw [if_pos c0]
      by_cases c1 : c ≤ 1114111
      · rw [if_pos c1, if_neg (show ¬ c < 55296 by omega), decide_eq_false (show ¬ c > 57343 by omega)]
      · rw [if_neg c1]
    · rw [if_neg c0]

theorem td {x n : Int} (h : 0 ≤ x) : Int.tdiv x n = x / n := Int.tdiv_eq_ediv_of_nonneg h
theorem tm {x n : Int} (h : 0 ≤ x) : Int.tmod x n = x % n := Int.tmod_eq_emod_of_nonneg h
theorem b1 (a x : Int) (ha : 0 ≤ a ∧ a ≤ 255) (h : 0 ≤ x ∧ a + x ≤ 255) : (wrap64 (a + x)) % 256 = a + x := by rw [wrap_small (by omega)]; omega
theorem bytes_f {c : Int} (hc : letter c) : variorumref04_Bytes.f c = some (strOfNums (Lib.encodeRuneZ c)) := by
  have h0 : 0 ≤ c := by unfold letter at hc; omega
  have h1 : c ≤ 1114111 := by unfold letter at hc; omega
  have e : wrap64 c = c := wrap_small (by omega)
  have q1 : wrap64 (c / 64) = c / 64 := wrap_small (by omega)
  have q2 : wrap64 (c / 4096) = c / 4096 := wrap_small (by omega)
  have q3 : wrap64 (c / 262144) = c / 262144 := wrap_small (by omega)
  have p1 : 0 ≤ c / 64 := by omega
  have p2 : 0 ≤ c / 4096 := by omega
  have r0 : (wrap64 (128 + c % 64)) % 256 = 128 + c % 64 := b1 _ _ (by omega) (by omega)
  have r1 : (wrap64 (128 + c / 64 % 64)) % 256 = 128 + c / 64 % 64 := b1 _ _ (by omega) (by omega)
  have r2 : (wrap64 (128 + c / 4096 % 64)) % 256 = 128 + c / 4096 % 64 := b1 _ _ (by omega) (by omega)
  unfold variorumref04_Bytes.f
  simp only [e, td h0, tm h0, q1, q2, q3, tm p1, tm p2, r0, r1, r2]
  by_cases c1 : c < 128
  · rw [if_pos c1, Lib.encodeRuneZ_one h0 (by omega), show c % 256 = c by omega]
  · rw [if_neg c1]
    by_cases c2 : c < 2048
    · rw [if_pos c2, Lib.encodeRuneZ_two (by omega) (by omega), b1 192 (c / 64) (by omega) (by omega)]
    · rw [if_neg c2]
      by_cases c3 : c < 65536
      · have hh : (2048 ≤ c ∧ c < 55296) ∨ (57343 < c ∧ c ≤ 65535) := by unfold letter at hc; omega
        rw [if_pos c3, Lib.encodeRuneZ_three hh, b1 224 (c / 4096) (by omega) (by omega)]
      · rw [if_neg c3, Lib.encodeRuneZ_four (by omega) h1, b1 240 (c / 262144) (by omega) (by omega)]
/-! ## First -/
theorem bt_g (s : ByteArray) (i : Nat) : bt s (i : Int) = (g s i : Int) := by
  unfold bt
  rw [Int.toNat_natCast]
  by_cases h : i < s.size
  · rw [dif_pos h, g_list, List.getD_eq_getElem?_getD, List.getElem?_eq_getElem (by rw [← size_list]; exact h)]
    rfl
  · rw [dif_neg h, g_list]
    have : s.data.toList.getD i 0 = 0 := by
      rw [List.getD_eq_getElem?_getD, List.getElem?_eq_none (by rw [← size_list]; omega)]; rfl
    rw [this]; rfl
/-- The number that n bytes make, if they are a letter's. -/
def cN (s : ByteArray) : Nat → Nat
  | 1 => g s 0
  | 2 => 64 * (g s 0 % 32) + g s 1 % 64
  | 3 => 64 * (64 * (g s 0 % 16) + g s 1 % 64) + g s 2 % 64
  | 4 => 64 * (64 * (64 * (g s 0 % 8) + g s 1 % 64) + g s 2 % 64) + g s 3 % 64
  | _ => 0
theorem at_cN {s : ByteArray} {c w : Nat} (h : At s 0 c w) : c = cN s w ∧ (w = 1 ∨ w = 2 ∨ w = 3 ∨ w = 4) := by
  unfold At at h
  cases h with
  | one h => exact ⟨rfl, by simp⟩
  | two h => refine ⟨?_, by simp⟩; simp only [cN, Nat.zero_add]; omega
  | three h => refine ⟨?_, by simp⟩; simp only [cN, Nat.zero_add]; omega
  | four h => refine ⟨?_, by simp⟩; simp only [cN, Nat.zero_add]; omega
theorem by_ext (s : ByteArray) {n : Nat} (hn : n ≤ s.size) : by_ (s.extract 0 n) 0 (s.extract 0 n).size = by_ s 0 n := by
  rw [ext0_size s hn]
  unfold by_
  apply List.map_congr_left
  intro j hj
  rw [List.mem_range'_1] at hj
  rw [g_ext0 s (by omega)]
/-- These n bytes are those of the letter that they make. -/
def hit (s : ByteArray) (n : Nat) : Prop := letter (cN s n) ∧ (strOfNums (Lib.encodeRuneZ (cN s n))).toList = (s.extract 0 n).toList
theorem hit_at {s : ByteArray} {n : Nat} (h1 : 1 ≤ n) (h4 : n ≤ 4) (hn : n ≤ s.size) : hit s n ↔ At s 0 (cN s n) n := by
  constructor
  · rintro ⟨hl, he⟩
    have e1 : strOfNums (Lib.encodeRuneZ (cN s n)) = s.extract 0 n := by
      rw [Lib.toList_data, Lib.toList_data] at he
      exact ByteArray.ext (Array.ext' he)
    have e2 : Lib.encodeRuneZ (cN s n) = by_ s 0 n := by
      rw [← by_ext s hn, ← e1, by_str (enc_byte _)]
    have el : (Lib.encodeRuneZ (cN s n)).length = n := by rw [e2, by_len]; omega
    have e3 : Lib.encodeRuneZ (cN s n) = ([(g s 0 : Int), g s (0 + 1), g s (0 + 2), g s (0 + 3)]).take (Lib.encodeRuneZ (cN s n)).length := by
      rw [el]
      conv => lhs; rw [e2]
      unfold by_
      have hw : n = 1 ∨ n = 2 ∨ n = 3 ∨ n = 4 := by omega
      rcases hw with h | h | h | h <;> rw [h] <;> simp [List.range']
    have := good_enc (n := s.size - 0) hl (by omega) e3
    rw [el, Int.toNat_natCast] at this
    exact this
  · intro h
    refine ⟨at_letter h, ?_⟩
    have e := enc_at h
    rw [Nat.zero_add] at e
    rw [e, ← by_ext s hn, str_of_by rfl]
theorem l1_step {s : ByteArray} {n j : Nat} {x : Nat} {r : Int × Int} (hj : j < n) (hs : j < s.size) (hn : n ≤ 4) (hx : x ≤ 10000000) (h : Ev (fun k => variorumref04_First.l1 k s (n : Int) ((64 * x + g s j % 64 : Nat) : Int) ((j + 1 : Nat) : Int)) r) :
    Ev (fun k => variorumref04_First.l1 k s (n : Int) (x : Int) (j : Int)) r := by
  have g1 : (j : Int) < (n : Int) := by omega
  have g2 : (0 : Int) ≤ (j : Int) := by omega
  have g3 : (j : Int) < (s.size : Int) := by omega
  have hb := g_lt s j
  have e1 : wrap64 (g s j : Int) = (g s j : Int) := wrap_small (by omega)
  have e2 : wrap64 (64 * (x : Int)) = 64 * (x : Int) := wrap_small (by omega)
  have e3 : wrap64 (64 * (x : Int) + (g s j : Int) % 64) = ((64 * x + g s j % 64 : Nat) : Int) := by rw [wrap_small (by omega)]; omega
  refine Ev.step (fun k => ?_) h
  simp only [variorumref04_First.l1]
  rw [if_pos g1, if_pos g2, if_pos g3, bt_g, e1, tm (by omega), e2, e3, wrap_succ (by omega)]
theorem l1_end {s : ByteArray} {n : Nat} {r : Int × Int} (h1 : 1 ≤ n) (h4 : n ≤ 4) (hs : n ≤ s.size) (hit' : hit s n → r = ((cN s n : Int), (n : Int))) (miss : ¬ hit s n → Ev (fun k => variorumref04_First.l0 k s ((n + 1 : Nat) : Int)) r) :
    Ev (fun k => variorumref04_First.l1 k s (n : Int) (cN s n : Int) (n : Int)) r := by
  have g1 : ¬ (n : Int) < (n : Int) := by omega
  have g2 : (0 : Int) ≤ (n : Int) := by omega
  have g3 : (n : Int) ≤ (s.size : Int) := by omega
  have hb0 := g_lt s 0
  have hb1 := g_lt s 1
  have hb2 := g_lt s 2
  have hb3 := g_lt s 3
  have hc : cN s n ≤ 2097151 := by
    have hw : n = 1 ∨ n = 2 ∨ n = 3 ∨ n = 4 := by omega
    rcases hw with h | h | h | h <;> rw [h] <;> simp only [cN] <;> omega
  have e : Go.RowKit.wrap32 (cN s n : Int) = (cN s n : Int) := by unfold wrap32; omega
  by_cases hl : letter (cN s n)
  · by_cases he : (strOfNums (Lib.encodeRuneZ (cN s n))).toList = (s.extract 0 n).toList
    · rw [hit' ⟨hl, he⟩]
      refine Ev.step (f := fun _ => some ((cN s n : Int), (n : Int))) (fun k => ?_) (Ev.now _)
      simp only [variorumref04_First.l1]
      rw [if_neg g1, e, rletter_f, decide_eq_true hl]
      simp only [Option.bind_some, if_true, bytes_f hl, if_pos g2, if_pos g3, Int.toNat_natCast, if_pos he]
    · refine Ev.step (fun k => ?_) (miss (fun h => he h.2))
      simp only [variorumref04_First.l1]
      rw [if_neg g1, e, rletter_f, decide_eq_true hl]
      simp only [Option.bind_some, if_true, bytes_f hl, if_pos g2, if_pos g3, Int.toNat_natCast, if_neg he]
      rw [wrap_succ (by omega)]
  · refine Ev.step (fun k => ?_) (miss (fun h => hl h.1))
    simp only [variorumref04_First.l1]
    rw [if_neg g1, e, rletter_f, decide_eq_false hl]
    simp only [Option.bind_some]
    rw [if_neg (by decide), wrap_succ (by omega)]
/-- One length. -/
theorem l0_step {s : ByteArray} {n : Nat} {r : Int × Int} (h1 : 1 ≤ n) (h4 : n ≤ 4) (hs : n ≤ s.size) (hit' : hit s n → r = ((cN s n : Int), (n : Int))) (miss : ¬ hit s n → Ev (fun k => variorumref04_First.l0 k s ((n + 1 : Nat) : Int)) r) :
    Ev (fun k => variorumref04_First.l0 k s (n : Int)) r := by
  have E := l1_end h1 h4 hs hit' miss
  have hb0 := g_lt s 0
  have hb1 := g_lt s 1
  have hb2 := g_lt s 2
  have hb3 := g_lt s 3
  have f0 : bt s 0 = (g s 0 : Int) := bt_g s 0
  have e1 : wrap64 (g s 0 : Int) = (g s 0 : Int) := wrap_small (by omega)
  have d1 : decide ((n : Int) ≤ (s.size : Int)) = true := decide_eq_true (by omega)
  have d2 : (n : Int) ≤ 4 := by omega
  have d3 : (0 : Int) < (s.size : Int) := by omega
  have start : ∀ x : Int, (x = if (n : Int) = 2 then (g s 0 : Int) % 32 else if (n : Int) = 3 then (g s 0 : Int) % 16 else if (n : Int) = 4 then (g s 0 : Int) % 8 else (g s 0 : Int)) → Ev (fun k => variorumref04_First.l1 k s (n : Int) x 1) r → Ev (fun k => variorumref04_First.l0 k s (n : Int)) r := by
    intro x hx h
    refine Ev.step (f := fun k => variorumref04_First.j1 k s (n : Int) true) (fun k => ?_) ?_
    · simp only [variorumref04_First.l0]; rw [if_pos d2, d1]
    refine Ev.step (f := fun k => variorumref04_First.j2 k s (n : Int) (if (n : Int) = 2 then (g s 0 : Int) % 32 else (g s 0 : Int))) (fun k => ?_) ?_
    · simp only [variorumref04_First.j1, if_true]
      rw [if_pos d3, f0, e1, tm (by omega)]
      by_cases c : (n : Int) = 2
      · rw [if_pos c, if_pos c]
      · rw [if_neg c, if_neg c]
    generalize hx2 : (if (n : Int) = 2 then (g s 0 : Int) % 32 else (g s 0 : Int)) = x2
    have p2 : 0 ≤ x2 := by rw [← hx2]; split <;> omega
    refine Ev.step (f := fun k => variorumref04_First.j3 k s (n : Int) (if (n : Int) = 3 then x2 % 16 else x2)) (fun k => ?_) ?_
    · simp only [variorumref04_First.j2]
      rw [tm p2]
      by_cases c : (n : Int) = 3
      · rw [if_pos c, if_pos c]
      · rw [if_neg c, if_neg c]
    generalize hx3 : (if (n : Int) = 3 then x2 % 16 else x2) = x3
    have p3 : 0 ≤ x3 := by rw [← hx3]; split <;> omega
    refine Ev.step (f := fun k => variorumref04_First.j4 k s (n : Int) (if (n : Int) = 4 then x3 % 8 else x3)) (fun k => ?_) ?_
    · simp only [variorumref04_First.j3]
      rw [tm p3]
      by_cases c : (n : Int) = 4
      · rw [if_pos c, if_pos c]
      · rw [if_neg c, if_neg c]
    have ex : (if (n : Int) = 4 then x3 % 8 else x3) = x := by
      rw [hx, ← hx3, ← hx2]
      by_cases c : (n : Int) = 2
      · rw [if_neg (by omega), if_neg (by omega), if_pos c, if_pos c]
      · by_cases c3 : (n : Int) = 3
        · rw [if_neg (by omega), if_pos c3, if_neg c, if_neg c, if_pos c3]
        · by_cases c4 : (n : Int) = 4
          · rw [if_pos c4, if_neg c3, if_neg c, if_neg c, if_neg c3, if_pos c4]
          · rw [if_neg c4, if_neg c3, if_neg c, if_neg c, if_neg c3, if_neg c4]
    rw [ex]
    refine Ev.step (fun k => ?_) h
    simp only [variorumref04_First.j4]
  have hw : n = 1 ∨ n = 2 ∨ n = 3 ∨ n = 4 := by omega
  rcases hw with rfl | rfl | rfl | rfl
  · exact start _ (by simp; rfl) (by simpa [cN] using E)
  · refine start ((g s 0 % 32 : Nat) : Int) (by simp) ?_
    exact l1_step (j := 1) (n := 2) (by omega) (by omega) (by omega) (by omega) (by simpa [cN] using E)
  · refine start ((g s 0 % 16 : Nat) : Int) (by simp) ?_
    exact l1_step (j := 1) (n := 3) (by omega) (by omega) (by omega) (by omega) (l1_step (j := 2) (n := 3) (by omega) (by omega) (by omega) (by omega) (by simpa [cN] using E))
  · refine start ((g s 0 % 8 : Nat) : Int) (by simp) ?_
    exact l1_step (j := 1) (n := 4) (by omega) (by omega) (by omega) (by omega) (l1_step (j := 2) (n := 4) (by omega) (by omega) (by omega) (by omega) (l1_step (j := 3) (n := 4) (by omega) (by omega) (by omega) (by omega) (by simpa [cN] using E)))
theorem l0_end {s : ByteArray} {n : Nat} (h : 4 < n ∨ s.size < n) : Ev (fun k => variorumref04_First.l0 k s (n : Int)) (0, 0) := by
  have key : Ev (fun k => variorumref04_First.j1 k s (n : Int) false) (0, 0) := by
    refine Ev.step (f := fun _ => some (0, 0)) (fun k => ?_) (Ev.now _)
    simp only [variorumref04_First.j1]; rw [if_neg (by decide)]
  refine Ev.step (fun k => ?_) key
  simp only [variorumref04_First.l0]
  by_cases c : (n : Int) ≤ 4
  · rw [if_pos c, decide_eq_false (by omega)]
  · rw [if_neg c]
theorem first_from {s : ByteArray} {r : Int × Int} (hr : ∀ n, 1 ≤ n → n ≤ 4 → n ≤ s.size → hit s n → r = ((cN s n : Int), (n : Int))) (hn : (∀ n, 1 ≤ n → n ≤ 4 → n ≤ s.size → ¬ hit s n) → r = (0, 0)) : ∀ (d n : Nat), n + d = 5 → 1 ≤ n → (∀ m, 1 ≤ m → m < n → m ≤ s.size → ¬ hit s m) → Ev (fun k => variorumref04_First.l0 k s (n : Int)) r
  | 0, n, hd, h1, hm => by
    rw [hn (fun m h1 h4 hs => hm m h1 (by omega) hs)]
    exact l0_end (.inl (by omega))
  | d + 1, n, hd, h1, hm => by
    by_cases hs : n ≤ s.size
    · exact l0_step h1 (by omega) hs (hr n h1 (by omega) hs) (fun hmiss => first_from hr hn d (n + 1) (by omega) (by omega) (fun m h1 h2 h3 => by
        by_cases e : m = n
        · rw [e]; exact hmiss
        · exact hm m h1 (by omega) h3))
    · rw [hn (fun m h1 h4 hs2 => hm m h1 (by omega) hs2)]
      exact l0_end (.inr (by omega))
theorem first_good {s : ByteArray} {c w : Nat} (hs : 0 < s.size) (h : At s 0 c w) : Ev (fun k => variorumref04_First.f k s) ((c : Int), (w : Int)) := by
  have hw := at_width hs h
  have hc := at_cN h
  have hh : hit s w := (hit_at hw.1 hw.2.2 (by omega)).2 (by rw [← hc.1]; exact h)
  refine first_from (fun n h1 h4 hn hit' => ?_) (fun hno => absurd hh (hno w hw.1 hw.2.2 (by omega))) 4 1 (by omega) (by omega) (fun m h1 h2 => by omega)
  have a := (hit_at h1 h4 hn).1 hit'
  have d1 := at_dec h
  rw [at_dec a] at d1
  injection d1 with d1 d2
  rw [d1, d2]
theorem first_bad {s : ByteArray} (hs : 0 < s.size) (h : Utf8.decode s 0 = (65533, 1)) : Ev (fun k => variorumref04_First.f k s) (0, 0) := by
  refine first_from (fun n h1 h4 hn hit' => ?_) (fun _ => rfl) 4 1 (by omega) (by omega) (fun m h1 h2 => by omega)
  have a := (hit_at h1 h4 hn).1 hit'
  exact absurd (show bad (Utf8.decode s 0) by rw [h]; exact ⟨rfl, rfl⟩) (at_not a)

/-! ## Walk, Decode -/
theorem at_tail {s : ByteArray} {p c w : Nat} (h : At s p c w) : At (s.extract p s.size) 0 c w := by
  unfold At at h ⊢
  have e : ∀ j, g (s.extract p s.size) j = g s (p + j) := fun j => by unfold g; rw [Lib.tail_get!]
  rw [e, e, e, e, Lib.tail_size, Nat.zero_add, Nat.zero_add, Nat.zero_add, Nat.add_zero, Nat.sub_zero]
  exact h
theorem rwalk_run {s : ByteArray} {p q : Nat} {cs ps : List Int} (h : Ls s p cs ps q) (hs : s.size ≤ 10000000000000) : ∀ (xs ys : List Int) (r : List Int × List Int × Int), xs.length + cs.length < 17592186044416 → ys.length + ps.length < 17592186044416 → Ev (fun k => variorumref04_Walk.l0 k s (xs ++ cs) (ys ++ ps) (q : Int)) r → Ev (fun k => variorumref04_Walk.l0 k s xs ys (p : Int)) r := by
  induction h with
  | nil => intro xs ys r hx hy hr; simpa using hr
  | @cons p c w q cs ps h0 h1 hl ih =>
    intro xs ys r hx hy hr
    simp only [List.length_cons] at hx hy
    have hw := at_width h0 h1
    have h2 := ih (xs ++ [(c : Int)]) (ys ++ [(p : Int)]) r (by simp only [List.length_append, List.length_cons, List.length_nil]; omega) (by simp only [List.length_append, List.length_cons, List.length_nil]; omega) (by simpa using hr)
    have g1 : (p : Int) < (s.size : Int) := by omega
    have g2 : (0 : Int) ≤ (p : Int) := by omega
    have g3 : (p : Int) ≤ (s.size : Int) := by omega
    have g4 : xs.length < 35184372088832 := by omega
    have g5 : ys.length < 17592186044416 := by omega
    have g6 : ¬ ((w : Nat) : Int) = 0 := by omega
    refine Ev.step (f := fun k => (variorumref04_First.f k (s.extract p s.size)).bind fun b => if b.2 = 0 then some (xs, ys, (p : Int)) else variorumref04_Walk.l0 k s (xs ++ [b.1]) (ys ++ [(p : Int)]) (wrap64 ((p : Int) + b.2))) (fun k => ?_) (Ev.bind (first_good (by rw [Lib.tail_size]; omega) (at_tail h1)) ?_)
    · simp only [variorumref04_Walk.l0]
      rw [if_pos g1, if_pos g2, if_pos g3, Int.toNat_natCast]
      simp only [if_pos g4, if_pos g5]
    · simp only [if_neg g6]
      rw [wrap_add (by omega)]
      exact h2
theorem rwalk_ev {s : ByteArray} {q : Nat} {cs ps : List Int} (h : Ls s 0 cs ps q) (hq : q ≤ s.size) (hb : q < s.size → Utf8.decode s q = (65533, 1)) (hs : s.size ≤ 10000000000000) : Ev (fun k => variorumref04_Walk.f k s) (cs, ps, if q < s.size then (q : Int) else -1) := by
  have hl := h.len
  refine rwalk_run h hs [] [] _ (by simp only [List.length_nil]; omega) (by simp only [List.length_nil]; omega) ?_
  rw [List.nil_append, List.nil_append]
  by_cases c : q < s.size
  · rw [if_pos c]
    have g1 : (q : Int) < (s.size : Int) := by omega
    have g2 : (0 : Int) ≤ (q : Int) := by omega
    have g3 : (q : Int) ≤ (s.size : Int) := by omega
    have hd : Utf8.decode (s.extract q s.size) 0 = (65533, 1) := by rw [Lib.tail_decode, Nat.add_zero]; exact hb c
    refine Ev.step (f := fun k => (variorumref04_First.f k (s.extract q s.size)).bind fun b => (if b.2 = 0 then (some (cs, ps, (q : Int))) else (if cs.length < 35184372088832 then (if ps.length < 17592186044416 then (variorumref04_Walk.l0 k s (cs ++ [b.1]) (ps ++ [(q : Int)]) (wrap64 ((q : Int) + b.2))) else (none)) else (none)))) (fun k => ?_) (Ev.bind (first_bad (by rw [Lib.tail_size]; omega) hd) ?_)
    · simp only [variorumref04_Walk.l0]
      rw [if_pos g1, if_pos g2, if_pos g3, Int.toNat_natCast]
    · simp only [if_true]; exact Ev.now _
  · rw [if_neg c, show q = s.size by omega]
    refine Ev.step (f := fun _ => some _) (fun k => ?_) (Ev.now _)
    simp only [variorumref04_Walk.l0]
    rw [if_neg (by omega)]
theorem rdecode_ev {s : ByteArray} {q : Nat} {cs ps : List Int} (h : Ls s 0 cs ps q) (hq : q ≤ s.size) (hb : q < s.size → Utf8.decode s q = (65533, 1)) (hs : s.size ≤ 10000000000000) : Ev (fun k => variorumref04_Decode.f k s) (if q < s.size then ([], 40, (q : Int)) else (cs, 0, 0)) := by
  refine Ev.bind (rwalk_ev h hq hb hs) ?_
  by_cases c : q < s.size
  · simp only [if_pos c]; rw [if_pos (by omega)]; exact Ev.now _
  · simp only [if_neg c]; rw [if_neg (by omega)]; exact Ev.now _
end Go.Proofs.YtjiljpddkfcdbaaGreatDoor.Pure

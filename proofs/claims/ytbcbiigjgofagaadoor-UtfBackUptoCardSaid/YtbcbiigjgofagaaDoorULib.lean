/- What the functions of utf, and the document's, come to: the letters of a text, where they begin, and their bytes. -/
import Derived.Test.YtbcbiigjgofagaaDoorPUtx7
import Derived.Test.YtbcbiigjgofagaaDoorUMath
namespace Go.Proofs.YtbcbiigjgofagaaDoor.Pure
set_option linter.unusedVariables false
set_option linter.unusedSimpArgs false
open Go Go.RowKit Go.Proofs.YtbcbiigjgofagaaDoor.PUt Go.Proofs.YtbcbiigjgofagaaDoorW.PrintWords Go.Proofs.YtbcbiigjgofagaaDoorW.PrintLast Go.Proofs.YtbcbiigjgofagaaDoorW.PrintMore Go.Proofs.YtbcbiigjgofagaaDoor.UMath

theorem wrap_small {x : Int} (h : -9223372036854775808 ≤ x ∧ x ≤ 9223372036854775807) : wrap64 x = x := by
  unfold wrap64
  omega
theorem wrap_add {p w : Nat} (h : p + w ≤ 1000000000000000) : wrap64 ((p : Int) + (w : Int)) = ((p + w : Nat) : Int) := by
  rw [wrap_small (by omega)]; omega
theorem wrap_succ {p : Nat} (h : p ≤ 1000000000000000) : wrap64 ((p : Int) + 1) = ((p + 1 : Nat) : Int) := by
  rw [wrap_small (by omega)]; omega
theorem dec_tail (s : ByteArray) (p : Nat) (hp : p < s.size) : Lib.decodeGo (s.extract p s.size) = Utf8.decode s p := by
  unfold Lib.decodeGo
  rw [if_neg (by rw [Lib.tail_size]; omega), Lib.tail_decode, Nat.add_zero]

/-! ## Bytes of parts, and of texts one behind the other -/
theorem g_list (s : ByteArray) (i : Nat) : g s i = (s.data.toList.getD i 0).toNat := by unfold g; rw [Lib.getD_get!']
theorem size_list (s : ByteArray) : s.size = s.data.toList.length := Lib.size_eq s
theorem ext0_size (s : ByteArray) {q : Nat} (h : q ≤ s.size) : (s.extract 0 q).size = q := by
  rw [size_list, Lib.extract_data, List.length_take, List.length_drop, ← size_list]; omega
theorem g_ext0 (s : ByteArray) {q j : Nat} (h : j < q) : g (s.extract 0 q) j = g s j := by
  rw [g_list, g_list, Lib.extract_data]
  simp [List.getD, List.getElem?_take, h]
theorem app_data (s t : ByteArray) : (s ++ t).data.toList = s.data.toList ++ t.data.toList := by simp
theorem app_size (s t : ByteArray) : (s ++ t).size = s.size + t.size := by rw [size_list, app_data, List.length_append, ← size_list, ← size_list]
theorem g_app_left (s t : ByteArray) {j : Nat} (h : j < s.size) : g (s ++ t) j = g s j := by
  rw [size_list] at h
  rw [g_list, g_list, app_data]
  simp [List.getD, List.getElem?_append_left h]
theorem g_app_right (s t : ByteArray) (j : Nat) : g (s ++ t) (s.size + j) = g t j := by
  rw [g_list, g_list, app_data, size_list]
  simp [List.getD, List.getElem?_append_right]
theorem dec_app_right (s t : ByteArray) (q : Nat) : Utf8.decode (s ++ t) (s.size + q) = Utf8.decode t q := by
  rw [Lib.decode_at, Lib.decode_at, app_size]
  have h := fun j => g_app_right s t j
  unfold g at h
  rw [h, show s.size + q + 1 = s.size + (q + 1) by omega, h, show s.size + q + 2 = s.size + (q + 2) by omega, h, show s.size + q + 3 = s.size + (q + 3) by omega, h, show s.size + t.size - (s.size + q) = t.size - q by omega]
theorem str_by {s : ByteArray} : by_ s 0 s.size = s.data.toList.map fun b => (b.toNat : Int) := by
  unfold by_
  apply List.ext_getElem
  · rw [List.length_map, List.length_map, List.length_range', size_list, Nat.sub_zero]
  · intro i h1 h2
    have h3 : i < s.data.size := by simpa using h2
    simp [g_list]
    rw [Array.getElem?_eq_getElem h3]
    rfl
theorem str_of_by {s : ByteArray} {xs : List Int} (h : xs = by_ s 0 s.size) : strOfNums xs = s := by
  rw [h, str_by]
  unfold strOfNums
  cases s with
  | mk d =>
    congr 1
    rw [List.map_map]
    have : ((fun n : Int => UInt8.ofNat n.toNat) ∘ fun b : UInt8 => (b.toNat : Int)) = id := by funext b; simp
    rw [this, List.map_id]
theorem by_str {xs : List Int} (h : ∀ x ∈ xs, 0 ≤ x ∧ x < 256) : by_ (strOfNums xs) 0 (strOfNums xs).size = xs := by
  rw [str_by, strOfNums_data, List.map_map]
  conv => rhs; rw [← List.map_id xs]
  apply List.map_congr_left
  intro x hx
  have := h x hx
  simp only [Function.comp, id, UInt8.toNat_ofNat']
  omega
theorem str_app (a b : List Int) : strOfNums (a ++ b) = strOfNums a ++ strOfNums b := by
  apply ByteArray.ext
  apply Array.ext'
  rw [strOfNums_data, app_data, strOfNums_data, strOfNums_data, List.map_append]
theorem enc_bytes (cs : List Int) : ∀ x ∈ enc cs, 0 ≤ x ∧ x < 256 := by
  intro x hx
  unfold enc at hx
  rw [List.mem_flatMap] at hx
  obtain ⟨c, _, h⟩ := hx
  exact enc_byte c x h
theorem enc_length (cs : List Int) : cs.length ≤ (enc cs).length ∧ (enc cs).length ≤ 4 * cs.length := by
  induction cs with
  | nil => simp [enc]
  | cons c cs ih =>
    rw [enc_cons, List.length_append, List.length_cons]
    have := enc_len c
    omega

/-! ## Decode, Starts -/
theorem dec_good {s : ByteArray} {p c w : Nat} {xs : List Int} {r : List Int × Int} (hp : p < s.size) (h : At s p c w) (hx : xs.length < 17592186044416) (hs : s.size ≤ 100000000000000)
    (hr : Ev (fun k => utf_Decode.l0 k s (xs ++ [(c : Int)]) ((p + w : Nat) : Int)) r) : Ev (fun k => utf_Decode.l0 k s xs (p : Int)) r := by
  have hw := at_width hp h
  have hn := at_not h
  have e := dec_tail s p hp
  rw [at_dec h] at e hn
  have e1 : wrap64 ((p : Int) + (w : Int)) = ((p + w : Nat) : Int) := wrap_add (by omega)
  have g1 : (p : Int) < (s.size : Int) := by omega
  have g2 : (0 : Int) ≤ (p : Int) := by omega
  refine Ev.step (fun k => ?_) hr
  simp only [utf_Decode.l0]
  rw [if_pos g1, if_pos g2, if_pos hx, Int.toNat_natCast, e]
  by_cases hc : ((c, w).1 : Int) = 65533
  · have hw1 : ¬ ((c, w).2 : Int) = 1 := fun h1 => hn ⟨by have : ((c : Nat) : Int) = 65533 := hc; simp only; omega, by have : ((w : Nat) : Int) = 1 := h1; simp only; omega⟩
    rw [if_pos hc, if_neg hw1, e1]
  · rw [if_neg hc, e1]
theorem dec_bad {s : ByteArray} {p : Nat} {xs : List Int} (hp : p < s.size) (h : Utf8.decode s p = (65533, 1)) (hx : xs.length < 17592186044416) : Ev (fun k => utf_Decode.l0 k s xs (p : Int)) (xs, (p : Int)) := by
  have e := dec_tail s p hp
  rw [h] at e
  have g1 : (p : Int) < (s.size : Int) := by omega
  have g2 : (0 : Int) ≤ (p : Int) := by omega
  refine Ev.step (f := fun _ => some _) (fun k => ?_) (Ev.now _)
  simp only [utf_Decode.l0]
  rw [if_pos g1, if_pos g2, if_pos hx, Int.toNat_natCast, e]
  simp
theorem dec_end {s : ByteArray} {xs : List Int} : Ev (fun k => utf_Decode.l0 k s xs (s.size : Int)) (xs, -1) := by
  refine Ev.step (f := fun _ => some _) (fun k => ?_) (Ev.now _)
  simp only [utf_Decode.l0]
  rw [if_neg (by omega)]
theorem dec_run {s : ByteArray} {p q : Nat} {cs ps : List Int} (h : Ls s p cs ps q) (hs : s.size ≤ 100000000000000) : ∀ (xs : List Int) (r : List Int × Int), xs.length + cs.length < 17592186044416 → Ev (fun k => utf_Decode.l0 k s (xs ++ cs) (q : Int)) r → Ev (fun k => utf_Decode.l0 k s xs (p : Int)) r := by
  induction h with
  | nil => intro xs r hx hr; simpa using hr
  | cons h0 h1 hl ih =>
    intro xs r hx hr
    simp only [List.length_cons] at hx
    exact dec_good h0 h1 (by omega) hs (ih _ _ (by simp only [List.length_append, List.length_cons, List.length_nil]; omega) (by simpa using hr))
theorem dec_l0 {s : ByteArray} {q : Nat} {cs ps : List Int} (h : Ls s 0 cs ps q) (hq : q ≤ s.size) (hb : q < s.size → Utf8.decode s q = (65533, 1)) (hs : s.size ≤ 10000000000000) : Ev (fun k => utf_Decode.l0 k s [] 0) (cs, if q < s.size then (q : Int) else -1) := by
  have hl := h.len
  refine dec_run h (by omega) [] _ (by simp only [List.length_nil]; omega) ?_
  rw [List.nil_append]
  by_cases c : q < s.size
  · rw [if_pos c]; exact dec_bad c (hb c) (by omega)
  · rw [if_neg c, show q = s.size by omega]; exact dec_end
theorem sta_good {s : ByteArray} {p c w : Nat} {xs : List Int} {r : List Int × Int} (hp : p < s.size) (h : At s p c w) (hx : xs.length < 17592186044416) (hs : s.size ≤ 100000000000000)
    (hr : Ev (fun k => utf_Starts.l0 k s (xs ++ [(p : Int)]) ((p + w : Nat) : Int)) r) : Ev (fun k => utf_Starts.l0 k s xs (p : Int)) r := by
  have hw := at_width hp h
  have hn := at_not h
  have e := dec_tail s p hp
  rw [at_dec h] at e hn
  have e1 : wrap64 ((p : Int) + (w : Int)) = ((p + w : Nat) : Int) := wrap_add (by omega)
  have g1 : (p : Int) < (s.size : Int) := by omega
  have g2 : (0 : Int) ≤ (p : Int) := by omega
  refine Ev.step (fun k => ?_) hr
  simp only [utf_Starts.l0]
  rw [if_pos g1, if_pos g2, if_pos hx, Int.toNat_natCast, e]
  by_cases hc : ((c, w).1 : Int) = 65533
  · have hw1 : ¬ ((c, w).2 : Int) = 1 := fun h1 => hn ⟨by have : ((c : Nat) : Int) = 65533 := hc; simp only; omega, by have : ((w : Nat) : Int) = 1 := h1; simp only; omega⟩
    rw [if_pos hc, if_neg hw1, e1]
  · rw [if_neg hc, e1]
theorem sta_bad {s : ByteArray} {p : Nat} {xs : List Int} (hp : p < s.size) (h : Utf8.decode s p = (65533, 1)) (hx : xs.length < 17592186044416) : Ev (fun k => utf_Starts.l0 k s xs (p : Int)) (xs, (p : Int)) := by
  have e := dec_tail s p hp
  rw [h] at e
  have g1 : (p : Int) < (s.size : Int) := by omega
  have g2 : (0 : Int) ≤ (p : Int) := by omega
  refine Ev.step (f := fun _ => some _) (fun k => ?_) (Ev.now _)
  simp only [utf_Starts.l0]
  rw [if_pos g1, if_pos g2, if_pos hx, Int.toNat_natCast, e]
  simp
theorem sta_end {s : ByteArray} {xs : List Int} : Ev (fun k => utf_Starts.l0 k s xs (s.size : Int)) (xs, -1) := by
  refine Ev.step (f := fun _ => some _) (fun k => ?_) (Ev.now _)
  simp only [utf_Starts.l0]
  rw [if_neg (by omega)]
theorem sta_run {s : ByteArray} {p q : Nat} {cs ps : List Int} (h : Ls s p cs ps q) (hs : s.size ≤ 100000000000000) : ∀ (xs : List Int) (r : List Int × Int), xs.length + cs.length < 17592186044416 → Ev (fun k => utf_Starts.l0 k s (xs ++ ps) (q : Int)) r → Ev (fun k => utf_Starts.l0 k s xs (p : Int)) r := by
  induction h with
  | nil => intro xs r hx hr; simpa using hr
  | cons h0 h1 hl ih =>
    intro xs r hx hr
    simp only [List.length_cons] at hx
    exact sta_good h0 h1 (by omega) hs (ih _ _ (by simp only [List.length_append, List.length_cons, List.length_nil]; omega) (by simpa using hr))
theorem sta_l0 {s : ByteArray} {q : Nat} {cs ps : List Int} (h : Ls s 0 cs ps q) (hq : q ≤ s.size) (hb : q < s.size → Utf8.decode s q = (65533, 1)) (hs : s.size ≤ 10000000000000) : Ev (fun k => utf_Starts.l0 k s [] 0) (ps, if q < s.size then (q : Int) else -1) := by
  have hl := h.len
  refine sta_run h (by omega) [] _ (by simp only [List.length_nil]; omega) ?_
  rw [List.nil_append]
  by_cases c : q < s.size
  · rw [if_pos c]; exact sta_bad c (hb c) (by omega)
  · rw [if_neg c, show q = s.size by omega]; exact sta_end
theorem decode_ev {s : ByteArray} {q : Nat} {cs ps : List Int} (h : Ls s 0 cs ps q) (hq : q ≤ s.size) (hb : q < s.size → Utf8.decode s q = (65533, 1)) (hs : s.size ≤ 10000000000000) : Ev (fun k => utf_Decode.f k s) (if q < s.size then ([], 40, (q : Int)) else (cs, 0, 0)) := by
  refine Ev.bind (dec_l0 h hq hb hs) ?_
  by_cases c : q < s.size
  · simp only [if_pos c]; rw [if_pos (by omega)]; exact Ev.now _
  · simp only [if_neg c]; rw [if_neg (by omega)]; exact Ev.now _
theorem starts_ev {s : ByteArray} {q : Nat} {cs ps : List Int} (h : Ls s 0 cs ps q) (hq : q ≤ s.size) (hb : q < s.size → Utf8.decode s q = (65533, 1)) (hs : s.size ≤ 10000000000000) : Ev (fun k => utf_Starts.f k s) (if q < s.size then ([], false) else (ps, true)) := by
  refine Ev.bind (sta_l0 h hq hb hs) ?_
  by_cases c : q < s.size
  · simp only [if_pos c]; rw [if_pos (by omega)]; exact Ev.now _
  · simp only [if_neg c]; rw [if_neg (by omega)]; exact Ev.now _
theorem decode_ok {s : ByteArray} {cs ps : List Int} (h : Ls s 0 cs ps s.size) (hs : s.size ≤ 10000000000000) : Ev (fun k => utf_Decode.f k s) (cs, 0, 0) := by
  have := decode_ev h (Nat.le_refl _) (fun h => by omega) hs
  rwa [if_neg (by omega)] at this
theorem starts_ok {s : ByteArray} {cs ps : List Int} (h : Ls s 0 cs ps s.size) (hs : s.size ≤ 10000000000000) : Ev (fun k => utf_Starts.f k s) (ps, true) := by
  have := starts_ev h (Nat.le_refl _) (fun h => by omega) hs
  rwa [if_neg (by omega)] at this
theorem decode_no {s : ByteArray} {q : Nat} {cs ps : List Int} (h : Ls s 0 cs ps q) (hq : q < s.size) (hb : Utf8.decode s q = (65533, 1)) (hs : s.size ≤ 10000000000000) : Ev (fun k => utf_Decode.f k s) ([], 40, (q : Int)) := by
  have := decode_ev h (by omega) (fun _ => hb) hs
  rwa [if_pos hq] at this
/-- A text: all letters, or letters up to where there is none. -/
theorem text (s : ByteArray) : (∃ cs ps, Ls s 0 cs ps s.size) ∨ (∃ cs ps q, Ls s 0 cs ps q ∧ q < s.size ∧ Utf8.decode s q = (65533, 1)) := by
  obtain ⟨cs, ps, q, h, hq, hb⟩ := Ls.total s s.size 0 (by omega) (by omega)
  by_cases c : q < s.size
  · exact .inr ⟨cs, ps, q, h, c, hb c⟩
  · have : q = s.size := by omega
    subst this
    exact .inl ⟨cs, ps, h⟩
theorem fixed_ev : Ev (fun k => variorumlaw04_fixed.f k) true := Ev.of variorumlaw04_fixed.mono (k := 20) (by decide +kernel)

/-! ## The same lists -/
theorem runes_loop (xs : List Int) (hn : xs.length ≤ 100000000000000) : ∀ (d i : Nat), i + d = xs.length → Ev (fun k => variorumref04_Runes.l0 k xs xs (i : Int)) true := by
  intro d
  induction d with
  | zero =>
    intro i hi
    refine Ev.step (f := fun _ => some true) (fun k => ?_) (Ev.now _)
    simp only [variorumref04_Runes.l0]; rw [if_neg (by omega)]
  | succ d ih =>
    intro i hi
    have h := ih (i + 1) (by omega)
    rw [← wrap_succ (show i ≤ 1000000000000000 by omega)] at h
    refine Ev.step (fun k => ?_) h
    have g1 : (i : Int) < (xs.length : Int) := by omega
    have g2 : (0 : Int) ≤ (i : Int) := by omega
    simp only [variorumref04_Runes.l0]; rw [if_pos g1, if_pos g2]; simp [g1]
theorem runes_ev (xs : List Int) (hn : xs.length ≤ 100000000000000) : Ev (fun k => variorumref04_Runes.f k xs xs) true := by
  refine Ev.congr (f := fun k => variorumref04_Runes.l0 k xs xs ((0 : Nat) : Int)) (fun k => ?_) (runes_loop xs hn xs.length 0 (by omega))
  unfold variorumref04_Runes.f; rw [if_pos rfl]; rfl
theorem ints_loop (xs : List Int) (hn : xs.length ≤ 100000000000000) : ∀ (d i : Nat), i + d = xs.length → Ev (fun k => variorumref04_Ints.l0 k xs xs (i : Int)) true := by
  intro d
  induction d with
  | zero =>
    intro i hi
    refine Ev.step (f := fun _ => some true) (fun k => ?_) (Ev.now _)
    simp only [variorumref04_Ints.l0]; rw [if_neg (by omega)]
  | succ d ih =>
    intro i hi
    have h := ih (i + 1) (by omega)
    rw [← wrap_succ (show i ≤ 1000000000000000 by omega)] at h
    refine Ev.step (fun k => ?_) h
    have g1 : (i : Int) < (xs.length : Int) := by omega
    have g2 : (0 : Int) ≤ (i : Int) := by omega
    simp only [variorumref04_Ints.l0]; rw [if_pos g1, if_pos g2]; simp [g1]
theorem ints_ev (xs : List Int) (hn : xs.length ≤ 100000000000000) : Ev (fun k => variorumref04_Ints.f k xs xs) true := by
  refine Ev.congr (f := fun k => variorumref04_Ints.l0 k xs xs ((0 : Nat) : Int)) (fun k => ?_) (ints_loop xs hn xs.length 0 (by omega))
  unfold variorumref04_Ints.f; rw [if_pos rfl]; rfl
end Go.Proofs.YtbcbiigjgofagaaDoor.Pure

/- Letters' bytes: what Encode, and the document's, come to. -/
import Derived.Test.YtbcbiigjgofagaaDoorULib
namespace Go.Proofs.YtbcbiigjgofagaaDoor.Pure
set_option linter.unusedVariables false
set_option linter.unusedSimpArgs false
open Go Go.RowKit Go.Proofs.YtbcbiigjgofagaaDoor.PUt Go.Proofs.YtbcbiigjgofagaaDoorW.PrintWords Go.Proofs.YtbcbiigjgofagaaDoorW.PrintLast Go.Proofs.YtbcbiigjgofagaaDoorW.PrintMore Go.Proofs.YtbcbiigjgofagaaDoor.UMath

instance (c : Int) : Decidable (letter c) := inferInstanceAs (Decidable (_ ∨ _))
theorem letter_ev (c : Int) : Ev (fun k => utf_Letter.f k c) (decide (letter c)) := by
  have h : Ev (fun k => utf8_ValidRune.f k c) (decide (letter c)) := by
    by_cases hl : letter c
    · rw [decide_eq_true hl]
      refine Ev.step (f := fun _ => some true) (fun k => ?_) (Ev.now _)
      unfold letter at hl
      have c0 : 0 ≤ c := by omega
      unfold utf8_ValidRune.f
      rw [if_pos c0]
      simp only [utf8_ValidRune.j0]
      by_cases c1 : c < 55296
      · rw [if_pos (decide_eq_true c1)]
      · rw [if_neg (by simpa using c1), if_pos (show 57343 < c by omega), if_pos (show c ≤ 1114111 by omega)]
    · rw [decide_eq_false hl]
      refine Ev.step (f := fun _ => some false) (fun k => ?_) (Ev.now _)
      unfold letter at hl
      unfold utf8_ValidRune.f
      by_cases c0 : 0 ≤ c
      · have c1 : ¬ c < 55296 := by omega
        rw [if_pos c0]
        simp only [utf8_ValidRune.j0]
        rw [if_neg (by simpa using c1)]
        by_cases c2 : 57343 < c
        · rw [if_pos c2, if_neg (show ¬ c ≤ 1114111 by omega)]
        · rw [if_neg c2]
      · rw [if_neg c0]
        simp only [utf8_ValidRune.j0]
        rw [if_neg (by decide), if_neg (show ¬ 57343 < c by omega)]
  exact Ev.bind h (Ev.now _)
theorem rletter_f (c : Int) : variorumref04_Letter.f c = some (decide (letter c)) := by
  unfold variorumref04_Letter.f
  by_cases hl : letter c
  · rw [decide_eq_true hl]
    unfold letter at hl
    rw [if_pos (show c ≥ 0 by omega), if_pos (show c ≤ 1114111 by omega)]
    by_cases c2 : c < 55296
    · rw [if_pos c2]
    · rw [if_neg c2, decide_eq_true (show c > 57343 by omega)]
  · rw [decide_eq_false hl]
    unfold letter at hl
    by_cases c0 : c ≥ 0
    · rw [if_pos c0]
      by_cases c1 : c ≤ 1114111
      · rw [if_pos c1, if_neg (show ¬ c < 55296 by omega), decide_eq_false (show ¬ c > 57343 by omega)]
      · rw [if_neg c1]
    · rw [if_neg c0]

theorem or192 : ∀ x : Fin 32, Go.bits .or .u8 192 ((x.val : Nat) : Int) = 192 + ((x.val : Nat) : Int) := by decide
theorem or224 : ∀ x : Fin 16, Go.bits .or .u8 224 ((x.val : Nat) : Int) = 224 + ((x.val : Nat) : Int) := by decide
theorem or240 : ∀ x : Fin 8, Go.bits .or .u8 240 ((x.val : Nat) : Int) = 240 + ((x.val : Nat) : Int) := by decide
theorem or192' {x : Int} (h0 : 0 ≤ x) (h1 : x < 32) : Go.bits .or .u8 192 x = 192 + x := by
  have := or192 ⟨x.toNat, by omega⟩
  rwa [show ((x.toNat : Nat) : Int) = x by omega] at this
theorem or224' {x : Int} (h0 : 0 ≤ x) (h1 : x < 16) : Go.bits .or .u8 224 x = 224 + x := by
  have := or224 ⟨x.toNat, by omega⟩
  rwa [show ((x.toNat : Nat) : Int) = x by omega] at this
theorem or240' {x : Int} (h0 : 0 ≤ x) (h1 : x < 8) : Go.bits .or .u8 240 x = 240 + x := by
  have := or240 ⟨x.toNat, by omega⟩
  rwa [show ((x.toNat : Nat) : Int) = x by omega] at this
theorem append_ev {c : Int} (hc : letter c) (xs : List Int) (hx : xs.length + 4 < 140737488355328) : Ev (fun k => utf8_AppendRune.f k xs c) (xs ++ Lib.encodeRuneZ c) := by
  have hm : c % 4294967296 = c := by unfold letter at hc; omega
  unfold utf8_AppendRune.f
  by_cases c1 : c ≤ 127
  · have h0 : 0 ≤ c := by unfold letter at hc; omega
    have e : c % 256 = c := by omega
    refine Ev.congr (f := fun _ => some (xs ++ [c])) (fun k => ?_) ?_
    · rw [hm, if_pos c1, if_pos (show xs.length < 140737488355328 by omega), e]
    · rw [Lib.encodeRuneZ_one h0 c1]; exact Ev.now _
  · refine Ev.congr (f := fun k => (utf8_appendRuneNonASCII.f k xs c).bind fun t => some t) (fun k => ?_) (Ev.bind (a := xs ++ Lib.encodeRuneZ c) ?_ (Ev.now _))
    · rw [hm, if_neg c1]
    unfold utf8_appendRuneNonASCII.f
    by_cases c2 : c ≤ 2047
    · refine Ev.congr (f := fun _ => some (xs ++ [192 + c / 64, 128 + c % 64])) (fun k => ?_) ?_
      · have e : c / 64 % 256 = c / 64 := by omega
        have e2 : Go.bits .or .u8 192 (c / 64) = 192 + c / 64 := or192' (by omega) (by omega)
        rw [hm, if_pos c2, e, e2]
        simp only [Option.bind_some]
        exact if_pos (by simp only [List.length_cons, List.length_nil]; omega)
      · rw [Lib.encodeRuneZ_two (by omega) c2]; exact Ev.now _
    · by_cases c3 : c ≤ 65535
      · have hh : (2048 ≤ c ∧ c < 55296) ∨ (57343 < c ∧ c ≤ 65535) := by unfold letter at hc; omega
        rw [Lib.encodeRuneZ_three hh]
        have e : c / 4096 % 256 = c / 4096 := by omega
        have e2 : Go.bits .or .u8 224 (c / 4096) = 224 + c / 4096 := or224' (by omega) (by omega)
        have key : Ev (fun k => utf8_appendRuneNonASCII.j0 k xs c c true) (xs ++ [224 + c / 4096, 128 + c / 64 % 64, 128 + c % 64]) := by
          refine Ev.step (f := fun _ => some (xs ++ [224 + c / 4096, 128 + c / 64 % 64, 128 + c % 64])) (fun k => ?_) (Ev.now _)
          simp only [utf8_appendRuneNonASCII.j0, if_true, Option.bind_some, e, e2]
          exact if_pos (by simp only [List.length_cons, List.length_nil]; omega)
        refine Ev.congr (fun k => ?_) key
        rw [hm, if_neg c2]
        by_cases c4 : c < 55296
        · rw [if_pos c4, decide_eq_true c4]
        · rw [if_neg c4, if_pos (show 57343 < c by omega), decide_eq_true c3]
      · have h1 : c ≤ 1114111 := by unfold letter at hc; omega
        rw [Lib.encodeRuneZ_four (by omega) h1]
        have e : c / 262144 % 256 = c / 262144 := by omega
        have e2 : Go.bits .or .u8 240 (c / 262144) = 240 + c / 262144 := or240' (by omega) (by omega)
        have key : Ev (fun k => utf8_appendRuneNonASCII.j0 k xs c c false) (xs ++ [240 + c / 262144, 128 + c / 4096 % 64, 128 + c / 64 % 64, 128 + c % 64]) := by
          refine Ev.step (f := fun _ => some (xs ++ [240 + c / 262144, 128 + c / 4096 % 64, 128 + c / 64 % 64, 128 + c % 64])) (fun k => ?_) (Ev.now _)
          simp only [utf8_appendRuneNonASCII.j0]
          rw [if_neg (by decide), if_pos (show c > 65535 by omega), if_pos h1]
          simp only [Option.bind_some, e, e2]
          rw [if_pos (show xs.length + [240 + c / 262144, 128 + c / 4096 % 64, 128 + c / 64 % 64, 128 + c % 64].length < 140737488355328 by simp only [List.length_cons, List.length_nil]; omega)]
        refine Ev.congr (fun k => ?_) key
        rw [hm, if_neg c2, if_neg (show ¬ c < 55296 by omega), if_pos (show 57343 < c by omega), decide_eq_false c3]
theorem rd_at {l : List Int} {i : Nat} (h : i < l.length) : rd l (i : Int) = l[i] := by
  unfold rd; rw [Int.toNat_natCast, List.getD_eq_getElem?_getD, List.getElem?_eq_getElem h]; rfl
/-- What letters are encoded as, or that one may not be. -/
def encd (l : List Int) : ByteArray × Bool := if ∀ c ∈ l, letter c then (strOfNums (enc l), true) else (⟨#[]⟩, false)
theorem encode_loop (l : List Int) (hl : l.length * 4 ≤ 140737488351232) : ∀ (d i : Nat), i + d = l.length → (∀ c ∈ l.take i, letter c) → Ev (fun k => utf_Encode.l0 k (enc (l.take i)) l (l.length : Int) (i : Int)) (encd l) := by
  intro d
  induction d with
  | zero =>
    intro i hi ha
    have e : l.take i = l := List.take_of_length_le (by omega)
    rw [e] at ha
    rw [e, show encd l = (strOfNums (enc l), true) by unfold encd; rw [if_pos ha]]
    refine Ev.step (f := fun _ => some _) (fun k => ?_) (Ev.now _)
    simp only [utf_Encode.l0]; rw [if_neg (by omega)]
  | succ d ih =>
    intro i hi ha
    have hil : i < l.length := by omega
    have g1 : (i : Int) < (l.length : Int) := by omega
    have g2 : (0 : Int) ≤ (i : Int) := by omega
    refine Ev.step (f := fun k => (utf_Letter.f k l[i]).bind fun t => (if t = true then ((utf8_AppendRune.f k (enc (l.take i)) l[i]).bind fun u => utf_Encode.l0 k u l (l.length : Int) ((i + 1 : Nat) : Int)) else some ((⟨#[]⟩ : ByteArray), false))) (fun k => ?_) (Ev.bind (letter_ev l[i]) ?_)
    · simp only [utf_Encode.l0]
      rw [if_pos g1, if_pos g2, if_pos g1, rd_at hil, wrap_succ (by omega)]
    · by_cases hc : letter l[i]
      · simp only [decide_eq_true hc, if_true]
        have hb := enc_length (l.take i)
        have hbl : (l.take i).length ≤ i := List.length_take_le _ _
        refine Ev.bind (append_ev hc _ (by omega)) ?_
        have h := ih (i + 1) (by omega) (by
          rw [List.take_succ_eq_append_getElem hil]
          intro c hm
          rcases List.mem_append.1 hm with hm | hm
          · exact ha c hm
          · rw [List.mem_singleton] at hm; rw [hm]; exact hc)
        rwa [List.take_succ_eq_append_getElem hil, enc_app, show enc [l[i]] = Lib.encodeRuneZ l[i] by simp [enc]] at h
      · simp only [decide_eq_false hc]
        rw [show encd l = (⟨#[]⟩, false) by unfold encd; rw [if_neg (fun h => hc (h _ (List.getElem_mem hil)))]]
        exact Ev.now _
theorem encode_ev (l : List Int) (hl : l.length * 4 ≤ 140737488351232) : Ev (fun k => utf_Encode.f k l) (encd l) := encode_loop l hl l.length 0 (by omega) (fun c h => by cases h)
theorem encode_ok {l : List Int} (hl : l.length * 4 ≤ 140737488351232) (h : ∀ c ∈ l, letter c) : Ev (fun k => utf_Encode.f k l) (strOfNums (enc l), true) := by
  have := encode_ev l hl
  rwa [show encd l = (strOfNums (enc l), true) by unfold encd; rw [if_pos h]] at this
end Go.Proofs.YtbcbiigjgofagaaDoor.Pure

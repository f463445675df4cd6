/- What the document's reader, and its May, Escape and Print, come to. -/
import Derived.Test.YtjiljpddkfcdbaaGreatDoorPLxx9
import Derived.Test.YtjiljpddkfcdbaaGreatDoorXMay
namespace Go.Proofs.YtjiljpddkfcdbaaGreatDoor.Pure
set_option linter.unusedVariables false
set_option linter.unusedSimpArgs false
open Go Go.RowKit Go.Proofs.YtjiljpddkfcdbaaGreatDoor.PLx Go.Proofs.YtjiljpddkfcdbaaGreatDoorW.PrintWords Go.Proofs.YtjiljpddkfcdbaaGreatDoorW.PrintLast Go.Proofs.YtjiljpddkfcdbaaGreatDoorW.PrintMore Go.Proofs.YtjiljpddkfcdbaaGreatDoor.UMath Go.Proofs.YtjiljpddkfcdbaaGreatDoor.VMath

/-! ## Bytes -/
theorem all8 {P : UInt8 → Prop} (h : ∀ n : Fin 256, P (UInt8.ofNat n.val)) (c : UInt8) : P c := by
  have := h ⟨c.toNat, c.toNat_lt⟩
  simpa using this
theorem blank_t : ∀ c : UInt8, variorumref05_Blank.f (c.toNat : Int) = some (decide (cls c = 1)) := all8 (by decide +kernel)
theorem letter_t : ∀ c : UInt8, variorumref05_Letter.f (c.toNat : Int) = some (isLetter c) := all8 (by decide +kernel)
theorem special_t : ∀ c : UInt8, variorumref05_Special.f (c.toNat : Int) = some (decide (cls c = 2 ∨ cls c = 3 ∨ cls c = 4)) := all8 (by decide +kernel)
theorem is92 : ∀ c : UInt8, (c.toNat : Int) = 92 ↔ cls c = 4 := all8 (by decide +kernel)
theorem is37 : ∀ c : UInt8, (c.toNat : Int) = 37 ↔ cls c = 2 := all8 (by decide +kernel)
theorem is10 : ∀ c : UInt8, (c.toNat : Int) = 10 ↔ c = 10 := all8 (by decide +kernel)
theorem is125 : ∀ c : UInt8, (c.toNat : Int) = 125 ↔ c = 125 := all8 (by decide +kernel)
theorem is123 : ∀ c : UInt8, (c.toNat : Int) = 123 ↔ c = 123 := all8 (by decide +kernel)
theorem is45 : ∀ c : UInt8, (c.toNat : Int) = 45 ↔ c = 45 := all8 (by decide +kernel)
theorem is194 : ∀ c : UInt8, (c.toNat : Int) = 194 ↔ c = 194 := all8 (by decide +kernel)
theorem is173 : ∀ c : UInt8, (c.toNat : Int) = 173 ↔ c = 173 := all8 (by decide +kernel)
theorem escd_t : ∀ c : UInt8, (decide (cls c = 2 ∨ cls c = 3 ∨ cls c = 4) || decide (c = 45)) = (escd c).isSome := all8 (by decide +kernel)
theorem bt_at {s : ByteArray} {i : Nat} {c : UInt8} {r : List UInt8} (h : s.data.toList.drop i = c :: r) : i < s.size ∧ bt s (i : Int) = (c.toNat : Int) ∧ s.data.toList.drop (i + 1) = r := by
  have hl : s.data.toList.length = s.size := (Lib.size_eq s).symm
  have hi : i < s.data.toList.length := by
    rcases Nat.lt_or_ge i s.data.toList.length with h1 | h1
    · exact h1
    · rw [List.drop_of_length_le h1] at h; cases h
  rw [List.drop_eq_getElem_cons hi] at h
  simp only [List.cons.injEq] at h
  refine ⟨by omega, ?_, h.2⟩
  rw [bt_g, g_list, List.getD_eq_getElem?_getD, List.getElem?_eq_getElem hi, ← h.1]; rfl
theorem at_end {s : ByteArray} {i : Nat} (h : s.data.toList.drop i = []) : s.size ≤ i := by
  have hl : s.data.toList.length = s.size := (Lib.size_eq s).symm
  have := congrArg List.length h
  rw [List.length_drop, List.length_nil] at this
  omega
theorem drop_len (s : ByteArray) (i : Nat) : (s.data.toList.drop i).length = s.size - i := by rw [List.length_drop, ← Lib.size_eq]
theorem ext_one {s : ByteArray} {i : Nat} {c : UInt8} {r : List UInt8} (h : s.data.toList.drop i = c :: r) : s.extract i (i + 1) = ⟨#[c]⟩ := by
  rw [ext_str, h, Nat.add_sub_cancel_left]; rfl
theorem ba_app (o a : ByteArray) (w : List UInt8) : (o ++ a) ++ (⟨w.toArray⟩ : ByteArray) = o ++ ⟨(a.data.toList ++ w).toArray⟩ := by
  apply ByteArray.ext; apply Array.toList_inj.1; simp
theorem ba_nil (o : ByteArray) : o ++ (⟨([] : List UInt8).toArray⟩ : ByteArray) = o := by
  apply ByteArray.ext; simp
theorem ba_zero (w : List UInt8) : (⟨#[]⟩ : ByteArray) ++ (⟨w.toArray⟩ : ByteArray) = ⟨w.toArray⟩ := by
  apply ByteArray.ext; simp
/-! ## Words -/
theorem command_t {s : ByteArray} {i : Nat} {c : UInt8} {r : List UInt8} (hs : s.size ≤ 10000000) (h : s.data.toList.drop i = c :: r) : variorumref05_command.f s (i : Int) = some (decide (cls c = 4 ∧ isLetter (r.headD 0) = true)) := by
  obtain ⟨h1, h2, h3⟩ := bt_at h
  unfold variorumref05_command.f
  rw [if_pos (by omega), if_pos (by omega), h2]
  by_cases hc : cls c = 4
  · rw [if_pos ((is92 c).2 hc), wrap_succ (by omega)]
    cases r with
    | nil =>
      have := at_end h3
      rw [if_neg (by omega)]
      simp [isLetter]
    | cons d r =>
      obtain ⟨h4, h5, _⟩ := bt_at h3
      rw [if_pos (by omega), if_pos (by omega), h5, letter_t]
      simp [hc]
  · rw [if_neg (fun e => hc ((is92 c).1 e))]
    simp [hc]
theorem escape_not {s : ByteArray} {i : Nat} {c : UInt8} {r : List UInt8} (h : s.data.toList.drop i = c :: r) (hc : ¬ cls c = 4) : variorumref05_escape.f s (i : Int) = some false := by
  obtain ⟨h1, h2, h3⟩ := bt_at h
  unfold variorumref05_escape.f
  rw [if_pos (by omega), if_pos (by omega), h2, if_neg (fun e => hc ((is92 c).1 e))]
theorem escape_end {s : ByteArray} {i : Nat} {c : UInt8} (hs : s.size ≤ 10000000) (h : s.data.toList.drop i = [c]) (hc : cls c = 4) : variorumref05_escape.f s (i : Int) = some false := by
  obtain ⟨h1, h2, h3⟩ := bt_at h
  have := at_end h3
  unfold variorumref05_escape.f
  rw [if_pos (by omega), if_pos (by omega), h2, if_pos ((is92 c).2 hc), wrap_succ (by omega), if_neg (by omega)]
theorem escape_two {s : ByteArray} {i : Nat} {c d : UInt8} {r : List UInt8} (hs : s.size ≤ 10000000) (h : s.data.toList.drop i = c :: d :: r) (hc : cls c = 4) : variorumref05_escape.f s (i : Int) = some (escd d).isSome := by
  obtain ⟨h1, h2, h3⟩ := bt_at h
  obtain ⟨h4, h5, _⟩ := bt_at h3
  unfold variorumref05_escape.f
  rw [if_pos (by omega), if_pos (by omega), h2, if_pos ((is92 c).2 hc), wrap_succ (by omega), if_pos (by omega), if_pos (by omega), h5, special_t, ← escd_t]
  by_cases hd : cls d = 2 ∨ cls d = 3 ∨ cls d = 4
  · simp [hd]
  · have e : (((d.toNat : Int)) == 45) = decide (d = 45) := by
      rw [Bool.eq_iff_iff, beq_iff_eq, decide_eq_true_iff]; exact is45 d
    simp only [hd, Option.bind_some, decide_false, Bool.false_or, e]
    rfl
theorem rword_loop {s : ByteArray} (hs : s.size ≤ 10000000) : ∀ (n i : Nat) (o : ByteArray), s.size ≤ i + n → i ≤ s.size → o.size ≤ i →
    Ev (fun k => variorumref05_word.l0 k s (i : Int) o) (o ++ ⟨(wordL (s.data.toList.drop i)).1.toArray⟩, ((s.size - (wordL (s.data.toList.drop i)).2.1.length : Nat) : Int)) := by
  intro n
  have stop : ∀ (i : Nat) (o : ByteArray) (c : UInt8) (r : List UInt8) (b : Bool), s.data.toList.drop i = c :: r → wordL (c :: r) = ([], c :: r, b) → variorumref05_escape.f s (i : Int) = some false → ¬ cls c = 0 →
      Ev (fun k => variorumref05_word.l0 k s (i : Int) o) (o ++ ⟨(wordL (c :: r)).1.toArray⟩, ((s.size - (wordL (c :: r)).2.1.length : Nat) : Int)) := by
    intro i o c r b h hw he h0
    obtain ⟨h1, h2, h3⟩ := bt_at h
    have hl := drop_len s i
    rw [h] at hl
    rw [hw]
    simp only
    rw [ba_nil, show s.size - (c :: r).length = i by omega]
    refine Ev.step (f := fun _ => some (o, (i : Int))) (fun k => ?_) (Ev.now _)
    simp only [variorumref05_word.l0]
    rw [if_pos (by omega), he, Option.bind_some, if_neg (by decide), if_pos (by omega), h2, special_t, blank_t]
    by_cases hsp : cls c = 2 ∨ cls c = 3 ∨ cls c = 4
    · rw [decide_eq_true hsp, Option.bind_some, if_pos rfl]
    · have := cls_five c
      have h1 : cls c = 1 := by omega
      rw [decide_eq_false hsp, Option.bind_some, if_neg (by decide), decide_eq_true h1, Option.bind_some, if_pos rfl]
  induction n with
  | zero =>
    intro i o hn hi ho
    have hd : s.data.toList.drop i = [] := List.drop_of_length_le (by rw [← Lib.size_eq]; omega)
    rw [hd, w_nil]
    simp only
    rw [ba_nil, List.length_nil, show s.size - 0 = i by omega]
    refine Ev.step (f := fun _ => some (o, (i : Int))) (fun k => ?_) (Ev.now _)
    simp only [variorumref05_word.l0]
    rw [if_neg (by omega)]
  | succ n ih =>
    intro i o hn hi ho
    cases h : s.data.toList.drop i with
    | nil =>
      have := at_end h
      rw [w_nil]
      simp only
      rw [ba_nil, List.length_nil, show s.size - 0 = i by omega]
      refine Ev.step (f := fun _ => some (o, (i : Int))) (fun k => ?_) (Ev.now _)
      simp only [variorumref05_word.l0]
      rw [if_neg (by omega)]
    | cons c r =>
      obtain ⟨h1, h2, h3⟩ := bt_at h
      by_cases h0 : cls c = 0
      · have he := escape_not h (by omega)
        have h4 := ih (i + 1) (o ++ ⟨#[c]⟩) (by omega) (by omega) (by rw [app_size]; show o.size + 1 ≤ _; omega)
        rw [h3, ba_app, ← wrap_succ (show i ≤ 1000000000000000 by omega)] at h4
        rw [w_plain h0]
        refine Ev.step (fun k => ?_) h4
        simp only [variorumref05_word.l0]
        have g1 : (i : Int) < (s.size : Int) := by omega
        have g2 : (0 : Int) ≤ (i : Int) := by omega
        have e1 : decide (cls c = 2 ∨ cls c = 3 ∨ cls c = 4) = false := decide_eq_false (by omega)
        have e2 : decide (cls c = 1) = false := decide_eq_false (by omega)
        rw [if_pos g1, he, Option.bind_some, if_neg (by decide), if_pos g2, h2, special_t, blank_t, e1, e2, Option.bind_some, if_neg (by decide), Option.bind_some, if_neg (by decide)]
        rw [wrap_succ (by omega), if_pos (by omega), if_pos (by omega), Int.toNat_natCast, Int.toNat_natCast, ext_one h, if_pos (by show o.size + 1 ≤ _; omega)]
      · by_cases h4 : cls c = 4
        · obtain rfl := cls_slash.1 h4
          cases r with
          | nil => exact stop i o 92 [] false h w_end (escape_end hs h h4) h0
          | cons d r =>
            have he := escape_two hs h h4
            by_cases hl : isLetter d = true
            · refine stop i o 92 (d :: r) true h (w_cmd hl) ?_ h0
              rw [he]
              have : ∀ d : UInt8, isLetter d = true → (escd d).isSome = false := all8 (by decide +kernel)
              rw [this d hl]
            · have hl : isLetter d = false := by simpa using hl
              cases hd : escd d with
              | none => exact stop i o 92 (d :: r) false h (w_bad hl hd) (by rw [he, hd]; rfl) h0
              | some t =>
                rw [hd, Option.isSome_some] at he
                obtain ⟨h5, h6, h7⟩ := bt_at h3
                have hts := esc_small hd
                have h8 := ih (i + 1 + 1) (o ++ t) (by omega) (by omega) (by rw [app_size]; omega)
                have hw2 : Aside0 (wrap64 ((i : Int) + 2) = ((i + 1 + 1 : Nat) : Int)) := by
                  refine Aside0.mk ?_
                  have := wrap_add (p := i) (w := 2) (by omega)
                  rw [show i + 1 + 1 = i + 2 by omega, ← this]; rfl
                rw [h7, ba_app, ← hw2.out] at h8
                rw [w_esc hl hd]
                refine Ev.step (fun k => ?_) h8
                simp only [variorumref05_word.l0]
                have g1 : (i : Int) < (s.size : Int) := by omega
                rw [if_pos g1, he, Option.bind_some, if_pos rfl, hw2.out, wrap_succ (by omega), if_pos (by omega), if_pos (by omega), h6]
                rcases escd_some hd with ⟨rfl, e⟩ | ⟨hc, e⟩
                · have ht : t = ⟨#[194, 173]⟩ := ByteArray.ext (Array.toList_inj.1 e)
                  rw [if_pos (by decide), ht, if_pos (by omega)]
                · have ht : t = ⟨#[d]⟩ := ByteArray.ext (Array.toList_inj.1 e)
                  rw [if_neg (fun e => by rw [(is45 d).1 e] at hc; revert hc; decide), if_pos (by omega), if_pos (by omega), Int.toNat_natCast, Int.toNat_natCast, ext_one h3, if_pos (by show o.size + 1 ≤ _; omega), ht]
        · exact stop i o c r true h (w_stop h0 h4) (escape_not h h4) h0
theorem rword_ev {s : ByteArray} (hs : s.size ≤ 10000000) {i : Nat} (hi : i ≤ s.size) :
    Ev (fun k => variorumref05_word.f k s (i : Int)) (⟨(wordL (s.data.toList.drop i)).1.toArray⟩, ((s.size - (wordL (s.data.toList.drop i)).2.1.length : Nat) : Int)) := by
  have := rword_loop hs s.size i ⟨#[]⟩ (by omega) hi (Nat.zero_le _)
  rwa [ba_zero] at this
/-- Where a word's bytes are no escape: there it stays. -/
theorem w_stuck : ∀ (n : Nat) (S : List UInt8), S.length ≤ n → (wordL S).2.2 = false → ∃ c r, (wordL S).2.1 = c :: r ∧ cls c = 4 ∧ isLetter (r.headD 0) = false ∧ wordL (c :: r) = ([], c :: r, false)
  | _, [], _, h => by rw [w_nil] at h; cases h
  | 0, c :: r, h, _ => by simp at h
  | n + 1, c :: r, h, hw => by
    have hr : r.length ≤ n := by simpa using h
    by_cases h0 : cls c = 0
    · rw [w_plain h0] at hw ⊢
      exact w_stuck n r hr hw
    · by_cases h4 : cls c = 4
      · obtain rfl := cls_slash.1 h4
        cases r with
        | nil => rw [w_end]; exact ⟨92, [], rfl, h4, rfl, w_end⟩
        | cons d r =>
          by_cases hl : isLetter d = true
          · rw [w_cmd hl] at hw; cases hw
          · have hl : isLetter d = false := by simpa using hl
            cases he : escd d with
            | none => rw [w_bad hl he]; exact ⟨92, d :: r, rfl, h4, hl, w_bad hl he⟩
            | some t =>
              rw [w_esc hl he] at hw ⊢
              exact w_stuck n r (by simp at hr; omega) hw
      · rw [w_stop h0 h4] at hw; cases hw

/-! ## Lex -/
theorem rl1 {s : ByteArray} (hs : s.size ≤ 10000000) {acc : List S38} {r : List S38 × Int × Int} : ∀ (n i : Nat), s.size ≤ i + n → i ≤ s.size →
    Ev (fun k => variorumref05_Lex.l0 k s acc ((i + rem_ (s.data.toList.drop i) : Nat) : Int)) r → Ev (fun k => variorumref05_Lex.l1 k s acc (i : Int)) r := by
  intro n
  induction n with
  | zero =>
    intro i hn hi h
    have hd : s.data.toList.drop i = [] := List.drop_of_length_le (by rw [← Lib.size_eq]; omega)
    rw [hd] at h
    refine Ev.step (fun k => ?_) h
    simp only [variorumref05_Lex.l1]
    rw [if_neg (by omega)]; rfl
  | succ n ih =>
    intro i hn hi h
    cases hd : s.data.toList.drop i with
    | nil =>
      have := at_end hd
      rw [hd] at h
      refine Ev.step (fun k => ?_) h
      simp only [variorumref05_Lex.l1]
      rw [if_neg (by omega)]; rfl
    | cons c t =>
      obtain ⟨h1, h2, h3⟩ := bt_at hd
      have g1 : (i : Int) < (s.size : Int) := by omega
      have g2 : (0 : Int) ≤ (i : Int) := by omega
      by_cases hc : c = 10
      · subst hc
        rw [hd] at h
        refine Ev.step (fun k => ?_) h
        simp only [variorumref05_Lex.l1]
        rw [if_pos g1, if_pos g2, h2, if_pos (by decide)]; rfl
      · have e : rem_ (c :: t) = 1 + rem_ t := by unfold rem_; rw [List.takeWhile_cons_of_pos (by simpa [notNl] using hc), List.length_cons]; omega
        rw [hd, e, ← Nat.add_assoc, ← h3] at h
        have h4 := ih (i + 1) (by omega) (by omega) h
        rw [← wrap_succ (show i ≤ 1000000000000000 by omega)] at h4
        refine Ev.step (fun k => ?_) h4
        simp only [variorumref05_Lex.l1]
        rw [if_pos g1, if_pos g2, h2, if_neg (fun e => hc ((is10 c).1 e))]
theorem rl2 {s : ByteArray} (hs : s.size ≤ 10000000) {acc : List S38} {r : List S38 × Int × Int} {i : Nat} (hacc : acc.length ≤ i) (his : i < s.size) : ∀ (n j : Nat), s.size ≤ j + n → i + 1 ≤ j → j ≤ s.size →
    Ev (fun k => variorumref05_Lex.l0 k s (acc ++ [(⟨1, s.extract (i + 1) (j + run_ (s.data.toList.drop j)), (i : Int)⟩ : S38)]) ((j + run_ (s.data.toList.drop j) : Nat) : Int)) r → Ev (fun k => variorumref05_Lex.l2 k s acc (i : Int) (j : Int)) r := by
  intro n
  have w1 := Aside0.mk (wrap_succ (p := i) (by omega))
  have g3 : (0 : Int) ≤ ((i + 1 : Nat) : Int) := by omega
  have g6 : acc.length < 4398046511104 := by omega
  have fin : ∀ j : Nat, s.size ≤ j → i + 1 ≤ j → j ≤ s.size →
      Ev (fun k => variorumref05_Lex.l0 k s (acc ++ [(⟨1, s.extract (i + 1) j, (i : Int)⟩ : S38)]) (j : Int)) r → Ev (fun k => variorumref05_Lex.l2 k s acc (i : Int) (j : Int)) r := by
    intro j h1 h2 h3 h
    refine Ev.step (fun k => ?_) h
    simp only [variorumref05_Lex.l2]
    rw [if_neg (by omega), w1.out, if_pos g3, if_pos (by omega), if_pos (by omega), if_pos g6, Int.toNat_natCast, Int.toNat_natCast]
  induction n with
  | zero =>
    intro j hn hj hi h
    have hd : s.data.toList.drop j = [] := List.drop_of_length_le (by rw [← Lib.size_eq]; omega)
    rw [hd, show run_ ([] : List UInt8) = 0 from rfl, show j + 0 = j from rfl] at h
    exact fin j (by omega) hj hi h
  | succ n ih =>
    intro j hn hj hi h
    cases hd : s.data.toList.drop j with
    | nil => rw [hd, show run_ ([] : List UInt8) = 0 from rfl, show j + 0 = j from rfl] at h; exact fin j (at_end hd) hj hi h
    | cons c t =>
      obtain ⟨h1, h2, h3⟩ := bt_at hd
      have g1 : (j : Int) < (s.size : Int) := by omega
      have g2 : (0 : Int) ≤ (j : Int) := by omega
      by_cases hc : isLetter c = true
      · have e : run_ (c :: t) = 1 + run_ t := by unfold run_; rw [List.takeWhile_cons_of_pos hc, List.length_cons]; omega
        rw [hd, e, ← Nat.add_assoc, ← h3] at h
        have h4 := ih (j + 1) (by omega) (by omega) (by omega) h
        rw [← wrap_succ (show j ≤ 1000000000000000 by omega)] at h4
        refine Ev.step (fun k => ?_) h4
        simp only [variorumref05_Lex.l2]
        rw [if_pos g1, if_pos g2, h2, letter_t, hc, Option.bind_some, if_pos rfl]
      · have hc : isLetter c = false := by simpa using hc
        have e : run_ (c :: t) = 0 := by unfold run_; rw [List.takeWhile_cons_of_neg (by rw [hc]; decide)]; rfl
        rw [hd, e, show j + 0 = j from rfl] at h
        refine Ev.step (fun k => ?_) h
        simp only [variorumref05_Lex.l2]
        rw [if_pos g1, if_pos g2, h2, letter_t, hc, Option.bind_some, if_neg (by decide)]
        rw [w1.out, if_pos g3, if_pos (by omega), if_pos (by omega), if_pos g6, Int.toNat_natCast, Int.toNat_natCast]
/-- What reading comes to, behind the tokens that are there. -/
def rres (acc : List S38) (x : List Tok × Option Nat) : List S38 × Int × Int := match x.2 with
  | none => (acc ++ x.1.map tokS, 0, 0)
  | some q => ([], 50, (q : Int))
theorem rres_cons (acc : List S38) (t : Tok) (x : List Tok × Option Nat) : rres acc (t :: x.1, x.2) = rres (acc ++ [tokS t]) x := by
  unfold rres
  cases x.2 with
  | none => simp
  | some q => rfl
theorem rlex_loop {s : ByteArray} (hs : s.size ≤ 10000000) : ∀ (n i : Nat) (acc : List S38), s.size ≤ i + n → i ≤ s.size → acc.length ≤ i →
    Ev (fun k => variorumref05_Lex.l0 k s acc (i : Int)) (rres acc (lexK (n + 1) i (s.data.toList.drop i))) := by
  intro n
  have done : ∀ (m i : Nat) (acc : List S38), i ≤ s.size → s.data.toList.drop i = [] → Ev (fun k => variorumref05_Lex.l0 k s acc (i : Int)) (rres acc (lexK (m + 1) i [])) := by
    intro m i acc hi h
    have := at_end h
    rw [lx_nil]
    unfold rres
    simp only [List.map_nil, List.append_nil]
    refine Ev.step (f := fun _ => some (acc, 0, 0)) (fun k => ?_) (Ev.now _)
    simp only [variorumref05_Lex.l0]
    rw [if_neg (by omega)]
  induction n with
  | zero =>
    intro i acc hn hi hacc
    have hd : s.data.toList.drop i = [] := List.drop_of_length_le (by rw [← Lib.size_eq]; omega)
    rw [hd]
    exact done 0 i acc hi hd
  | succ n ih =>
    intro i acc hn hi hacc
    cases hd : s.data.toList.drop i with
    | nil => exact done _ i acc hi hd
    | cons c r =>
      obtain ⟨h1, h2, h3⟩ := bt_at hd
      have hl := drop_len s i
      rw [hd] at hl
      have g1 : (i : Int) < (s.size : Int) := by omega
      have g2 : (0 : Int) ≤ (i : Int) := by omega
      have g3 : acc.length < 4398046511104 := by omega
      have head : ∀ {R : List S38 × Int × Int}, ¬ cls c = 1 → ¬ cls c = 2 → Ev (fun k => variorumref05_Lex.j2 k s acc (i : Int) (decide (cls c = 3))) R → Ev (fun k => variorumref05_Lex.l0 k s acc (i : Int)) R := by
        intro R hc1 hc2 h
        refine Ev.step (fun k => ?_) h
        simp only [variorumref05_Lex.l0]
        have e1 : decide (cls c = 1) = false := decide_eq_false hc1
        rw [if_pos g1, if_pos g2, h2, blank_t, e1, Option.bind_some, if_neg (by decide)]
        rw [if_neg (fun e => hc2 ((is37 c).1 e))]
        by_cases e2 : c = 123
        · subst e2; rw [if_pos (by decide)]; rfl
        · rw [if_neg (fun e => e2 ((is123 c).1 e))]
          have e3 : ((c.toNat : Int) == 125) = decide (cls c = 3) := by
            rw [Bool.eq_iff_iff, beq_iff_eq, decide_eq_true_iff, is125, cls_brace]
            exact ⟨.inr, fun h => h.resolve_left e2⟩
          rw [e3]
      have word : (cls c = 0 ∨ cls c = 4 ∧ isLetter (r.headD 0) = false) → ∀ {R : List S38 × Int × Int},
          (if (wordL (c :: r)).2.1.length = (c :: r).length then R = ([], 50, (i : Int)) else Ev (fun k => variorumref05_Lex.l0 k s (acc ++ [(⟨0, ⟨(wordL (c :: r)).1.toArray⟩, (i : Int)⟩ : S38)]) ((s.size - (wordL (c :: r)).2.1.length : Nat) : Int)) R) →
          Ev (fun k => variorumref05_Lex.l0 k s acc (i : Int)) R := by
        intro hc R h
        have hsx := (w_suffix _ (c :: r) (Nat.le_refl _)).length_le
        refine head (by omega) (by omega) ?_
        have e3 : decide (cls c = 3) = false := decide_eq_false (by omega)
        have e4 : decide (cls c = 4 ∧ isLetter (r.headD 0) = true) = false := decide_eq_false (by
          rintro ⟨a, b⟩
          rcases hc with hc | hc
          · omega
          · rw [hc.2] at b; cases b)
        rw [e3]
        have hw := rword_ev hs hi
        rw [hd] at hw
        refine Ev.step (f := fun k => (variorumref05_word.f k s (i : Int)).bind fun bt167 => (if bt167.2 = (i : Int) then (some (([] : List (S38)), 50, (i : Int))) else (if acc.length < 4398046511104 then (variorumref05_Lex.l0 k s (acc ++ [(⟨0, bt167.1, (i : Int)⟩ : S38)]) bt167.2) else (none)))) (fun k => ?_) (Ev.bind hw ?_)
        · simp only [variorumref05_Lex.j2]
          rw [if_neg (by decide), command_t hs hd, e4, Option.bind_some, if_neg (by decide)]
        · simp only [if_pos g3]
          by_cases e : (wordL (c :: r)).2.1.length = (c :: r).length
          · rw [if_pos e] at h
            rw [h]
            have e5 : ((s.size - (wordL (c :: r)).2.1.length : Nat) : Int) = (i : Int) := by rw [e]; omega
            simp only [if_pos e5]
            exact Ev.now _
          · rw [if_neg e] at h
            have e5 : ¬ ((s.size - (wordL (c :: r)).2.1.length : Nat) : Int) = (i : Int) := by omega
            simp only [if_neg e5]
            exact h
      rcases cls_five c with c0 | c1 | c2 | c3 | c4
      rotate_left
      · rw [lx_blank c1]
        have h4 := ih (i + 1) acc (by omega) (by omega) (by omega)
        rw [h3, ← wrap_succ (show i ≤ 1000000000000000 by omega)] at h4
        refine Ev.step (fun k => ?_) h4
        simp only [variorumref05_Lex.l0]
        have e1 : decide (cls c = 1) = true := decide_eq_true c1
        rw [if_pos g1, if_pos g2, h2, blank_t, e1, Option.bind_some, if_pos rfl]
      · rw [lx_rem c2]
        have hp := rem_pos (r := r) c2
        have hle := rem_le (c :: r)
        have h4 := ih (i + rem_ (c :: r)) acc (by omega) (by omega) (by omega)
        rw [← List.drop_drop, hd] at h4
        rw [← hd] at h4
        have h5 := rl1 hs s.size i (by omega) hi h4
        rw [hd] at h5
        refine Ev.step (fun k => ?_) h5
        simp only [variorumref05_Lex.l0]
        have e1 : decide (cls c = 1) = false := decide_eq_false (by omega)
        rw [if_pos g1, if_pos g2, h2, blank_t, e1, Option.bind_some, if_neg (by decide)]
        rw [if_pos ((is37 c).2 c2)]
      · rw [lx_brace c3, rres_cons]
        have h4 := ih (i + 1) (acc ++ [tokS (if c = 125 then 3 else 2, [], i)]) (by omega) (by omega) (by rw [List.length_append]; show acc.length + 1 ≤ _; omega)
        rw [h3, ← wrap_succ (show i ≤ 1000000000000000 by omega)] at h4
        refine head (by omega) (by omega) ?_
        have e3 : decide (cls c = 3) = true := decide_eq_true c3
        rw [e3]
        refine Ev.step (fun k => ?_) h4
        simp only [variorumref05_Lex.j2]
        rw [if_pos trivial, if_pos g2, if_pos g1, h2]
        by_cases e : c = 125
        · rw [if_pos ((is125 c).2 e), if_pos g3, if_pos e]; rfl
        · rw [if_neg (fun e2 => e ((is125 c).1 e2)), if_pos g3, if_neg e]; rfl
      all_goals
        by_cases hcm : cls c = 4 ∧ isLetter (r.headD 0) = true
        · rw [lx_cmd hcm.1 hcm.2, rres_cons]
          have hle := run_le r
          have hrl : r.length + 1 = s.size - i := hl
          have h4 := ih (i + 1 + run_ r) (acc ++ [tokS (1, r.take (run_ r), i)]) (by omega) (by omega) (by rw [List.length_append]; show acc.length + 1 ≤ _; omega)
          rw [← List.drop_drop, h3] at h4
          have et : tokS (1, r.take (run_ r), i) = (⟨1, s.extract (i + 1) (i + 1 + run_ (s.data.toList.drop (i + 1))), (i : Int)⟩ : S38) := by
            rw [h3, ext_str, h3, Nat.add_sub_cancel_left]; rfl
          rw [et] at h4 ⊢
          have h5 := rl2 (r := rres (acc ++ [(⟨1, s.extract (i + 1) (i + 1 + run_ (s.data.toList.drop (i + 1))), (i : Int)⟩ : S38)]) (lexK (n + 1) (i + 1 + run_ r) (r.drop (run_ r)))) hs hacc h1 s.size (i + 1) (by omega) (Nat.le_refl _) (by omega) (by
            rw [h3] at h4 ⊢; exact h4)
          rw [← wrap_succ (show i ≤ 1000000000000000 by omega)] at h5
          refine head (by omega) (by omega) ?_
          have e3 : decide (cls c = 3) = false := decide_eq_false (by omega)
          have e4 : decide (cls c = 4 ∧ isLetter (r.headD 0) = true) = true := decide_eq_true hcm
          rw [e3]
          refine Ev.step (fun k => ?_) h5
          simp only [variorumref05_Lex.j2]
          rw [if_neg (by decide), command_t hs hd, e4, Option.bind_some, if_pos rfl]
        · have hc : cls c = 0 ∨ cls c = 4 ∧ isLetter (r.headD 0) = false := by
            first
            | exact .inl c0
            | (refine .inr ⟨c4, ?_⟩
               cases hb : isLetter (r.headD 0) with
               | true => exact absurd ⟨c4, hb⟩ hcm
               | false => rfl)
          have hsx := (w_suffix _ (c :: r) (Nat.le_refl _))
          have hsl := hsx.length_le
          have hdrop : s.data.toList.drop (i + ((c :: r).length - (wordL (c :: r)).2.1.length)) = (wordL (c :: r)).2.1 := by
            rw [← List.drop_drop, hd, suffix_drop hsx]
          have hpos : s.size - (wordL (c :: r)).2.1.length = i + ((c :: r).length - (wordL (c :: r)).2.1.length) := by omega
          refine word hc ?_
          cases hw : (wordL (c :: r)).2.2 with
          | true =>
            have hlt := w_lt hc hw
            rw [if_neg (by omega), lx_word hc hw, rres_cons]
            have h4 := ih (i + ((c :: r).length - (wordL (c :: r)).2.1.length)) (acc ++ [tokS (0, (wordL (c :: r)).1, i)]) (by omega) (by omega) (by rw [List.length_append]; show acc.length + 1 ≤ _; omega)
            rw [hdrop, ← hpos] at h4
            rw [← hpos]
            exact h4
          | false =>
            rw [lx_fail hc hw]
            by_cases e : (wordL (c :: r)).2.1.length = (c :: r).length
            · rw [if_pos e, e, Nat.sub_self]; rfl
            · rw [if_neg e]
              have h4 := ih (i + ((c :: r).length - (wordL (c :: r)).2.1.length)) (acc ++ [tokS (0, (wordL (c :: r)).1, i)]) (by omega) (by omega) (by rw [List.length_append]; show acc.length + 1 ≤ _; omega)
              obtain ⟨c', r', e1, e2, e3, e4⟩ := w_stuck _ (c :: r) (Nat.le_refl _) hw
              rw [hdrop, ← hpos, e1, lx_fail (.inr ⟨e2, e3⟩) (by rw [e4]), e4] at h4
              simp only [Nat.sub_self, Nat.add_zero] at h4
              rw [← hpos, e1]
              exact h4
/-- Both read the same. -/
theorem lex_both (s : ByteArray) (hs : s.size ≤ 10000000) : ∃ r : List S38 × Int × Int, Ev (fun k => lexer_Lex.f k s) r ∧ Ev (fun k => variorumref05_Lex.f k s) r ∧ r.1.length ≤ s.size := by
  obtain ⟨d, hd, hd', h⟩ := dec_any s (by omega)
  have go : ∀ r, (if d.2.1 = 0 then some (lexer_Lex.out s) else some ([], d.2.1, d.2.2)) = some r → Ev (fun k => lexer_Lex.f k s) r := by
    intro r hr
    refine Ev.congr (f := fun k => (utf_Decode.f k s).bind fun d => if d.2.1 = 0 then some (lexer_Lex.out s) else some ([], d.2.1, d.2.2)) (fun k => ?_) (Ev.bind hd ?_)
    · unfold lexer_Lex.f; rw [if_pos (by omega)]
    · rw [hr]; exact Ev.now _
  by_cases h0 : d.2.1 = 0
  · refine ⟨lexer_Lex.out s, go _ (if_pos h0), ?_, ?_⟩
    · unfold variorumref05_Lex.f
      refine Ev.bind hd' ?_
      simp only [if_pos h0]
      have := rlex_loop hs s.size 0 [] (by omega) (by omega) (Nat.zero_le _)
      rw [List.drop_zero] at this
      have e : rres [] (lexK (s.size + 1) 0 s.data.toList) = lexer_Lex.out s := by
        unfold rres lexer_Lex.out
        cases (lexK (s.size + 1) 0 s.data.toList).2 <;> rfl
      rw [e] at this
      exact this
    · have hlen : s.data.toList.length = s.size := (Lib.size_eq s).symm
      unfold lexer_Lex.out
      cases e : (lexK (s.size + 1) 0 s.data.toList).2 with
      | none =>
        have := rd_len (lex_rd s.size 0 _ _ (by omega) (Prod.ext rfl e))
        rw [hlen] at this
        simp only [List.length_map]
        exact this
      | some q => exact Nat.zero_le _
  · refine ⟨([], d.2.1, d.2.2), go _ (if_neg h0), ?_, Nat.zero_le _⟩
    unfold variorumref05_Lex.f
    refine Ev.bind hd' ?_
    simp only [if_neg h0]
    exact Ev.now _

open Classical
/-! ## May -/
def BadT (f0 : Int) (S : List UInt8) : Prop := (f0 = 0 ∧ ∃ c ∈ S, cls c = 1) ∨ (f0 = 1 ∧ ∃ c ∈ S, isLetter c = false)
theorem rmay_l1 {l : List S38} {i : Nat} {f0 at_ : Int} {x : ByteArray} {b : Bool} (hx : x.size ≤ 10000000) (hi : i ≤ 10000000) (h : Ev (fun k => variorumref05_May.l0 k l ((i + 1 : Nat) : Int)) b) : ∀ (n j : Nat), x.size ≤ j + n → j ≤ x.size →
    Ev (fun k => variorumref05_May.l1 k l (i : Int) (j : Int) f0 x at_) (if BadT f0 (x.data.toList.drop j) then false else b) := by
  intro n
  have done : ∀ j : Nat, x.data.toList.drop j = [] → Ev (fun k => variorumref05_May.l1 k l (i : Int) (j : Int) f0 x at_) (if BadT f0 [] then false else b) := by
    intro j hd
    have := at_end hd
    rw [if_neg (by simp [BadT])]
    rw [← wrap_succ (show i ≤ 1000000000000000 by omega)] at h
    refine Ev.step (fun k => ?_) h
    simp only [variorumref05_May.l1]
    rw [if_neg (by omega)]
  induction n with
  | zero =>
    intro j hn hj
    have hd : x.data.toList.drop j = [] := List.drop_of_length_le (by rw [← Lib.size_eq]; omega)
    rw [hd]; exact done j hd
  | succ n ih =>
    intro j hn hj
    cases hd : x.data.toList.drop j with
    | nil => exact done j hd
    | cons c r =>
      obtain ⟨h1, h2, h3⟩ := bt_at hd
      have g1 : (j : Int) < (x.size : Int) := by omega
      have g2 : (0 : Int) ≤ (j : Int) := by omega
      have h4 := ih (j + 1) (by omega) (by omega)
      rw [h3, ← wrap_succ (show j ≤ 1000000000000000 by omega)] at h4
      by_cases f00 : f0 = 0
      · by_cases hb : cls c = 1
        · rw [if_pos (.inl ⟨f00, c, List.mem_cons_self, hb⟩)]
          refine Ev.step (f := fun _ => some false) (fun k => ?_) (Ev.now _)
          simp only [variorumref05_May.l1]
          have e1 : decide (cls c = 1) = true := decide_eq_true hb
          rw [if_pos g1, if_pos f00, if_pos g2, h2, blank_t, e1, Option.bind_some, if_pos rfl]
        · have e : BadT f0 (c :: r) = BadT f0 r := by
            simp [BadT, f00, hb]
          rw [e]
          refine Ev.step (fun k => ?_) h4
          simp only [variorumref05_May.l1]
          have e1 : decide (cls c = 1) = false := decide_eq_false hb
          rw [if_pos g1, if_pos f00, if_pos g2, h2, blank_t, e1, Option.bind_some, if_neg (by decide)]
          rw [if_neg (by omega)]
      · by_cases f01 : f0 = 1
        · by_cases hb : isLetter c = true
          · have e : BadT f0 (c :: r) = BadT f0 r := by
              simp [BadT, f01, hb]
            rw [e]
            refine Ev.step (fun k => ?_) h4
            simp only [variorumref05_May.l1]
            rw [if_pos g1, if_neg f00, if_pos f01, if_pos g2, h2, letter_t, hb, Option.bind_some, if_pos rfl]
          · have hb : isLetter c = false := by simpa using hb
            rw [if_pos (.inr ⟨f01, c, List.mem_cons_self, hb⟩)]
            refine Ev.step (f := fun _ => some false) (fun k => ?_) (Ev.now _)
            simp only [variorumref05_May.l1]
            rw [if_pos g1, if_neg f00, if_pos f01, if_pos g2, h2, letter_t, hb, Option.bind_some, if_neg (by decide)]
        · have e : BadT f0 (c :: r) = BadT f0 r := by
            simp [BadT, f00, f01]
          rw [e]
          refine Ev.step (fun k => ?_) h4
          simp only [variorumref05_May.l1]
          rw [if_pos g1, if_neg f00, if_neg f01]
theorem rmay_loop {l : List S38} (hl : l.length ≤ 10000000) (ht : ∀ t ∈ l, t.f1.size ≤ 10000000) : ∀ (d i : Nat), i + d = l.length → Ev (fun k => variorumref05_May.l0 k l (i : Int)) (decide (MayP (l.drop i))) := by
  intro d
  induction d with
  | zero =>
    intro i hi
    rw [List.drop_of_length_le (by omega), show decide (MayP []) = true from decide_eq_true (fun t h => by cases h)]
    refine Ev.step (f := fun _ => some true) (fun k => ?_) (Ev.now _)
    simp only [variorumref05_May.l0]
    rw [if_neg (by omega)]
  | succ d ih =>
    intro i hi
    have hil : i < l.length := by omega
    have h := ih (i + 1) (by omega)
    obtain ⟨t, hti⟩ : ∃ t, l[i] = t := ⟨_, rfl⟩
    have hts := ht t (by rw [← hti]; exact List.getElem_mem _)
    have e0 : decide (MayP (l.drop i)) = (decide (FineS t) && decide (MayP (l.drop (i + 1)))) := by
      rw [List.drop_eq_getElem_cons hil, hti, Bool.eq_iff_iff, Bool.and_eq_true, decide_eq_true_iff, decide_eq_true_iff, decide_eq_true_iff]
      exact ⟨fun h => ⟨h t List.mem_cons_self, fun u hu => h u (List.mem_cons_of_mem _ hu)⟩, fun h u hu => by
        rcases List.mem_cons.1 hu with rfl | hu
        · exact h.1
        · exact h.2 u hu⟩
    rw [e0]
    have g1 : (i : Int) < (l.length : Int) := by omega
    have g2 : (0 : Int) ≤ (i : Int) := by omega
    have hrd : rd_T38 l (i : Int) = t := by rw [rd_at hil, hti]
    have tl : (t.f1.toList = ([] : List UInt8)) ↔ tx t = [] := by rw [ByteArray.toList_eq]
    have bad : ¬ FineS t → Ev (fun k => variorumref05_May.j1 k l (i : Int) true t.f0 t.f1 t.f2) (decide (FineS t) && decide (MayP (l.drop (i + 1)))) := by
      intro hf
      rw [decide_eq_false hf, Bool.false_and]
      refine Ev.step (f := fun _ => some false) (fun k => ?_) (Ev.now _)
      simp only [variorumref05_May.j1, if_true]
    have good : (tx t = [] → 2 ≤ t.f0 ∧ t.f0 ≤ 3) → 0 ≤ t.f0 → t.f0 ≤ 3 → (1 < t.f0 → tx t = []) → Ev (fun k => variorumref05_May.j1 k l (i : Int) false t.f0 t.f1 t.f2) (decide (FineS t) && decide (MayP (l.drop (i + 1)))) := by
      intro hne hge hle hem
      obtain ⟨dd, _, hd', hv⟩ := dec_any t.f1 (by omega)
      refine Ev.step (f := fun k => (variorumref04_Decode.f k t.f1).bind fun bt213 => (if bt213.2.1 = 0 then (variorumref05_May.l1 k l (i : Int) 0 t.f0 t.f1 t.f2) else (some false))) (fun k => ?_) (Ev.bind hd' ?_)
      · simp only [variorumref05_May.j1, Bool.false_eq_true, if_false]
      · rcases hv with ⟨hv, h1, _⟩ | ⟨hv, h1, _⟩
        · simp only [if_pos h1]
          have h2 := rmay_l1 (f0 := t.f0) (at_ := t.f2) (x := t.f1) hts (by omega) h t.f1.size 0 (by omega) (Nat.zero_le _)
          rw [List.drop_zero] at h2
          have e : (if BadT t.f0 t.f1.data.toList then false else decide (MayP (l.drop (i + 1)))) = (decide (FineS t) && decide (MayP (l.drop (i + 1)))) := by
            by_cases hF : FineS t
            · rw [decide_eq_true hF, Bool.true_and, if_neg]
              rintro (⟨a, c, hc, hb⟩ | ⟨a, c, hc, hb⟩)
              · rcases hF with ⟨_, _, _, h3⟩ | ⟨h3, _⟩ | ⟨h3, _⟩
                · exact h3 c hc hb
                · omega
                · omega
              · rcases hF with ⟨h3, _⟩ | ⟨_, _, h3⟩ | ⟨h3, _⟩
                · omega
                · rw [h3 c hc] at hb; cases hb
                · omega
            · rw [decide_eq_false hF, Bool.false_and]
              by_cases hp : BadT t.f0 t.f1.data.toList
              · rw [if_pos hp]
              · exfalso
                apply hF
                by_cases c0 : t.f0 = 0
                · exact .inl ⟨c0, fun e => by have := hne e; omega, hv, fun c hc hb => hp (.inl ⟨c0, c, hc, hb⟩)⟩
                · by_cases c1 : t.f0 = 1
                  · refine .inr (.inl ⟨c1, fun e => by have := hne e; omega, fun c hc => ?_⟩)
                    cases hb : isLetter c with
                    | true => rfl
                    | false => exact absurd (.inr ⟨c1, c, hc, hb⟩) hp
                  · exact .inr (.inr ⟨by omega, hem (by omega)⟩)
          rw [e] at h2
          exact h2
        · have h1' : ¬ dd.2.1 = 0 := by omega
          simp only [if_neg h1']
          have hF : ¬ FineS t := by
            rintro (⟨_, _, h3, _⟩ | ⟨_, _, h3⟩ | ⟨_, h3⟩)
            · exact hv h3
            · exact hv (V.low fun c hc => letter_low (h3 c hc))
            · exact hv (by rw [show t.f1.data.toList = [] from h3]; exact V.nil)
          rw [decide_eq_false hF, Bool.false_and]
          exact Ev.now _
    by_cases c1 : t.f0 < 0
    · refine Ev.step (fun k => ?_) (bad (by rintro (⟨h, _⟩ | ⟨h, _⟩ | ⟨h, _⟩) <;> omega))
      simp only [variorumref05_May.l0]
      rw [if_pos g1, if_pos g2, hrd, if_pos c1]
    · by_cases c2 : t.f0 > 3
      · refine Ev.step (fun k => ?_) (bad (by rintro (⟨h, _⟩ | ⟨h, _⟩ | ⟨h, _⟩) <;> omega))
        simp only [variorumref05_May.l0]
        rw [if_pos g1, if_pos g2, hrd, if_neg c1, if_pos c2]
      · by_cases c3 : t.f0 > 1
        · by_cases c4 : tx t = []
          · refine Ev.step (fun k => ?_) (good (fun _ => ⟨by omega, by omega⟩) (by omega) (by omega) (fun _ => c4))
            simp only [variorumref05_May.l0]
            rw [if_pos g1, if_pos g2, hrd, if_neg c1, if_neg c2, if_pos c3, if_pos (tl.2 c4), if_neg (by omega)]
          · refine Ev.step (fun k => ?_) (bad (by
              rintro (⟨h, _⟩ | ⟨h, _⟩ | ⟨_, h⟩)
              · omega
              · omega
              · exact c4 h))
            simp only [variorumref05_May.l0]
            rw [if_pos g1, if_pos g2, hrd, if_neg c1, if_neg c2, if_pos c3, if_neg (fun e => c4 (tl.1 e))]
        · by_cases c4 : tx t = []
          · refine Ev.step (fun k => ?_) (bad (by
              rintro (⟨_, h, _⟩ | ⟨_, h, _⟩ | ⟨h, _⟩)
              · exact h c4
              · exact h c4
              · omega))
            simp only [variorumref05_May.l0]
            have e : (t.f1.toList == ([] : List UInt8)) = true := beq_iff_eq.2 (tl.2 c4)
            rw [if_pos g1, if_pos g2, hrd, if_neg c1, if_neg c2, if_neg c3, if_pos (by omega), e]
          · refine Ev.step (fun k => ?_) (good (fun h => absurd h c4) (by omega) (by omega) (fun h => by omega))
            simp only [variorumref05_May.l0]
            have e : (t.f1.toList == ([] : List UInt8)) = false := beq_eq_false_iff_ne.2 (fun e => c4 (tl.1 e))
            rw [if_pos g1, if_pos g2, hrd, if_neg c1, if_neg c2, if_neg c3, if_pos (by omega), e]
theorem rmay_ev {l : List S38} (h : OpenB.bulkOf bk l ≤ 10000000) : Ev (fun k => variorumref05_May.f k l) (decide (MayP l)) := by
  obtain ⟨h1, h2, h3⟩ := bulk_ge l
  have := rmay_loop (l := l) (by omega) (fun t ht => by have := h2 t ht; omega) l.length 0 (by omega)
  rw [List.drop_zero] at this
  exact this

/-! ## Escape -/
theorem resc_loop {s : ByteArray} (hs : s.size ≤ 10000000) : ∀ (n i : Nat) (o : ByteArray), s.size ≤ i + n → i ≤ s.size → o.size ≤ 2 * i →
    Ev (fun k => variorumref05_Escape.l0 k s o (i : Int)) (o ++ ⟨(escL (s.data.toList.drop i)).toArray⟩) := by
  intro n
  have done : ∀ (i : Nat) (o : ByteArray), s.data.toList.drop i = [] → Ev (fun k => variorumref05_Escape.l0 k s o (i : Int)) (o ++ ⟨(escL []).toArray⟩) := by
    intro i o hd
    have := at_end hd
    rw [show escL [] = [] from rfl, ba_nil]
    refine Ev.step (f := fun _ => some o) (fun k => ?_) (Ev.now _)
    simp only [variorumref05_Escape.l0]
    rw [if_neg (by omega)]
  induction n with
  | zero =>
    intro i o hn hi ho
    have hd : s.data.toList.drop i = [] := List.drop_of_length_le (by rw [← Lib.size_eq]; omega)
    rw [hd]; exact done i o hd
  | succ n ih =>
    intro i o hn hi ho
    cases hd : s.data.toList.drop i with
    | nil => exact done i o hd
    | cons c r =>
      obtain ⟨h1, h2, h3⟩ := bt_at hd
      have g1 : (i : Int) < (s.size : Int) := by omega
      have g2 : (0 : Int) ≤ (i : Int) := by omega
      have w1 := Aside0.mk (wrap_succ (p := i) (by omega))
      have nosoft : ∀ {R : ByteArray}, ¬ (c = 194 ∧ r.head? = some 173) → Ev (fun k => variorumref05_Escape.j1 k s o (i : Int) false) R → Ev (fun k => variorumref05_Escape.l0 k s o (i : Int)) R := by
        intro R hn h
        refine Ev.step (fun k => ?_) h
        simp only [variorumref05_Escape.l0]
        rw [if_pos g1, w1.out]
        cases r with
        | nil => have := at_end h3; rw [if_neg (by omega)]
        | cons d r =>
          obtain ⟨h4, h5, _⟩ := bt_at h3
          rw [if_pos (by omega), if_pos g2, h2]
          by_cases e : c = 194
          · rw [if_pos ((is194 c).2 e), if_pos (by omega), h5]
            have : ((d.toNat : Int) == 173) = false := by
              rw [beq_eq_false_iff_ne]
              intro e2
              exact hn ⟨e, by rw [(is173 d).1 e2]; rfl⟩
            rw [this]
          · rw [if_neg (fun e2 => e ((is194 c).1 e2))]
      have ho1 : ∀ x : ByteArray, x.size ≤ 2 → (o ++ x).size ≤ 2 * (i + 1) := fun x hx => by rw [app_size]; omega
      rcases esc_ways c r with ⟨rfl, r', rfl, e⟩ | ⟨hc, e⟩ | ⟨hc, hn2, e⟩
      · obtain ⟨h4, h5, h6⟩ := bt_at h3
        have h7 := ih (i + 1 + 1) (o ++ ⟨#[92, 45]⟩) (by omega) (by omega) (by have := ho1 ⟨#[92, 45]⟩ (by decide); omega)
        rw [h6, ba_app, ← wrap_succ (show i + 1 ≤ 1000000000000000 by omega), ← w1.out] at h7
        rw [e]
        refine Ev.step (f := fun k => variorumref05_Escape.j1 k s o (i : Int) true) (fun k => ?_) (Ev.step (fun k => ?_) h7)
        · simp only [variorumref05_Escape.l0]
          rw [if_pos g1, w1.out, if_pos (by omega), if_pos g2, h2, if_pos (by decide), if_pos (by omega), h5]; rfl
        · simp only [variorumref05_Escape.j1]
          rw [if_pos trivial, if_pos (by omega)]
      · have h7 := ih (i + 1) ((o ++ ⟨#[92]⟩) ++ ⟨#[c]⟩) (by omega) (by omega) (by rw [app_size, app_size]; show o.size + 1 + 1 ≤ _; omega)
        rw [h3, ba_app (o ++ ⟨#[92]⟩) ⟨#[c]⟩ (escL r), ba_app o ⟨#[92]⟩ ((⟨#[c]⟩ : ByteArray).data.toList ++ escL r), ← w1.out] at h7
        rw [e]
        refine nosoft (fun h => by rw [h.1] at hc; revert hc; decide) (Ev.step (fun k => ?_) h7)
        simp only [variorumref05_Escape.j1]
        have e1 : decide (cls c = 2 ∨ cls c = 3 ∨ cls c = 4) = true := decide_eq_true hc
        rw [if_neg (by decide), if_pos g2, if_pos g1, h2, special_t, e1, Option.bind_some, if_pos rfl, if_pos (by omega), w1.out, if_pos (by omega), if_pos (by omega), Int.toNat_natCast, Int.toNat_natCast, ext_one hd, if_pos (by rw [app_size]; show o.size + 1 + 1 ≤ _; omega)]
      · have h7 := ih (i + 1) (o ++ ⟨#[c]⟩) (by omega) (by omega) (by rw [app_size]; show o.size + 1 ≤ _; omega)
        rw [h3, ba_app, ← w1.out] at h7
        rw [e]
        refine nosoft hn2 (Ev.step (fun k => ?_) h7)
        simp only [variorumref05_Escape.j1]
        have e1 : decide (cls c = 2 ∨ cls c = 3 ∨ cls c = 4) = false := decide_eq_false (by omega)
        rw [if_neg (by decide), if_pos g2, if_pos g1, h2, special_t, e1, Option.bind_some, if_neg (by decide)]
        rw [w1.out, if_pos (by omega), if_pos (by omega), Int.toNat_natCast, Int.toNat_natCast, ext_one hd, if_pos (by show o.size + 1 ≤ _; omega)]
theorem resc_ev {s : ByteArray} (hs : s.size ≤ 10000000) : Ev (fun k => variorumref05_Escape.f k s) ⟨(escL s.data.toList).toArray⟩ := by
  have := resc_loop hs s.size 0 ⟨#[]⟩ (by omega) (Nat.zero_le _) (Nat.le_refl _)
  rw [List.drop_zero, ba_zero] at this
  exact this

/-! ## Print -/
def tailL (l : List S38) : List UInt8 := if l = [] then [] else 32 :: printL l
theorem rprint_j1 {l : List S38} (hm : MayP l) (hl : l.length ≤ 10000000) (ht : ∀ t ∈ l, t.f1.size ≤ 10000000) {i : Nat} (hi : i < l.length) (h : ∀ o : ByteArray, o.size + (tailL (l.drop (i + 1))).length ≤ 1000000000 → Ev (fun k => variorumref05_Print.l0 k l o ((i + 1 : Nat) : Int)) (o ++ ⟨(tailL (l.drop (i + 1))).toArray⟩)) (o : ByteArray) (ho : o.size + (printL (l.drop i)).length ≤ 1000000000) :
    Ev (fun k => variorumref05_Print.j1 k l o (i : Int)) (o ++ ⟨(printL (l.drop i)).toArray⟩) := by
  obtain ⟨t, hti⟩ : ∃ t, l[i] = t := ⟨_, rfl⟩
  have hmem : t ∈ l := by rw [← hti]; exact List.getElem_mem _
  have hts := ht t hmem
  have e0 : printL (l.drop i) = (pieceS t).data.toList ++ tailL (l.drop (i + 1)) := by
    rw [List.drop_eq_getElem_cons hi, hti, print_cons]; rfl
  rw [e0, List.length_append] at ho
  have hps : (pieceS t).size = (pieceS t).data.toList.length := size_list _
  have h1 := h (o ++ pieceS t) (by rw [app_size]; omega)
  rw [e0, ← ba_app]
  have hrd : rd_T38 l (i : Int) = t := by rw [rd_at hi, hti]
  have g1 : (i : Int) < (l.length : Int) := by omega
  have g2 : (0 : Int) ≤ (i : Int) := by omega
  have w1 := Aside0.mk (wrap_succ (p := i) (by omega))
  rw [← w1.out] at h1
  rcases hm t hmem with ⟨k0, _⟩ | ⟨k0, _⟩ | ⟨k0 | k0, _⟩
  · have he := resc_ev hts
    have ep : pieceS t = ⟨(escL t.f1.data.toList).toArray⟩ := by unfold pieceS; rw [if_pos k0]
    rw [ep] at h1 hps ho ⊢
    refine Ev.step (f := fun k => (variorumref05_Escape.f k t.f1).bind fun t226 => (if o.size + t226.size ≤ 9223372036854775807 then (variorumref05_Print.l0 k l (o ++ t226) (wrap64 ((i : Int) + 1))) else (none))) (fun k => ?_) (Ev.bind he ?_)
    · simp only [variorumref05_Print.j1]
      rw [if_pos g2, if_pos g1, hrd, if_pos k0]
    · have g3 : o.size + (⟨(escL t.f1.data.toList).toArray⟩ : ByteArray).size ≤ 9223372036854775807 := by rw [hps]; omega
      simp only [if_pos g3]
      exact h1
  · have ep : pieceS t = ⟨#[92]⟩ ++ t.f1 := by unfold pieceS; rw [if_neg (by omega), if_pos k0]
    rw [ep] at h1 hps ho ⊢
    refine Ev.step (fun k => ?_) h1
    simp only [variorumref05_Print.j1]
    rw [if_pos g2, if_pos g1, hrd, if_neg (by omega), if_pos k0, if_pos (by omega), if_pos (by rw [hps]; omega)]
  · have ep : pieceS t = ⟨#[123]⟩ := by unfold pieceS; rw [if_neg (by omega), if_neg (by omega), if_pos k0]
    rw [ep] at h1 hps ho ⊢
    refine Ev.step (fun k => ?_) h1
    simp only [variorumref05_Print.j1]
    rw [if_pos g2, if_pos g1, hrd, if_neg (by omega), if_neg (by omega), if_pos k0, if_pos (by omega)]
  · have ep : pieceS t = ⟨#[125]⟩ := by unfold pieceS; rw [if_neg (by omega), if_neg (by omega), if_neg (by omega)]
    rw [ep] at h1 hps ho ⊢
    refine Ev.step (fun k => ?_) h1
    simp only [variorumref05_Print.j1]
    rw [if_pos g2, if_pos g1, hrd, if_neg (by omega), if_neg (by omega), if_neg (by omega), if_pos k0, if_pos (by omega)]
theorem rprint_loop {l : List S38} (hm : MayP l) (hl : l.length ≤ 10000000) (ht : ∀ t ∈ l, t.f1.size ≤ 10000000) : ∀ (d i : Nat), i + d = l.length → 0 < i → ∀ o : ByteArray, o.size + (tailL (l.drop i)).length ≤ 1000000000 →
    Ev (fun k => variorumref05_Print.l0 k l o (i : Int)) (o ++ ⟨(tailL (l.drop i)).toArray⟩) := by
  intro d
  induction d with
  | zero =>
    intro i hi h0 o ho
    rw [List.drop_of_length_le (by omega), show tailL [] = [] from rfl, ba_nil]
    refine Ev.step (f := fun _ => some o) (fun k => ?_) (Ev.now _)
    simp only [variorumref05_Print.l0]
    rw [if_neg (by omega)]
  | succ d ih =>
    intro i hi h0 o ho
    have hil : i < l.length := by omega
    have e : tailL (l.drop i) = 32 :: printL (l.drop i) := by
      unfold tailL
      rw [if_neg (by
        intro e2
        have := congrArg List.length e2
        rw [List.length_drop, List.length_nil] at this
        omega)]
    rw [e, List.length_cons] at ho
    have h1 := rprint_j1 hm hl ht hil (fun o ho => ih (i + 1) (by omega) (by omega) o ho) (o ++ ⟨#[32]⟩) (by rw [app_size]; show o.size + 1 + _ ≤ _; omega)
    rw [ba_app] at h1
    rw [e]
    refine Ev.step (fun k => ?_) h1
    simp only [variorumref05_Print.l0]
    rw [if_pos (by omega), if_pos (by omega), if_pos (by omega)]
theorem rprint_ev {l : List S38} (h : OpenB.bulkOf bk l ≤ 10000000) : Ev (fun k => variorumref05_Print.f k l) (if MayP l then ⟨(printL l).toArray⟩ else ⟨#[]⟩) := by
  obtain ⟨h1, h2, h3⟩ := bulk_ge l
  unfold variorumref05_Print.f
  refine Ev.bind (rmay_ev h) ?_
  by_cases hm : MayP l
  · simp only [decide_eq_true hm, if_true, if_pos hm]
    have ht : ∀ t ∈ l, t.f1.size ≤ 10000000 := fun t ht => by have := h2 t ht; omega
    cases l with
    | nil =>
      refine Ev.step (f := fun _ => some (⟨#[]⟩ : ByteArray)) (fun k => ?_) (by rw [show printL [] = [] by simp [printL, Lib.join_nil]]; exact Ev.now _)
      simp only [variorumref05_Print.l0]
      rw [if_neg (by simp)]
    | cons t r =>
      have h4 := rprint_j1 hm (by omega) ht (i := 0) (by simp) (fun o ho => rprint_loop hm (by omega) ht ((t :: r).length - 1) (0 + 1) (by simp; omega) (by omega) o ho) ⟨#[]⟩ (by rw [List.drop_zero]; show 0 + _ ≤ _; omega)
      rw [List.drop_zero, ba_zero] at h4
      refine Ev.step (fun k => ?_) h4
      simp only [variorumref05_Print.l0]
      rw [if_pos (by simp), if_neg (by omega)]; rfl
  · simp only [decide_eq_false hm, if_neg hm]
    exact Ev.now _
end Go.Proofs.YtjiljpddkfcdbaaGreatDoor.Pure

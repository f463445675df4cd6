/- What Lex comes to; the same lists, and lists without places. -/
import Derived.Test.YtjiljpddkfcdbaaGreatDoorPLxx10
import Derived.Test.YtjiljpddkfcdbaaGreatDoorXDec
namespace Go.Proofs.YtjiljpddkfcdbaaGreatDoor.Pure
set_option linter.unusedVariables false
set_option linter.unusedSimpArgs false
open Go Go.RowKit Go.Proofs.YtjiljpddkfcdbaaGreatDoor.PLx Go.Proofs.YtjiljpddkfcdbaaGreatDoorW.PrintWords Go.Proofs.YtjiljpddkfcdbaaGreatDoorW.PrintLast Go.Proofs.YtjiljpddkfcdbaaGreatDoorW.PrintMore Go.Proofs.YtjiljpddkfcdbaaGreatDoor.UMath Go.Proofs.YtjiljpddkfcdbaaGreatDoor.VMath

/-! ## Decode -/
theorem dec_any (s : ByteArray) (hs : s.size ≤ 10000000000000) : ∃ r : List Int × Int × Int, Ev (fun k => utf_Decode.f k s) r ∧ Ev (fun k => variorumref04_Decode.f k s) r ∧
    ((V s.data.toList ∧ r.2.1 = 0 ∧ r.2.2 = 0) ∨ (¬ V s.data.toList ∧ r.2.1 = 40 ∧ ∃ q : Nat, r.2.2 = (q : Int) ∧ q < s.size)) := by
  rcases text s with ⟨cs, ps, h⟩ | ⟨cs, ps, q, h, hq, hb⟩
  · refine ⟨(cs, 0, 0), decode_ok h hs, ?_, .inl ⟨(ls_iff s).1 ⟨cs, ps, h⟩, rfl, rfl⟩⟩
    have := rdecode_ev h (Nat.le_refl _) (fun h => by omega) hs
    rwa [if_neg (by omega)] at this
  · refine ⟨([], 40, (q : Int)), decode_no h hq hb hs, ?_, .inr ⟨fun hv => ?_, rfl, q, rfl, hq⟩⟩
    · have := rdecode_ev h (by omega) (fun _ => hb) hs
      rwa [if_pos hq] at this
    · obtain ⟨ds, qs, h2⟩ := (ls_iff s).2 hv
      have key : ∀ {p : Nat} {cs ps : List Int} {q : Nat}, Ls s p cs ps q → q < s.size → Utf8.decode s q = (65533, 1) → ∀ {ds qs : List Int}, Ls s p ds qs s.size → False := by
        intro p cs ps q h
        induction h with
        | nil p =>
          intro hq hb ds qs h2
          cases h2 with
          | nil => omega
          | cons h0 h1 _ =>
            have := at_not h1
            rw [hb] at this
            exact this ⟨rfl, rfl⟩
        | cons h0 h1 hl ih =>
          intro hq hb ds qs h2
          cases h2 with
          | nil => omega
          | cons h3 h4 h5 =>
            have e := at_dec h1
            rw [at_dec h4] at e
            simp only [Prod.mk.injEq] at e
            rw [e.2] at h5
            exact ih hq hb h5
      exact key h hq hb h2

/-! ## Lex -/
theorem lex_any (s : ByteArray) (hs : s.size ≤ 4000000000000) : ∃ r : List S38 × Int × Int, Ev (fun k => lexer_Lex.f k s) r ∧
    ((V s.data.toList ∧ ∃ l, Rd 0 s.data.toList l ∧ r = (l.map tokS, 0, 0)) ∨ (r.1 = [] ∧ ¬ r.2.1 = 0 ∧ ∃ q : Nat, r.2.2 = (q : Int) ∧ q ≤ s.size)) := by
  obtain ⟨d, hd, _, h⟩ := dec_any s (by omega)
  have go : ∀ r, (if d.2.1 = 0 then some (lexer_Lex.out s) else some ([], d.2.1, d.2.2)) = some r → Ev (fun k => lexer_Lex.f k s) r := by
    intro r hr
    refine Ev.congr (f := fun k => (utf_Decode.f k s).bind fun d => if d.2.1 = 0 then some (lexer_Lex.out s) else some ([], d.2.1, d.2.2)) (fun k => ?_) (Ev.bind hd ?_)
    · unfold lexer_Lex.f; rw [if_pos hs]
    · rw [hr]; exact Ev.now _
  rcases h with ⟨hv, h1, h2⟩ | ⟨hv, h1, q, h2, hq⟩
  · refine ⟨_, go _ (if_pos h1), ?_⟩
    have hlen : s.data.toList.length = s.size := (Lib.size_eq s).symm
    unfold lexer_Lex.out
    cases e : (lexK (s.size + 1) 0 s.data.toList).2 with
    | none => exact .inl ⟨hv, _, lex_rd s.size 0 _ _ (by omega) (Prod.ext rfl e), rfl⟩
    | some q =>
      have := lex_no s.size 0 _ _ q (by omega) (Prod.ext rfl e)
      exact .inr ⟨rfl, show ¬ (50 : Int) = 0 by decide, q, rfl, by omega⟩
  · refine ⟨_, go _ (if_neg (by omega)), .inr ⟨rfl, by show ¬ d.2.1 = 0; omega, q, h2, by omega⟩⟩
theorem lex_ok {s : ByteArray} (hs : s.size ≤ 4000000000000) (hv : V s.data.toList) {l : List Tok} (h : Rd 0 s.data.toList l) : Ev (fun k => lexer_Lex.f k s) (l.map tokS, 0, 0) := by
  obtain ⟨d, hd, _, h2⟩ := dec_any s (by omega)
  rcases h2 with ⟨_, h1, h2⟩ | ⟨hn, _⟩
  · refine Ev.congr (f := fun k => (utf_Decode.f k s).bind fun d => if d.2.1 = 0 then some (lexer_Lex.out s) else some ([], d.2.1, d.2.2)) (fun k => ?_) (Ev.bind hd ?_)
    · unfold lexer_Lex.f; rw [if_pos hs]
    · rw [if_pos h1]
      have hlen : s.data.toList.length = s.size := (Lib.size_eq s).symm
      have := rd_lex h s.size (by omega)
      unfold lexer_Lex.out
      rw [this]
      exact Ev.now _
  · exact absurd hv hn
theorem fixed_ev : Ev (fun k => variorumlaw05_fixed.f k) true := Ev.of variorumlaw05_fixed.mono (k := 30) (by decide +kernel)

/-! ## The same lists -/
theorem same_loop (xs : List S38) (hn : xs.length ≤ 100000000000000) : ∀ (d i : Nat), i + d = xs.length → Ev (fun k => variorumref05_Same.l0 k xs xs (i : Int)) true := by
  intro d
  induction d with
  | zero =>
    intro i hi
    refine Ev.step (f := fun _ => some true) (fun k => ?_) (Ev.now _)
    simp only [variorumref05_Same.l0]; rw [if_neg (by omega)]
  | succ d ih =>
    intro i hi
    have h := ih (i + 1) (by omega)
    rw [← wrap_succ (show i ≤ 1000000000000000 by omega)] at h
    refine Ev.step (fun k => ?_) h
    have g1 : (i : Int) < (xs.length : Int) := by omega
    have g2 : (0 : Int) ≤ (i : Int) := by omega
    simp only [variorumref05_Same.l0]; rw [if_pos g1, if_pos g2]; simp [g1]
theorem same_ev (xs : List S38) (hn : xs.length ≤ 100000000000000) : Ev (fun k => variorumref05_Same.f k xs xs) true := by
  refine Ev.congr (f := fun k => variorumref05_Same.l0 k xs xs ((0 : Nat) : Int)) (fun k => ?_) (same_loop xs hn xs.length 0 (by omega))
  unfold variorumref05_Same.f; rw [if_pos rfl]; rfl
theorem rd_at {xs : List S38} {i : Nat} (h : i < xs.length) : rd_T38 xs (i : Int) = xs[i] := by
  unfold rd_T38; rw [Int.toNat_natCast, List.getD_eq_getElem?_getD, List.getElem?_eq_getElem h]; rfl
/-- A token without its place. -/
def plS (x : S38) : S38 := ⟨x.f0, x.f1, 0⟩
theorem plain_loop (xs : List S38) (hn : xs.length ≤ 1000000000000) : ∀ (d i : Nat), i + d = xs.length → Ev (fun k => variorumref05_Plain.l0 k xs ((xs.take i).map plS) (i : Int)) (xs.map plS) := by
  intro d
  induction d with
  | zero =>
    intro i hi
    rw [List.take_of_length_le (by omega)]
    refine Ev.step (f := fun _ => some _) (fun k => ?_) (Ev.now _)
    simp only [variorumref05_Plain.l0]; rw [if_neg (by omega)]
  | succ d ih =>
    intro i hi
    have hil : i < xs.length := by omega
    have h := ih (i + 1) (by omega)
    rw [← wrap_succ (show i ≤ 1000000000000000 by omega), List.take_succ_eq_append_getElem hil, List.map_append, List.map_cons, List.map_nil] at h
    refine Ev.step (fun k => ?_) h
    have g1 : (i : Int) < (xs.length : Int) := by omega
    have g2 : (0 : Int) ≤ (i : Int) := by omega
    have g3 : ((xs.take i).map plS).length < 4398046511104 := by rw [List.length_map, List.length_take]; omega
    simp only [variorumref05_Plain.l0]; rw [if_pos g1, if_pos g2, if_pos g3, rd_at hil]; rfl
theorem plain_ev (xs : List S38) (hn : xs.length ≤ 1000000000000) : Ev (fun k => variorumref05_Plain.f k xs) (xs.map plS) := plain_loop xs hn xs.length 0 (by omega)
theorem pls_tok (l : List Tok) : (l.map tokS).map plS = (l.map pl).map fun t => (⟨(t.1 : Int), ⟨t.2.toArray⟩, 0⟩ : S38) := by
  rw [List.map_map, List.map_map]; rfl
theorem pls_same {a b : List Tok} (h : a.map pl = b.map pl) : (a.map tokS).map plS = (b.map tokS).map plS := by rw [pls_tok, pls_tok, h]
theorem rd_len {p : Nat} {S : List UInt8} {l : List Tok} (h : Rd p S l) : l.length ≤ S.length := by
  induction h with
  | nil => simp
  | skip hs _ ih => rw [List.length_append]; omega
  | tok hs _ ih => obtain ⟨c, y, rfl⟩ := hs.cons; simp only [List.length_append, List.length_cons]; omega
end Go.Proofs.YtjiljpddkfcdbaaGreatDoor.Pure

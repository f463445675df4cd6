/- Which tokens may be, their print, and what is read from it. -/
import Derived.Test.YtjiljpddkfcdbaaGreatDoorXLex
namespace Go.Proofs.YtjiljpddkfcdbaaGreatDoor.Pure
set_option linter.unusedVariables false
set_option linter.unusedSimpArgs false
open Go Go.RowKit Go.Proofs.YtjiljpddkfcdbaaGreatDoor.PLx Go.Proofs.YtjiljpddkfcdbaaGreatDoorW.PrintWords Go.Proofs.YtjiljpddkfcdbaaGreatDoorW.PrintLast Go.Proofs.YtjiljpddkfcdbaaGreatDoorW.PrintMore Go.Proofs.YtjiljpddkfcdbaaGreatDoor.UMath Go.Proofs.YtjiljpddkfcdbaaGreatDoor.VMath
open Classical

abbrev tx (t : S38) : List UInt8 := t.f1.data.toList
/-- A token that may be. -/
def FineS (t : S38) : Prop := (t.f0 = 0 ∧ tx t ≠ [] ∧ V (tx t) ∧ ∀ c ∈ tx t, ¬ cls c = 1) ∨ (t.f0 = 1 ∧ tx t ≠ [] ∧ ∀ c ∈ tx t, isLetter c = true) ∨ ((t.f0 = 2 ∨ t.f0 = 3) ∧ tx t = [])
def MayP (l : List S38) : Prop := ∀ t ∈ l, FineS t
theorem fine_tok {t : Tok} (h : Fine (pl t)) : FineS (tokS t) := by
  obtain ⟨k, x, p⟩ := t
  rcases h with ⟨h1, h2⟩ | ⟨h1, h2⟩ | ⟨h1, h2⟩
  · exact .inl ⟨congrArg Nat.cast h1, h2⟩
  · exact .inr (.inl ⟨congrArg Nat.cast h1, h2⟩)
  · refine .inr (.inr ⟨?_, h2⟩)
    rcases h1 with h1 | h1
    · exact .inl (congrArg Nat.cast h1)
    · exact .inr (congrArg Nat.cast h1)
theorem bl_iff (b : UInt8) : blanks.data.toList.contains b = true ↔ cls b = 1 := by
  rw [cls_blank]
  show ([9, 10, 13, 32] : List UInt8).contains b = true ↔ _
  simp
theorem contains_iff : ∀ S : List UInt8, Lib.containsAny S blanks.data.toList = true ↔ ∃ c ∈ S, cls c = 1 := by
  intro S
  unfold Lib.containsAny
  rw [decide_eq_true_iff]
  induction S with
  | nil => simp [Lib.indexAny]
  | cons b S ih =>
    unfold Lib.indexAny
    by_cases h : cls b = 1
    · rw [if_pos ((bl_iff b).2 h)]
      exact ⟨fun _ => ⟨b, List.mem_cons_self, h⟩, fun _ => Int.le_refl _⟩
    · rw [if_neg (fun e => h ((bl_iff b).1 e))]
      have hge := Lib.indexAny_ge blanks.data.toList S
      by_cases e : Lib.indexAny S blanks.data.toList = -1
      · rw [if_pos (by rw [e]; rfl)]
        rw [e] at ih
        constructor
        · intro h; omega
        · rintro ⟨c, hc, h1⟩
          rcases List.mem_cons.1 hc with rfl | hc
          · exact absurd h1 h
          · have := ih.2 ⟨c, hc, h1⟩; omega
      · rw [if_neg (by simpa using e)]
        constructor
        · intro _
          obtain ⟨c, hc, h1⟩ := ih.1 (by omega)
          exact ⟨c, List.mem_cons_of_mem _ hc, h1⟩
        · rintro ⟨c, hc, h1⟩; omega
theorem may_ok_ev (t : S38) (h : t.f1.size < 4294967281) : Ev (fun k => lexer_May.ok k t) (decide (FineS t)) := by
  have hl : t.f1.toList = tx t := (ByteArray.toList_eq _).symm ▸ rfl
  unfold lexer_May.ok
  simp only [if_pos h, hl]
  by_cases h0 : t.f0 = 0
  · simp only [if_pos h0]
    obtain ⟨d, hd, _, hv⟩ := dec_any t.f1 (by omega)
    refine Ev.bind hd ?_
    have e : (!(tx t).isEmpty && (d.2.1 == 0 && !Lib.containsAny t.f1.data.toList blanks.data.toList)) = decide (FineS t) := by
      rw [Bool.eq_iff_iff, decide_eq_true_iff]
      simp only [Bool.and_eq_true, Bool.not_eq_true', List.isEmpty_eq_false_iff, beq_iff_eq]
      have hc := contains_iff (tx t)
      constructor
      · rintro ⟨h1, h2, h3⟩
        refine .inl ⟨h0, h1, ?_, fun c hm hb => ?_⟩
        · rcases hv with hv | hv
          · exact hv.1
          · rw [hv.2.1] at h2; cases h2
        · have := hc.2 ⟨c, hm, hb⟩
          rw [h3] at this; cases this
      · rintro (⟨_, h1, h2, h3⟩ | ⟨h1, _⟩ | ⟨h1, _⟩)
        · refine ⟨h1, ?_, ?_⟩
          · rcases hv with hv | hv
            · exact hv.2.1
            · exact absurd h2 hv.1
          · cases hx : Lib.containsAny (tx t) blanks.data.toList with
            | false => rfl
            | true =>
              obtain ⟨c, hm, hb⟩ := hc.1 hx
              exact absurd hb (h3 c hm)
        · omega
        · omega
    rw [e]; exact Ev.now _
  · simp only [if_neg h0]
    by_cases h1 : t.f0 = 1
    · simp only [if_pos h1]
      have e : nameB t.f1.data.toList = decide (FineS t) := by
        rw [Bool.eq_iff_iff, decide_eq_true_iff]
        unfold nameB
        simp only [Bool.and_eq_true, Bool.not_eq_true', List.isEmpty_eq_false_iff, List.all_eq_true]
        constructor
        · rintro ⟨h2, h3⟩; exact .inr (.inl ⟨h1, h3, h2⟩)
        · rintro (⟨h2, _⟩ | ⟨_, h2, h3⟩ | ⟨h2, _⟩)
          · omega
          · exact ⟨h3, h2⟩
          · omega
      rw [e]; exact Ev.now _
    · simp only [if_neg h1]
      by_cases h2 : t.f0 = 2 ∨ t.f0 = 3
      · simp only [if_pos h2]
        have e : (tx t).isEmpty = decide (FineS t) := by
          rw [Bool.eq_iff_iff, decide_eq_true_iff, List.isEmpty_iff]
          constructor
          · intro h3; exact .inr (.inr ⟨h2, h3⟩)
          · rintro (⟨h3, _⟩ | ⟨h3, _⟩ | ⟨_, h3⟩)
            · omega
            · omega
            · exact h3
        rw [e]; exact Ev.now _
      · simp only [if_neg h2]
        have e : false = decide (FineS t) := by
          symm
          rw [decide_eq_false_iff_not]
          rintro (⟨h3, _⟩ | ⟨h3, _⟩ | ⟨h3, _⟩)
          · omega
          · omega
          · exact h2 h3
        rw [← e]; exact Ev.now _
theorem may_l_ev : ∀ l : List S38, (∀ t ∈ l, t.f1.size < 4294967281) → Ev (fun k => lexer_May.l k l) (decide (MayP l))
  | [], _ => by
    rw [show decide (MayP []) = true from decide_eq_true (fun t h => by cases h)]
    exact Ev.now _
  | t :: r, h => by
    unfold lexer_May.l
    refine Ev.bind (may_ok_ev t (h t List.mem_cons_self)) ?_
    by_cases ht : FineS t
    · simp only [decide_eq_true ht, if_true]
      have := may_l_ev r (fun u hu => h u (List.mem_cons_of_mem _ hu))
      rwa [show decide (MayP r) = decide (MayP (t :: r)) by
        rw [decide_eq_decide]
        exact ⟨fun h u hu => by
          rcases List.mem_cons.1 hu with rfl | hu
          · exact ht
          · exact h u hu, fun h u hu => h u (List.mem_cons_of_mem _ hu)⟩] at this
    · simp only [decide_eq_false ht]
      rw [show decide (MayP (t :: r)) = false from decide_eq_false (fun h => ht (h t List.mem_cons_self))]
      exact Ev.now _
theorem may_ev {l : List S38} (hl : l.length ≤ 140737488355328) (h : ∀ t ∈ l, t.f1.size < 4294967281) : Ev (fun k => lexer_May.f k l) (decide (MayP l)) := by
  unfold lexer_May.f
  simp only [if_pos hl]
  exact may_l_ev l h

/-! ## Print -/
theorem ok_nil : Ok [] := ⟨rfl, ws_nil⟩
theorem ok_blank {c : UInt8} {r : List UInt8} (h : cls c = 1) : Ok (c :: r) := by
  refine ⟨?_, ws_stop (by omega) (by omega)⟩
  show isLetter c = false
  cases hb : isLetter c with
  | false => rfl
  | true => have := letter_cls hb; omega
theorem piece_step {t : S38} (h : FineS t) : ∃ k : Nat, t.f0 = (k : Int) ∧ V (pieceS t).data.toList ∧ ∀ R, Ok R → Step (pieceS t).data.toList (some (k, tx t)) R := by
  rcases h with ⟨h0, h1, h2, h3⟩ | ⟨h0, h1, h2⟩ | ⟨h0, h1⟩
  · refine ⟨0, h0, ?_⟩
    unfold pieceS
    rw [if_pos h0]
    refine ⟨esc_v h2, fun R hR => ?_⟩
    have h4 := esc_nil h1
    have h5 := w_back _ (tx t) (Nat.le_refl _) h3
    show Step (escL (tx t)) _ R
    cases e : escL (tx t) with
    | nil => exact absurd e h4
    | cons c x =>
      rw [e] at h5
      exact .word h5 hR.2
  · refine ⟨1, h0, ?_⟩
    have e : (pieceS t).data.toList = 92 :: tx t := by
      unfold pieceS
      rw [if_neg (by omega), if_pos h0]
      simp [tx]
    rw [e]
    exact ⟨V.one (by decide) (V.low fun c hc => letter_low (h2 c hc)), fun R hR => .cmd h1 h2 hR.1⟩
  · rcases h0 with h0 | h0
    · refine ⟨2, h0, ?_⟩
      unfold pieceS
      rw [if_neg (by omega), if_neg (by omega), if_pos h0, h1]
      exact ⟨V.one (by decide) V.nil, fun R hR => .brace (c := 123) (by decide)⟩
    · refine ⟨3, h0, ?_⟩
      unfold pieceS
      rw [if_neg (by omega), if_neg (by omega), if_neg (by omega), h1]
      exact ⟨V.one (by decide) V.nil, fun R hR => .brace (c := 125) (by decide)⟩
theorem print_cons (t : S38) (r : List S38) : printL (t :: r) = (pieceS t).data.toList ++ (if r = [] then [] else 32 :: printL r) := by
  unfold printL
  rw [List.map_cons, List.map_cons, Lib.join_cons]
  congr 1
  cases r with
  | nil => rw [if_pos rfl]; rfl
  | cons u r =>
    rw [if_neg (by simp), List.map_cons, List.map_cons, Lib.join_cons]
    simp [Lib.joinTail]
theorem print_rd : ∀ l : List S38, MayP l → V (printL l) ∧ ∀ p, ∃ l', Rd p (printL l) l' ∧ (l'.map tokS).map plS = l.map plS
  | [], _ => ⟨V.nil, fun p => ⟨[], .nil, rfl⟩⟩
  | t :: r, h => by
    obtain ⟨hv, hr⟩ := print_rd r (fun u hu => h u (List.mem_cons_of_mem _ hu))
    obtain ⟨k, hk, hpv, hst⟩ := piece_step (h t List.mem_cons_self)
    rw [print_cons]
    by_cases e : r = []
    · subst e
      rw [if_pos rfl, List.append_nil]
      refine ⟨hpv, fun p => ⟨[(k, tx t, p)], ?_, ?_⟩⟩
      · have := Rd.tok (p := p) (hst [] ok_nil) .nil
        rwa [List.append_nil] at this
      · simp [tokS, plS, hk]
    · rw [if_neg e]
      refine ⟨V.app hpv (V.one (by decide) hv), fun p => ?_⟩
      obtain ⟨l', h1, h2⟩ := hr (p + (pieceS t).data.toList.length + 1)
      have h3 : Rd (p + (pieceS t).data.toList.length) (32 :: printL r) l' := Rd.skip (x := [32]) (.blank (by decide)) h1
      refine ⟨(k, tx t, p) :: l', Rd.tok (hst _ (ok_blank (by decide))) h3, ?_⟩
      rw [List.map_cons, List.map_cons, h2, List.map_cons]
      simp [tokS, plS, hk]
/-! ## How much there is -/
def bk (x : S38) : Nat := 1 + ((x.f1.size + 1) + (1))
theorem bulk_ge : ∀ l : List S38, l.length ≤ OpenB.bulkOf bk l ∧ (∀ t ∈ l, t.f1.size ≤ OpenB.bulkOf bk l) ∧ (printL l).length ≤ 2 * OpenB.bulkOf bk l
  | [] => ⟨by simp, fun t h => by (cases h), by simp [printL, Lib.join_nil]⟩
  | t :: r => by
    obtain ⟨h1, h2, h3⟩ := bulk_ge r
    have hp : (pieceS t).data.toList.length + 1 ≤ 2 * bk t := by
      unfold bk pieceS
      split
      · have := esc_len _ (tx t) (Nat.le_refl _)
        have e : (tx t).length = t.f1.size := (Lib.size_eq _).symm
        show (escL (tx t)).length + 1 ≤ _
        omega
      · split
        · have e : (tx t).length = t.f1.size := (Lib.size_eq _).symm
          simp only [ByteArray.data_append, Array.toList_append, List.length_append]
          show 1 + (tx t).length + 1 ≤ _
          omega
        · split <;> (show 1 + 1 ≤ _; omega)
    simp only [OpenB.bulkOf, List.length_cons]
    have hb : bk t = 1 + ((t.f1.size + 1) + (1)) := rfl
    refine ⟨by omega, fun u hu => ?_, ?_⟩
    · rcases List.mem_cons.1 hu with rfl | hu
      · omega
      · have := h2 u hu; omega
    · rw [print_cons, List.length_append]
      split
      · rw [List.length_nil]; omega
      · rw [List.length_cons]; omega
theorem w_len : ∀ (n : Nat) (S : List UInt8), S.length ≤ n → (wordL S).1.length + (wordL S).2.1.length ≤ S.length
  | _, [], _ => by rw [w_nil]; simp
  | 0, c :: r, h => by simp at h
  | n + 1, c :: r, h => by
    have hr : r.length ≤ n := by simpa using h
    by_cases h0 : cls c = 0
    · rw [w_plain h0]
      have := w_len n r hr
      simp only [List.length_cons]; omega
    · by_cases h4 : cls c = 4
      · obtain rfl := cls_slash.1 h4
        cases r with
        | nil => rw [w_end]; simp
        | cons d r =>
          by_cases hl : isLetter d = true
          · rw [w_cmd hl]; simp
          · have hl : isLetter d = false := by simpa using hl
            cases he : escd d with
            | none => rw [w_bad hl he]; simp
            | some t =>
              rw [w_esc hl he]
              have := w_len n r (by simp at hr; omega)
              have h2 := esc_small he
              rw [Lib.size_eq] at h2
              simp only [List.length_cons, List.length_append]; omega
      · rw [w_stop h0 h4]; simp
theorem step_len {x R : List UInt8} {kt : Nat × List UInt8} (h : Step x (some kt) R) : kt.2.length ≤ x.length ∧ 1 ≤ x.length := by
  cases h with
  | brace h => simp
  | cmd h1 h2 h3 => simp
  | @word c x w _ h1 h2 =>
    have := w_len _ (c :: (x ++ [])) (Nat.le_refl _)
    rw [h1 [] ws_nil] at this
    simp at this ⊢
    omega
theorem rd_bulk {p : Nat} {S : List UInt8} {l : List Tok} (h : Rd p S l) : OpenB.bulkOf bk (l.map tokS) ≤ 4 * S.length + 1 := by
  induction h with
  | nil => simp [OpenB.bulkOf]
  | skip hs _ ih => rw [List.length_append]; omega
  | @tok p k x R t l hs _ ih =>
    have h1 := step_len hs
    simp only [List.map_cons, OpenB.bulkOf, List.length_append]
    have e : bk (tokS (k, t, p)) = t.length + 3 := by
      unfold bk tokS
      show 1 + (t.toArray.size + 1 + 1) = _
      rw [List.size_toArray]; omega
    rw [e]
    simp only at h1
    omega
/-- What any tokens print, of so many bytes. -/
theorem print_ev {l : List S38} (h : OpenB.bulkOf bk l ≤ 10000000) : Ev (fun k => lexer_Print.f k l) (if MayP l then ⟨(printL l).toArray⟩ else ⟨#[]⟩) := by
  obtain ⟨h1, h2, h3⟩ := bulk_ge l
  unfold lexer_Print.f
  have hc : l.length ≤ 4000000000000 ∧ (∀ t ∈ l, t.f1.size ≤ 35184372088832) ∧ (printL l).length ≤ 140737488355328 := ⟨by omega, fun t ht => by have := h2 t ht; omega, by omega⟩
  simp only [if_pos hc]
  refine Ev.bind (may_ev (by omega) (fun t ht => by have := h2 t ht; omega)) ?_
  by_cases hm : MayP l
  · simp only [decide_eq_true hm, if_true, if_pos hm]; exact Ev.now _
  · simp only [decide_eq_false hm, if_neg hm]; exact Ev.now _
theorem may_evB {l : List S38} (h : OpenB.bulkOf bk l ≤ 10000000) : Ev (fun k => lexer_May.f k l) (decide (MayP l)) := by
  obtain ⟨h1, h2, h3⟩ := bulk_ge l
  exact may_ev (by omega) (fun t ht => by have := h2 t ht; omega)
end Go.Proofs.YtjiljpddkfcdbaaGreatDoor.Pure

/- LexerBack: tokens that may be are read from their print as they were, but for their places; what is read may be; and printed and read again it is the same. -/
import Derived.Test.YtjiljpddkfcdbaaGreatDoorPLxx10
import Derived.Test.YtjiljpddkfcdbaaGreatDoorXMay
namespace Go.Proofs.YtjiljpddkfcdbaaGreatDoor.Pure
set_option linter.unusedVariables false
set_option linter.unusedSimpArgs false
open Go Go.RowKit Go.Proofs.YtjiljpddkfcdbaaGreatDoor.PLx Go.Proofs.YtjiljpddkfcdbaaGreatDoorW.PrintWords Go.Proofs.YtjiljpddkfcdbaaGreatDoorW.PrintLast Go.Proofs.YtjiljpddkfcdbaaGreatDoorW.PrintMore Go.Proofs.YtjiljpddkfcdbaaGreatDoor.UMath Go.Proofs.YtjiljpddkfcdbaaGreatDoor.VMath
open Classical

theorem back_ev (a1 : ByteArray) (h1 : a1.size + 1 ≤ 1048576) : Ev (fun k => variorumlaw05_LexerBack.j0 k a1 false) true := by
  have e1 : a1.data.toList.length = a1.size := (Lib.size_eq a1).symm
  obtain ⟨r, hr, h⟩ := lex_any a1 (by omega)
  refine Ev.step (f := fun k => (lexer_Lex.f k a1).bind fun bt259 => (if bt259.2.1 = 0 then ((lexer_Print.f k bt259.1).bind fun t265 => ((lexer_Lex.f k t265).bind fun bt266 => ((lexer_May.f k bt259.1).bind fun t272 => (if t272 = true then (if bt266.2.1 = 0 then ((variorumref05_Plain.f k bt266.1).bind fun t273 => ((variorumref05_Plain.f k bt259.1).bind fun t276 => ((variorumref05_Same.f k t273 t276).bind fun t279 => (some t279)))) else (none)) else (none))))) else (some ((bt259.1.length : Int) == 0)))) (fun k => ?_) (Ev.bind hr ?_)
  · simp only [variorumlaw05_LexerBack.j0]; rw [if_neg (by decide)]
  rcases h with ⟨hv, l, hl, rfl⟩ | ⟨he, hne, _⟩
  · simp only [if_true]
    have hm : MayP (l.map tokS) := fun t ht => by
      obtain ⟨u, hu, rfl⟩ := List.mem_map.1 ht
      exact fine_tok (hl.fine hv u hu)
    have hb := rd_bulk hl
    have hp := print_ev (l := l.map tokS) (by omega)
    rw [if_pos hm] at hp
    have hg := bulk_ge (l.map tokS)
    obtain ⟨hpv, hpr⟩ := print_rd _ hm
    obtain ⟨l2, h2, h3⟩ := hpr 0
    have n2 := rd_len h2
    have hx := lex_ok (s := ⟨(printL (l.map tokS)).toArray⟩) (by rw [Lib.size_eq]; show (printL (l.map tokS)).length ≤ _; omega) hpv h2
    refine Ev.bind hp (Ev.bind hx (Ev.bind (may_evB (by omega)) ?_))
    simp only [decide_eq_true hm, if_true]
    refine Ev.bind (plain_ev _ (by rw [List.length_map]; omega)) (Ev.bind (plain_ev _ (by omega)) ?_)
    rw [h3]
    exact Ev.bind (same_ev _ (by rw [List.length_map]; omega)) (Ev.now _)
  · simp only [if_neg hne, he]
    exact Ev.now _
theorem LexerBack : variorumlaw05_LexerBack.Pure := by
  intro l a1 hw hb _ h1
  have hb : OpenB.bulkOf bk l ≤ 1048576 := hb
  have hg := bulk_ge l
  refine Ev.rounds ?_
  unfold variorumlaw05_LexerBack.f
  refine Ev.bind (print_ev (by omega)) ?_
  by_cases hm : MayP l
  · simp only [if_pos hm]
    obtain ⟨hpv, hpr⟩ := print_rd _ hm
    obtain ⟨l2, h2, h3⟩ := hpr 0
    have n2 := rd_len h2
    have hx := lex_ok (s := ⟨(printL l).toArray⟩) (by rw [Lib.size_eq]; show (printL l).length ≤ _; omega) hpv h2
    refine Ev.bind hx (Ev.bind fixed_ev ?_)
    simp only [if_true]
    refine Ev.bind (may_evB (by omega)) ?_
    simp only [decide_eq_true hm, if_true]
    refine Ev.bind (plain_ev _ (by rw [List.length_map]; omega)) (Ev.bind (plain_ev _ (by omega)) ?_)
    rw [h3]
    exact Ev.bind (same_ev _ (by rw [List.length_map]; omega)) (back_ev a1 h1)
  · simp only [if_neg hm]
    obtain ⟨r, hr, h⟩ := lex_any ⟨#[]⟩ (by decide)
    refine Ev.bind hr (Ev.bind fixed_ev ?_)
    simp only [if_true]
    refine Ev.bind (may_evB (by omega)) ?_
    simp only [decide_eq_false hm]
    exact back_ev a1 h1
end Go.Proofs.YtjiljpddkfcdbaaGreatDoor.Pure

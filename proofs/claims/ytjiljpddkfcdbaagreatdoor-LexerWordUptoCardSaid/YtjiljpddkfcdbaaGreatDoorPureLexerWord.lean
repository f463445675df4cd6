/- LexerWord: a word that may be, escaped, is read as that word alone. -/
import Derived.Test.YtjiljpddkfcdbaaGreatDoorPLxx13
import Derived.Test.YtjiljpddkfcdbaaGreatDoorXMay
namespace Go.Proofs.YtjiljpddkfcdbaaGreatDoor.Pure
set_option linter.unusedVariables false
set_option linter.unusedSimpArgs false
open Go Go.RowKit Go.Proofs.YtjiljpddkfcdbaaGreatDoor.PLx Go.Proofs.YtjiljpddkfcdbaaGreatDoorW.PrintWords Go.Proofs.YtjiljpddkfcdbaaGreatDoorW.PrintLast Go.Proofs.YtjiljpddkfcdbaaGreatDoorW.PrintMore Go.Proofs.YtjiljpddkfcdbaaGreatDoor.UMath Go.Proofs.YtjiljpddkfcdbaaGreatDoor.VMath
open Classical

theorem LexerWord : variorumlaw05_LexerWord.Pure := by
  intro a0 _ h0
  have e0 : a0.data.toList.length = a0.size := (Lib.size_eq a0).symm
  have hle := esc_len _ a0.data.toList (Nat.le_refl _)
  obtain ⟨E, hE⟩ : ∃ E : ByteArray, E = ⟨(escL a0.data.toList).toArray⟩ := ⟨_, rfl⟩
  have hEl : E.data.toList = escL a0.data.toList := by rw [hE]
  have hEs : E.size = (escL a0.data.toList).length := by rw [Lib.size_eq, hEl]
  have hesc : lexer_Escape.f a0 = some E := by unfold lexer_Escape.f; rw [if_pos (by omega), hE]
  have hmay : Ev (fun k => lexer_May.f k [(⟨0, a0, 0⟩ : S38)]) (decide (MayP [(⟨0, a0, 0⟩ : S38)])) := may_ev (by simp) (fun t ht => by
    rw [List.mem_singleton] at ht; subst ht; show a0.size < _; omega)
  refine Ev.rounds ?_
  unfold variorumlaw05_LexerWord.f
  simp only [hesc, Option.bind_some]
  have bad : ∀ x y z, Ev (fun k => variorumlaw05_LexerWord.j0 k a0 x true y z) true := fun x y z => Ev.step (f := fun k => (variorumlaw05_fixed.f k).bind fun t => some t) (fun k => by simp only [variorumlaw05_LexerWord.j0, if_true]) (Ev.bind fixed_ev (Ev.now _))
  by_cases hm : MayP [(⟨0, a0, 0⟩ : S38)]
  · rcases hm ⟨0, a0, 0⟩ (by simp) with ⟨_, h1, h2, h3⟩ | ⟨h1, _⟩ | ⟨h1, _⟩
    · have hrd : Rd 0 E.data.toList [(0, a0.data.toList, 0)] := by
        rw [hEl]
        have h4 := esc_nil h1
        have h5 := w_back _ a0.data.toList (Nat.le_refl _) h3
        have h1 : a0.data.toList ≠ [] := h1
        cases e : escL a0.data.toList with
        | nil => exact absurd e h4
        | cons c x =>
          rw [e] at h5
          have := Rd.tok (p := 0) (Step.word h5 ws_nil) .nil
          rwa [List.append_nil] at this
      refine Ev.bind (lex_ok (by omega) (by rw [hEl]; exact esc_v h2) hrd) (Ev.bind fixed_ev ?_)
      simp only [if_true]
      refine Ev.bind hmay ?_
      rw [decide_eq_true hm]
      refine Ev.step (f := fun k => (variorumref05_Same.f k [(⟨0, a0, 0⟩ : S38)] [(⟨0, a0, 0⟩ : S38)]).bind fun t => some t) (fun k => ?_) (Ev.bind (same_ev _ (by simp)) (Ev.now _))
      simp only [variorumlaw05_LexerWord.j0]
      rw [if_neg (by decide), if_pos trivial]
      rfl
    · exact absurd h1 (show ¬ (0 : Int) = 1 by decide)
    · exact absurd h1 (show ¬ ((0 : Int) = 2 ∨ (0 : Int) = 3) by decide)
  · obtain ⟨r, hr, h⟩ := lex_any E (by omega)
    refine Ev.bind hr (Ev.bind fixed_ev ?_)
    simp only [if_true]
    refine Ev.bind hmay ?_
    rw [decide_eq_false hm]
    exact bad _ _ _
end Go.Proofs.YtjiljpddkfcdbaaGreatDoor.Pure

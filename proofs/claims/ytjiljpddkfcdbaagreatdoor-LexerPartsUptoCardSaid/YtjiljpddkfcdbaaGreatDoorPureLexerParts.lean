/- LexerParts: of two sources, one behind the other with a byte 10 between, the tokens are those of the one, and then of the other one. -/
import Derived.Test.YtjiljpddkfcdbaaGreatDoorPLxx13
import Derived.Test.YtjiljpddkfcdbaaGreatDoorXMay
namespace Go.Proofs.YtjiljpddkfcdbaaGreatDoor.Pure
set_option linter.unusedVariables false
set_option linter.unusedSimpArgs false
open Go Go.RowKit Go.Proofs.YtjiljpddkfcdbaaGreatDoor.PLx Go.Proofs.YtjiljpddkfcdbaaGreatDoorW.PrintWords Go.Proofs.YtjiljpddkfcdbaaGreatDoorW.PrintLast Go.Proofs.YtjiljpddkfcdbaaGreatDoorW.PrintMore Go.Proofs.YtjiljpddkfcdbaaGreatDoor.UMath Go.Proofs.YtjiljpddkfcdbaaGreatDoor.VMath
open Classical

theorem LexerParts : variorumlaw05_LexerParts.Pure := by
  intro a0 a1 _ h0 _ h1
  obtain ⟨r, hr, h⟩ := lex_any a0 (by omega)
  obtain ⟨t, ht, h'⟩ := lex_any a1 (by omega)
  refine Ev.rounds ?_
  unfold variorumlaw05_LexerParts.f
  refine Ev.bind hr (Ev.bind ht (Ev.bind fixed_ev ?_))
  simp only [if_true]
  have bad : Ev (fun k => variorumlaw05_LexerParts.j0 k a0 a1 r.1 t.1 true) true := Ev.step (f := fun k => (variorumlaw05_fixed.f k).bind fun t => some t) (fun k => by simp only [variorumlaw05_LexerParts.j0, if_true]) (Ev.bind fixed_ev (Ev.now _))
  rcases h with ⟨hv, l, hl, rfl⟩ | ⟨_, hne, _⟩
  · simp only [if_true]
    rcases h' with ⟨hv', l', hl', rfl⟩ | ⟨_, hne', _⟩
    · have e0 : a0.data.toList.length = a0.size := (Lib.size_eq a0).symm
      have e1 : a1.data.toList.length = a1.size := (Lib.size_eq a1).symm
      have hS : ((a0 ++ (⟨#[10]⟩ : ByteArray)) ++ a1).data.toList = a0.data.toList ++ 10 :: a1.data.toList := by simp
      have hsz : ((a0 ++ (⟨#[10]⟩ : ByteArray)) ++ a1).size = a0.size + 1 + a1.size := by rw [ByteArray.size_append, ByteArray.size_append]; rfl
      have hsz1 : (a0 ++ (⟨#[10]⟩ : ByteArray)).size = a0.size + 1 := by rw [ByteArray.size_append]; rfl
      obtain ⟨l2, h2, hp⟩ := hl'.move (0 + a0.data.toList.length + 1)
      have hrd := hl.app (10 :: a1.data.toList) l2 (ok_blank (by decide)) (.inr (.inr ⟨_, rfl⟩)) (Rd.skip (x := [10]) (.blank (by decide)) h2)
      rw [← hS] at hrd
      have hvS : V ((a0 ++ (⟨#[10]⟩ : ByteArray)) ++ a1).data.toList := by rw [hS]; exact V.app hv (V.one (by decide) hv')
      have n1 := rd_len hl
      have n2 := rd_len hl'
      have n3 := rd_len h2
      have hl2 : (l.map tokS).length = l.length := List.length_map _
      have hl3 : (l'.map tokS).length = l'.length := List.length_map _
      have es : ((l ++ l2).map tokS).map plS = (l.map tokS ++ l'.map tokS).map plS := by
        rw [← List.map_append]
        exact pls_same (by rw [List.map_append, List.map_append, hp])
      refine Ev.step (f := fun k => (lexer_Lex.f k ((a0 ++ (⟨#[10]⟩ : ByteArray)) ++ a1)).bind fun bt => if bt.2.1 = 0 then ((variorumref05_Plain.f k bt.1).bind fun t357 => (variorumref05_Plain.f k (l.map tokS ++ l'.map tokS)).bind fun t369 => (variorumref05_Same.f k t357 t369).bind fun t372 => some t372) else none) (fun k => ?_) (Ev.bind (lex_ok (by omega) hvS hrd) ?_)
      · simp only [variorumlaw05_LexerParts.j0]
        rw [if_neg (by decide), if_pos (by omega), if_pos (by omega)]
        simp only [Option.bind_some, List.length_nil, List.nil_append]
        simp only [if_pos (show 0 + (l.map tokS).length < 4398046511104 by omega), if_pos (show (l.map tokS).length + (l'.map tokS).length < 4398046511104 by omega)]
      · simp only [if_true]
        refine Ev.bind (plain_ev _ (by rw [List.length_map, List.length_append]; omega)) (Ev.bind (plain_ev _ (by rw [List.length_append]; omega)) ?_)
        rw [es]
        exact Ev.bind (same_ev _ (by rw [List.length_map, List.length_append]; omega)) (Ev.now _)
    · have e : (t.2.1 != 0) = true := by simpa using hne'
      rw [e]; exact bad
  · simp only [if_neg hne]; exact bad
end Go.Proofs.YtjiljpddkfcdbaaGreatDoor.Pure

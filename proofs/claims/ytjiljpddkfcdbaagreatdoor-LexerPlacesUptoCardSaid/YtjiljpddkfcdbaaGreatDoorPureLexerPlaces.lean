/- LexerPlaces: tokens' places rise, and lie in the source; at each one a token of its kind begins; a beginning of the source that ends where a token begins has the tokens ahead of it. -/
import Derived.Test.YtjiljpddkfcdbaaGreatDoorPLxx12
import Derived.Test.YtjiljpddkfcdbaaGreatDoorXLex
namespace Go.Proofs.YtjiljpddkfcdbaaGreatDoor.Pure
set_option linter.unusedVariables false
set_option linter.unusedSimpArgs false
open Go Go.RowKit Go.Proofs.YtjiljpddkfcdbaaGreatDoor.PLx Go.Proofs.YtjiljpddkfcdbaaGreatDoorW.PrintWords Go.Proofs.YtjiljpddkfcdbaaGreatDoorW.PrintLast Go.Proofs.YtjiljpddkfcdbaaGreatDoorW.PrintMore Go.Proofs.YtjiljpddkfcdbaaGreatDoor.UMath Go.Proofs.YtjiljpddkfcdbaaGreatDoor.VMath

theorem blank_f {c : UInt8} (h : ¬ cls c = 1) : variorumref05_Blank.f (c.toNat : Int) = some false := by
  have h := fun e => h (cls_blank.2 e)
  have n : ∀ d : UInt8, c ≠ d → ¬ (c.toNat : Int) = (d.toNat : Int) := fun d hd e => hd (UInt8.toNat_inj.1 (by omega))
  have h9 : ¬ (c.toNat : Int) = 9 := n 9 fun e => h (.inl e)
  have h10 : ¬ (c.toNat : Int) = 10 := n 10 fun e => h (.inr (.inl e))
  have h13 : ¬ (c.toNat : Int) = 13 := n 13 fun e => h (.inr (.inr (.inl e)))
  have h32 : ¬ (c.toNat : Int) = 32 := n 32 fun e => h (.inr (.inr (.inr e)))
  unfold variorumref05_Blank.f
  rw [if_neg h9, if_neg h10, if_neg h13]
  simpa using h32
theorem kind_j2 {s : ByteArray} {l : List S38} {i p : Int} {x : ByteArray} {k : Nat} {c : UInt8} {r : Bool} (hp : 0 ≤ p) (hps : p < (s.size : Int)) (hb : bt s p = (c.toNat : Int)) (h1 : ¬ cls c = 1) (h2 : ¬ cls c = 2)
    (k0 : k = 0 → cls c = 0 ∨ cls c = 4) (k1 : k = 1 → c = 92) (k2 : k = 2 → c = 123) (k3 : k = 3 → c = 125) (hk : k ≤ 3)
    (h : Ev (fun n => variorumlaw05_LexerPlaces.j3 n s l i false (k : Int) x p) r) : Ev (fun n => variorumlaw05_LexerPlaces.j2 n s l i false (k : Int) x p) r := by
  refine Ev.step (fun n => ?_) h
  simp only [variorumlaw05_LexerPlaces.j2]
  rw [if_neg (by decide), if_pos hp, if_pos hps, hb]
  have hk : k = 0 ∨ k = 1 ∨ k = 2 ∨ k = 3 := by omega
  rcases hk with rfl | rfl | rfl | rfl
  · have n : ∀ d : UInt8, c ≠ d → ¬ (c.toNat : Int) = (d.toNat : Int) := fun d hd e => hd (UInt8.toNat_inj.1 (by omega))
    have h123 : ¬ (c.toNat : Int) = 123 := n 123 fun e => by subst e; rcases k0 rfl with h | h <;> exact absurd h (by decide)
    have h125 : ¬ (c.toNat : Int) = 125 := n 125 fun e => by subst e; rcases k0 rfl with h | h <;> exact absurd h (by decide)
    have h37 : ((c.toNat : Int) == 37) = false := by simpa using n 37 fun e => by subst e; rcases k0 rfl with h | h <;> exact absurd h (by decide)
    rw [blank_f h1]
    simp [h123, h125, h37]
  · obtain rfl := k1 rfl
    simp
  · obtain rfl := k2 rfl
    simp
  · obtain rfl := k3 rfl
    simp
theorem places_loop {a0 : ByteArray} (h0 : a0.size + 1 ≤ 1048576) (hv : V a0.data.toList) {l : List Tok} (hl : Rd 0 a0.data.toList l) : ∀ (d i : Nat), i + d = l.length → Ev (fun k => variorumlaw05_LexerPlaces.l0 k a0 (l.map tokS) (i : Int)) true := by
  have hlen : a0.data.toList.length = a0.size := (Lib.size_eq a0).symm
  have n1 := rd_len hl
  intro d
  induction d with
  | zero =>
    intro i hi
    refine Ev.step (f := fun _ => some true) (fun k => ?_) (Ev.now _)
    simp only [variorumlaw05_LexerPlaces.l0]; rw [if_neg (by rw [List.length_map]; omega)]
  | succ d ih =>
    intro i hi
    have hin : i < l.length := by omega
    obtain ⟨⟨k, t, a⟩, hk⟩ : ∃ u, l[i] = u := ⟨_, rfl⟩
    have hsp : l = l.take i ++ (k, t, a) :: l.drop (i + 1) := by
      conv => lhs; rw [← List.take_append_drop i l, List.drop_eq_getElem_cons hin, hk]
    obtain ⟨A, x, R, e, ha, hx, hl2, _, hR⟩ := hl.split _ k t a _ hsp
    have hvv := hl.split_v hv _ k t a _ hsp A (x ++ R) e ha
    have haA : a = A.length := by omega
    obtain ⟨c, y, hxc, c1, c2, k0, k1, k2, k3, k4⟩ := tok_head hx
    have hAs : A.length < a0.size := by rw [← hlen, e, List.length_append, List.length_append, hxc, List.length_cons]; omega
    have hat : rd_T38 (l.map tokS) (i : Int) = ⟨(k : Int), ⟨t.toArray⟩, (a : Int)⟩ := by
      rw [rd_at (by rw [List.length_map]; exact hin), List.getElem_map, hk]; rfl
    have hb : bt a0 (a : Int) = (c.toNat : Int) := by
      rw [bt_g, g_list, e, haA, List.getD_eq_getElem?_getD, List.getElem?_append_right (Nat.le_refl _), Nat.sub_self, hxc]
      rfl
    have g1 : (i : Int) < ((l.map tokS).length : Int) := by rw [List.length_map]; omega
    have g2 : (0 : Int) ≤ (i : Int) := by omega
    -- the beginning of the source
    have hj3 : Ev (fun n => variorumlaw05_LexerPlaces.j3 n a0 (l.map tokS) (i : Int) false (k : Int) ⟨t.toArray⟩ (a : Int)) true := by
      have hn := ih (i + 1) (by omega)
      rw [← wrap_succ (show i ≤ 1000000000000000 by omega)] at hn
      have e1 : (a0.extract 0 a).data.toList = A := by rw [Lib.extract_data, List.drop_zero, Nat.sub_zero, e, haA, List.take_left]
      have s1 : (a0.extract 0 a).size = a := by rw [Lib.size_eq, e1, haA]
      have hrd := hR [] [] ⟨rfl, ws_nil⟩ .nil
      rw [List.append_nil, List.append_nil, ← e1] at hrd
      refine Ev.step (f := fun n => (lexer_Lex.f n (a0.extract 0 a)).bind fun bt326 => (if bt326.2.1 = 0 then ((variorumref05_Same.f n bt326.1 ((l.take i).map tokS)).bind fun t336 => (if t336 = true then (variorumlaw05_LexerPlaces.l0 n a0 (l.map tokS) (wrap64 ((i : Int) + 1))) else (none))) else (none))) (fun n => ?_) (Ev.bind (lex_ok (by omega) (by rw [e1]; exact hvv.1) hrd) ?_)
      · simp only [variorumlaw05_LexerPlaces.j3]
        rw [if_neg (by decide), if_pos (by omega), if_pos (by omega), Int.toNat_natCast, Int.toNat_natCast, List.map_take]
        simp only [if_pos g2, if_pos (show (i : Int) ≤ ((l.map tokS).length : Int) by omega)]
      · simp only [if_true]
        refine Ev.bind (same_ev _ (by rw [List.length_map, List.length_take]; omega)) ?_
        simp only [if_true]
        exact hn
    have hj2 := kind_j2 (l := l.map tokS) (i := (i : Int)) (x := ⟨t.toArray⟩) (p := (a : Int)) (by omega) (by omega) hb c1 c2 k0 k1 k2 k3 k4 hj3
    refine Ev.step (fun n => ?_) hj2
    simp only [variorumlaw05_LexerPlaces.l0]
    rw [if_pos g1, if_pos g2, hat]
    simp only
    rw [if_neg (by omega), if_neg (by omega)]
    by_cases hi0 : i = 0
    · subst hi0; rw [if_neg (by decide)]
    · have hw : wrap64 ((i : Int) - 1) = ((i - 1 : Nat) : Int) := by rw [wrap_small (by omega)]; omega
      have hpw := List.pairwise_iff_getElem.1 hl.places.2 (i - 1) i (by omega) hin (by omega)
      rw [hk] at hpw
      have hat2 : (rd_T38 (l.map tokS) ((i - 1 : Nat) : Int)).f2 = ((l[i - 1]'(by omega)).2.2 : Int) := by
        rw [rd_at (by rw [List.length_map]; omega), List.getElem_map]; rfl
      rw [if_pos (by omega), hw, if_pos (by omega), if_pos (by rw [List.length_map]; omega), hat2, decide_eq_false (by simp only at hpw; omega)]
theorem LexerPlaces : variorumlaw05_LexerPlaces.Pure := by
  intro a0 _ h0
  obtain ⟨r, hr, h⟩ := lex_any a0 (by omega)
  refine Ev.rounds ?_
  unfold variorumlaw05_LexerPlaces.f
  refine Ev.bind hr (Ev.bind fixed_ev ?_)
  simp only [if_true]
  rcases h with ⟨hv, l, hl, rfl⟩ | ⟨_, hne, q, hq, hqs⟩
  · refine Ev.step (f := fun k => variorumlaw05_LexerPlaces.l0 k a0 (l.map tokS) ((0 : Nat) : Int)) (fun k => ?_) (places_loop h0 hv hl l.length 0 (by omega))
    simp only [variorumlaw05_LexerPlaces.j0]
    rw [if_neg (by decide)]
    rfl
  · have e : (r.2.1 != 0) = true := by simpa using hne
    rw [e, hq]
    refine Ev.step (f := fun k => (variorumlaw05_fixed.f k).bind fun t314 => (if t314 = true then (if (q : Int) ≥ 0 then (some (decide ((q : Int) ≤ (a0.size : Int)))) else (none)) else (none))) (fun k => ?_) (Ev.bind fixed_ev ?_)
    · simp only [variorumlaw05_LexerPlaces.j0, if_true]
    · simp only [if_true, if_pos (show (q : Int) ≥ 0 by omega), decide_eq_true (show (q : Int) ≤ (a0.size : Int) by omega)]
      exact Ev.now _
end Go.Proofs.YtjiljpddkfcdbaaGreatDoor.Pure

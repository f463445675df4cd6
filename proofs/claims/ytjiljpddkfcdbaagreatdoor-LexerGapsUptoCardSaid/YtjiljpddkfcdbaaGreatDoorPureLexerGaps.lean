/- LexerGaps: a remark, or a blank, ahead of a token, or behind all, where no remark stands, changes nothing but places. -/
import Derived.Test.YtjiljpddkfcdbaaGreatDoorPLxx11
import Derived.Test.YtjiljpddkfcdbaaGreatDoorXMay
namespace Go.Proofs.YtjiljpddkfcdbaaGreatDoor.Pure
set_option linter.unusedVariables false
set_option linter.unusedSimpArgs false
open Go Go.RowKit Go.Proofs.YtjiljpddkfcdbaaGreatDoor.PLx Go.Proofs.YtjiljpddkfcdbaaGreatDoorW.PrintWords Go.Proofs.YtjiljpddkfcdbaaGreatDoorW.PrintLast Go.Proofs.YtjiljpddkfcdbaaGreatDoorW.PrintMore Go.Proofs.YtjiljpddkfcdbaaGreatDoor.UMath Go.Proofs.YtjiljpddkfcdbaaGreatDoor.VMath
open Classical

def Gs : List ByteArray := [(⟨#[32]⟩ : ByteArray), (⟨#[10, 9]⟩ : ByteArray), (⟨#[37, 32, 97, 32, 123, 114, 101, 109, 97, 114, 107, 10]⟩ : ByteArray), (⟨#[13, 10, 37, 32, 92, 49, 10, 32]⟩ : ByteArray)]
theorem gs_small {G : ByteArray} (h : G ∈ Gs) : G.size ≤ 12 := by
  simp only [Gs, List.mem_cons, List.not_mem_nil, or_false] at h
  rcases h with rfl | rfl | rfl | rfl <;> decide
theorem gs_pick {m : Int} (h0 : 0 ≤ m) (h1 : m < 4) : rdOf ByteArray.empty Gs m ∈ Gs := by
  have h : m = 0 ∨ m = 1 ∨ m = 2 ∨ m = 3 := by omega
  rcases h with rfl | rfl | rfl | rfl <;> simp [rdOf, Gs]
theorem bl_rd (c : UInt8) {l : List Tok} {B : List UInt8} (hc : cls c = 1) (h : ∀ q, ∃ l', Rd q B l' ∧ l'.map pl = l.map pl) (q : Nat) : ∃ l', Rd q (c :: B) l' ∧ l'.map pl = l.map pl := by
  obtain ⟨l', h1, h2⟩ := h (q + 1)
  exact ⟨l', Rd.skip (x := [c]) (.blank hc) h1, h2⟩
theorem rm_rd {l : List Tok} {y B : List UInt8} (hy : ∀ c ∈ y, c ≠ 10) (h : ∀ q, ∃ l', Rd q (10 :: B) l' ∧ l'.map pl = l.map pl) (q : Nat) : ∃ l', Rd q (37 :: (y ++ 10 :: B)) l' ∧ l'.map pl = l.map pl := by
  obtain ⟨l', h1, h2⟩ := h (q + (37 :: y).length)
  exact ⟨l', Rd.skip (x := 37 :: y) (.rem hy (.inr ⟨_, rfl⟩)) h1, h2⟩
theorem gap_rd {G : ByteArray} (hG : G ∈ Gs) {p : Nat} {B : List UInt8} {l : List Tok} (h : Rd p B l) (q : Nat) : ∃ l', Rd q (G.data.toList ++ B) l' ∧ l'.map pl = l.map pl := by
  have h0 : ∀ q, ∃ l', Rd q B l' ∧ l'.map pl = l.map pl := h.move
  simp only [Gs, List.mem_cons, List.not_mem_nil, or_false] at hG
  rcases hG with rfl | rfl | rfl | rfl
  · exact bl_rd 32 (by decide) h0 q
  · exact bl_rd 10 (by decide) (fun q => bl_rd 9 (by decide) h0 q) q
  · exact rm_rd (y := [32, 97, 32, 123, 114, 101, 109, 97, 114, 107]) (by decide) (fun q => bl_rd 10 (by decide) h0 q) q
  · exact bl_rd 13 (by decide) (fun q => bl_rd 10 (by decide) (fun q => rm_rd (y := [32, 92, 49]) (by decide) (fun q => bl_rd 10 (by decide) (fun q => bl_rd 32 (by decide) h0 q) q) q) q) q
theorem gap_ok {G : ByteArray} (hG : G ∈ Gs) (B : List UInt8) : Ok (G.data.toList ++ B) ∧ V G.data.toList := by
  simp only [Gs, List.mem_cons, List.not_mem_nil, or_false] at hG
  rcases hG with rfl | rfl | rfl | rfl
  · exact ⟨ok_blank (c := 32) (by decide), V.low (by decide)⟩
  · exact ⟨ok_blank (c := 10) (by decide), V.low (by decide)⟩
  · exact ⟨⟨rfl, ws_stop (c := 37) (by decide) (by decide)⟩, V.low (by decide)⟩
  · exact ⟨ok_blank (c := 13) (by decide), V.low (by decide)⟩
theorem open_loop (s : ByteArray) (hs : s.size ≤ 1000000000000) : ∀ (d i : Nat), i + d = s.size → Ev (fun k => variorumlaw05_open.l0 k s (i : Int)) (decide (37 ∈ s.data.toList.drop i)) := by
  intro d
  have hl : s.data.toList.length = s.size := (Lib.size_eq s).symm
  induction d with
  | zero =>
    intro i hi
    rw [List.drop_of_length_le (by omega)]
    refine Ev.step (f := fun _ => some false) (fun k => ?_) (by rw [decide_eq_false (by simp)]; exact Ev.now _)
    simp only [variorumlaw05_open.l0]; rw [if_neg (by omega)]
  | succ d ih =>
    intro i hi
    have hil : i < s.data.toList.length := by omega
    have hb : bt s (i : Int) = ((s.data.toList[i]).toNat : Int) := by
      rw [bt_g, g_list, List.getD_eq_getElem?_getD, List.getElem?_eq_getElem hil]; rfl
    have g1 : (i : Int) < (s.size : Int) := by omega
    have g2 : (0 : Int) ≤ (i : Int) := by omega
    rw [List.drop_eq_getElem_cons hil]
    by_cases h : s.data.toList[i] = 37
    · refine Ev.step (f := fun _ => some true) (fun k => ?_) (by rw [decide_eq_true (by rw [h]; exact List.mem_cons_self)]; exact Ev.now _)
      simp only [variorumlaw05_open.l0]
      rw [if_pos g1, if_pos g2, hb, h, if_pos (by decide)]
    · have h2 := ih (i + 1) (by omega)
      rw [← wrap_succ (show i ≤ 1000000000000000 by omega)] at h2
      have e : decide (37 ∈ s.data.toList[i] :: s.data.toList.drop (i + 1)) = decide (37 ∈ s.data.toList.drop (i + 1)) := by
        rw [decide_eq_decide, List.mem_cons]
        exact ⟨fun h3 => h3.resolve_left (fun e => h e.symm), .inr⟩
      rw [e]
      refine Ev.step (fun k => ?_) h2
      simp only [variorumlaw05_open.l0]
      rw [if_pos g1, if_pos g2, hb, if_neg (fun e => h (UInt8.toNat_inj.1 (by show _ = 37; omega)))]
theorem gaps_j1 {a0 : ByteArray} (h0 : a0.size + 1 ≤ 1048576) {l : List Tok} (hl : l.length ≤ a0.size) {p : Nat} (hp : p ≤ a0.size) (a2 : Int) (h2 : (Lit.int .i64 a2).wf = true)
    (h : ∀ G ∈ Gs, ∃ l3, V (a0.data.toList.take p ++ G.data.toList ++ a0.data.toList.drop p) ∧ Rd 0 (a0.data.toList.take p ++ G.data.toList ++ a0.data.toList.drop p) l3 ∧ l3.map pl = l.map pl) :
    Ev (fun k => variorumlaw05_LexerGaps.j1 k a0 a2 (l.map tokS) Gs (p : Int)) true := by
  obtain ⟨m, hm⟩ : ∃ m, Int.tmod (wrap64 ((Int.tmod a2 4) + 4)) 4 = m := ⟨_, rfl⟩
  have hlen : a0.data.toList.length = a0.size := (Lib.size_eq a0).symm
  have hm0 : 0 ≤ m ∧ m < 4 := by
    have b1 := Int.tmod_lt_of_pos a2 (show (0 : Int) < 4 by decide)
    have b2 : -4 < Int.tmod a2 4 := by
      have := Int.lt_tmod_of_pos a2 (show (0 : Int) < 4 by decide)
      omega
    rw [wrap_small (by omega), Int.tmod_eq_emod_of_nonneg (by omega)] at hm
    omega
  obtain ⟨G, hG⟩ : ∃ G, rdOf ByteArray.empty Gs m = G := ⟨_, rfl⟩
  have hGm : G ∈ Gs := hG ▸ gs_pick hm0.1 hm0.2
  have hGs := gs_small hGm
  obtain ⟨l3, hv, hrd, hpl⟩ := h G hGm
  obtain ⟨T, hT⟩ : ∃ T : ByteArray, (a0.extract 0 p ++ G) ++ a0.extract p a0.size = T := ⟨_, rfl⟩
  have e1 : (a0.extract 0 p).data.toList = a0.data.toList.take p := by rw [Lib.extract_data, List.drop_zero, Nat.sub_zero]
  have e2 : (a0.extract p a0.size).data.toList = a0.data.toList.drop p := by rw [Lib.extract_data, List.take_of_length_le (by rw [List.length_drop]; omega)]
  have s1 : (a0.extract 0 p).size = p := by rw [Lib.size_eq, e1, List.length_take]; omega
  have s2 : (a0.extract p a0.size).size = a0.size - p := by rw [Lib.size_eq, e2, List.length_drop]; omega
  have s3 : (a0.extract 0 p ++ G).size = p + G.size := by rw [ByteArray.size_append, s1]
  have hTl : T.data.toList = a0.data.toList.take p ++ G.data.toList ++ a0.data.toList.drop p := by rw [← hT, app_data, app_data, e1, e2]
  have hTs : T.size = p + G.size + (a0.size - p) := by rw [← hT, ByteArray.size_append, s3, s2]
  rw [← hTl] at hv hrd
  have n3 := rd_len hrd
  rw [← Lib.size_eq] at n3
  refine Ev.step (f := fun k => (lexer_Lex.f k T).bind fun bt294 => (if bt294.2.1 = 0 then ((variorumref05_Plain.f k bt294.1).bind fun t300 => ((variorumref05_Plain.f k (l.map tokS)).bind fun t303 => ((variorumref05_Same.f k t300 t303).bind fun t306 => (some t306)))) else (none))) (fun k => ?_) (Ev.bind (lex_ok (by omega) hv hrd) ?_)
  · simp only [variorumlaw05_LexerGaps.j1]
    rw [hm, hG, if_pos (by omega), if_pos (by omega), if_pos hm0.1, if_pos (by show m < 4; exact hm0.2), Int.toNat_natCast, s1, s3, s2, if_pos (by omega), if_pos (by omega), hT]
  · simp only [if_true]
    refine Ev.bind (plain_ev _ (by rw [List.length_map]; omega)) (Ev.bind (plain_ev _ (by rw [List.length_map]; omega)) ?_)
    rw [pls_same hpl]
    exact Ev.bind (same_ev _ (by rw [List.length_map, List.length_map]; omega)) (Ev.now _)
theorem LexerGaps : variorumlaw05_LexerGaps.Pure := by
  intro a0 a1 a2 _ h0 _ h2
  have hlen : a0.data.toList.length = a0.size := (Lib.size_eq a0).symm
  obtain ⟨r, hr, h⟩ := lex_any a0 (by omega)
  refine Ev.rounds ?_
  unfold variorumlaw05_LexerGaps.f
  refine Ev.bind hr (Ev.bind fixed_ev ?_)
  simp only [if_true]
  have bad : ∀ x, Ev (fun k => variorumlaw05_LexerGaps.j0 k a0 a1 a2 x true) true := fun x => Ev.step (f := fun k => (variorumlaw05_fixed.f k).bind fun t => some t) (fun k => by simp only [variorumlaw05_LexerGaps.j0, if_true]) (Ev.bind fixed_ev (Ev.now _))
  rcases h with ⟨hv, l, hl, rfl⟩ | ⟨_, hne, _⟩
  · simp only [if_true]
    by_cases hneg : a1 < 0
    · simp only [if_pos hneg]; exact bad _
    · simp only [if_neg hneg]
      have n1 := rd_len hl
      by_cases hbig : a1 > ((l.map tokS).length : Int)
      · rw [decide_eq_true hbig]; exact bad _
      · rw [decide_eq_false hbig]
        obtain ⟨n, rfl⟩ : ∃ n : Nat, a1 = (n : Int) := ⟨a1.toNat, by omega⟩
        rw [List.length_map] at hbig
        by_cases hin : n < l.length
        · obtain ⟨⟨k, t, a⟩, hk⟩ : ∃ u, l[n] = u := ⟨_, rfl⟩
          have hsp : l = l.take n ++ (k, t, a) :: l.drop (n + 1) := by
            conv => lhs; rw [← List.take_append_drop n l, List.drop_eq_getElem_cons hin, hk]
          obtain ⟨A, x, R, e, ha, hx, hl2, _, hR⟩ := hl.split _ k t a _ hsp
          have hvv := hl.split_v hv _ k t a _ hsp A (x ++ R) e ha
          have haA : a = A.length := by omega
          have hAs : A.length ≤ a0.size := by rw [← hlen, e, List.length_append]; omega
          have hj := gaps_j1 h0 (l := l) (by omega) (p := a) (by omega) a2 h2 (fun G hG => by
            rw [e, haA, List.take_left, List.drop_left, List.append_assoc]
            obtain ⟨l4, h4, h5⟩ := gap_rd hG (Rd.tok (p := a) hx hl2) a
            have hok := gap_ok hG (x ++ R)
            refine ⟨l.take n ++ l4, V.app hvv.1 (V.app hok.2 hvv.2), hR _ _ hok.1 h4, ?_⟩
            conv => rhs; rw [hsp]
            rw [List.map_append, List.map_append, h5])
          refine Ev.step (f := fun k => variorumlaw05_LexerGaps.j1 k a0 a2 (l.map tokS) Gs (a : Int)) (fun k' => ?_) hj
          have hin' : (n : Int) < ((l.map tokS).length : Int) := by rw [List.length_map]; omega
          have hat : (rd_T38 (l.map tokS) (n : Int)).f2 = (a : Int) := by
            rw [rd_at (by rw [List.length_map]; exact hin), List.getElem_map, hk]; rfl
          simp only [variorumlaw05_LexerGaps.j0]
          rw [if_neg (by decide)]
          simp only [Option.bind_some]
          rw [if_pos hin', if_pos (by omega), hat]
          rfl
        · have hn : n = l.length := by omega
          have ho := open_loop a0 (by omega) a0.size 0 (by omega)
          rw [List.drop_zero] at ho
          refine Ev.step (f := fun k => (variorumlaw05_open.f k a0).bind fun t292 => (if t292 = true then (some true) else (variorumlaw05_LexerGaps.j1 k a0 a2 (l.map tokS) Gs (a0.size : Int)))) (fun k' => ?_) (Ev.bind (a := decide (37 ∈ a0.data.toList)) ho ?_)
          · have hin' : ¬ (n : Int) < ((l.map tokS).length : Int) := by rw [List.length_map]; omega
            simp only [variorumlaw05_LexerGaps.j0]
            rw [if_neg (by decide)]
            simp only [Option.bind_some]
            rw [if_neg hin']
            rfl
          · by_cases hm : 37 ∈ a0.data.toList
            · simp only [decide_eq_true hm, if_true]; exact Ev.now _
            · simp only [decide_eq_false hm]
              refine Ev.congr (f := fun k => variorumlaw05_LexerGaps.j1 k a0 a2 (l.map tokS) Gs (a0.size : Int)) (fun k => if_neg (by decide)) ?_
              refine gaps_j1 h0 (l := l) (by omega) (Nat.le_refl _) a2 h2 (fun G hG => ?_)
              rw [List.take_of_length_le (by omega), List.drop_of_length_le (by omega), List.append_nil]
              obtain ⟨l4, h4, h5⟩ := gap_rd hG (.nil (p := 0)) (0 + a0.data.toList.length)
              have hok := gap_ok hG []
              rw [List.append_nil] at h4 hok
              refine ⟨l ++ l4, V.app hv hok.2, hl.app _ _ hok.1 (.inl hm) h4, ?_⟩
              rw [List.map_append, h5, List.map_nil, List.append_nil]
  · simp only [if_neg hne]; exact bad _
end Go.Proofs.YtjiljpddkfcdbaaGreatDoor.Pure

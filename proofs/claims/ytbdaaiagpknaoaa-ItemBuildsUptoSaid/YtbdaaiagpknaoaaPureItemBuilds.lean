/- ItemBuilds, where what comes in is of bulk at most 1048576: the items of any words, in prose and in verse, or that they are too many, is as the document says. -/
import Derived.Test.YtbdaaiagpknaoaaPUbx12
import Derived.Test.YtbdaaiagpknaoaaBVerse
namespace Go.Proofs.Ytbdaaiagpknaoaa.Pure
set_option linter.unusedVariables false
set_option linter.unusedSimpArgs false
open Go.RowKit Go.Proofs.Ytbdaaiagpknaoaa.PUb Go.Proofs.YtbdaaiagpknaoaaW.PrintWords Go.Proofs.YtbdaaiagpknaoaaW.PrintLast Go.Proofs.YtbdaaiagpknaoaaW.PrintMore

theorem rdW (ws : List (List S47)) (i : Int) : rd_L6 ws i = rd_W ws i := rfl
theorem rdV (ls : List (List (List S47))) (i : Int) : rd_L7 ls i = rd_V ls i := rfl

/-! ## The document's word, line and verse -/
theorem rword_loop (ps : List S47) (hy wn : Int) (hl : ps.length ≤ 10000000) : ∀ (d i : Nat) (xs : List S45), i + d = ps.length → xs.length + 2 * d + 2 < 1954687338268 → Ev (fun k => variorumref09_word.l0 k hy ps wn xs (i : Int)) (xs ++ wd ps hy wn d i) := by
  intro d
  induction d with
  | zero =>
    intro i xs hi hx
    have g0 : ¬ (i : Int) < (ps.length : Int) := by omega
    refine Ev.step (f := fun _ => some _) (fun k => ?_) (Ev.now _)
    simp only [variorumref09_word.l0]; rw [if_neg g0]; simp [wd]
  | succ d ih =>
    intro i xs hi hx
    have g1 : (i : Int) < (ps.length : Int) := by omega
    have g2 : (0 : Int) ≤ (i : Int) := by omega
    have g3 : i ≤ 1000000000000000 := by omega
    have g4 : xs.length < 1954687338268 := by omega
    by_cases c : (i : Int) > 0
    · have e : xs ++ wd ps hy wn (d + 1) i = ((xs ++ [pni hy]) ++ [bxi ps wn i]) ++ wd ps hy wn d (i + 1) := by
        simp only [wd]; rw [if_pos c]; simp
      rw [e]
      have g5 : (xs ++ [pni hy]).length < 1954687338268 := by simp; omega
      refine Ev.step (fun k => ?_) (ih (i + 1) ((xs ++ [pni hy]) ++ [bxi ps wn i]) (by omega) (by simp; omega))
      simp only [variorumref09_word.l0, Option.bind_some]; rw [if_pos g1, if_pos c, if_pos g4, if_pos g2, if_pos (show (xs ++ [(⟨2, (⟨hy, 0, 0, 0⟩ : S23), 50, true, 0, 0⟩ : S45)]).length < 1954687338268 from g5), succ_w i g3]; rfl
    · have e : xs ++ wd ps hy wn (d + 1) i = (xs ++ [bxi ps wn i]) ++ wd ps hy wn d (i + 1) := by
        simp only [wd]; rw [if_neg c]; simp
      rw [e]
      refine Ev.step (fun k => ?_) (ih (i + 1) (xs ++ [bxi ps wn i]) (by omega) (by simp; omega))
      simp only [variorumref09_word.l0]; rw [if_pos g1, if_neg c, if_pos g2, if_pos g4, succ_w i g3]; rfl
theorem rword_ev (ps : List S47) (hy wn : Int) (hl : ps.length ≤ 10000000) : Ev (fun k => variorumref09_word.f k hy ps wn) (wd ps hy wn ps.length 0) := by
  have := rword_loop ps hy wn hl ps.length 0 [] (by omega) (by simp; omega)
  rwa [List.nil_append] at this

section
variable (m0 m1 m2 m3 m4 hy : Int) (m5 : List S85) (m6 : List S87) (m7 : List S89)
theorem rline_loop (ls : List (List (List S47))) (li : Nat) (hli : li < ls.length) (hl : (rd_V ls (li : Int)).length ≤ 10000000) (hp : ∀ i : Int, (rd_W (rd_V ls (li : Int)) i).length ≤ 10000000) (hlb : li ≤ 1000000000) (r : List S45 × Int × Int) : ∀ (d i wn : Nat) (xs : List S45), i + d = (rd_V ls (li : Int)).length → wn + d ≤ 1000000000 → xs.length + lc (rd_V ls (li : Int)) d i + 2 < 1954687338268 →
    Ev (fun k => variorumref09_Verse.l0 k hy ls (xs ++ ld m0 m1 m2 m3 hy (rd_V ls (li : Int)) d i wn) ((wn + d : Nat) : Int) ((li + 1 : Nat) : Int) m0 m1 m2 m3 m4 m5 m6 m7) r →
    Ev (fun k => variorumref09_Verse.l1 k hy ls xs (wn : Int) (li : Int) (i : Int) m0 m1 m2 m3 m4 m5 m6 m7) r := by
  have q1 : (0 : Int) ≤ (li : Int) := by omega
  have q2 : (li : Int) < (ls.length : Int) := by omega
  intro d
  induction d with
  | zero =>
    intro i wn xs hi hw hx hn
    have q3 : ¬ (i : Int) < ((rd_L7 ls (li : Int)).length : Int) := by rw [rdV]; omega
    have q4 : xs.length + bends.length < 1954687338268 := by simp only [lc] at hx; simp [bends]; omega
    refine Ev.step (fun k => ?_) hn
    simp only [variorumref09_Verse.l1, variorumref09_End.f, Option.bind_some]
    rw [if_pos q1, if_pos q2, if_neg q3, succ_w li (by omega)]
    exact if_pos q4
  | succ d ih =>
    intro i wn xs hi hw hx hn
    have hx2 := hx
    simp only [lc] at hx2
    have h3 := lc_ge (rd_V ls (li : Int)) d (i + 1)
    have hq := hp (i : Int)
    have q3 : (i : Int) < ((rd_L7 ls (li : Int)).length : Int) := by rw [rdV]; omega
    have g2 : (0 : Int) ≤ (i : Int) := by omega
    have g3 : i ≤ 1000000000000000 := by omega
    have g4 : xs.length < 1954687338268 := by omega
    have g5 : wn ≤ 1000000000000000 := by omega
    have hwl := wd_len (rd_W (rd_V ls (li : Int)) (i : Int)) hy (wn : Int) (rd_W (rd_V ls (li : Int)) (i : Int)).length 0
    have key : ∀ a : List S45, a.length ≤ xs.length + 1 → xs ++ ld m0 m1 m2 m3 hy (rd_V ls (li : Int)) (d + 1) i wn = (a ++ wd (rd_W (rd_V ls (li : Int)) (i : Int)) hy (wn : Int) (rd_W (rd_V ls (li : Int)) (i : Int)).length 0) ++ ld m0 m1 m2 m3 hy (rd_V ls (li : Int)) d (i + 1) (wn + 1) → Ev (fun k => (variorumref09_word.f k hy (rd_W (rd_V ls (li : Int)) (i : Int)) (wn : Int)).bind fun t => (if a.length + t.length < 1954687338268 then variorumref09_Verse.l1 k hy ls (a ++ t) ((wn + 1 : Nat) : Int) (li : Int) ((i + 1 : Nat) : Int) m0 m1 m2 m3 m4 m5 m6 m7 else none)) r := by
      intro a ha e
      refine Ev.bind (rword_ev _ hy _ hq) ?_
      simp only [if_pos (show a.length + (wd (rd_W (rd_V ls (li : Int)) (i : Int)) hy (wn : Int) (rd_W (rd_V ls (li : Int)) (i : Int)).length 0).length < 1954687338268 by omega)]
      refine ih (i + 1) (wn + 1) _ (by omega) (by omega) (by rw [List.length_append]; omega) ?_
      rw [← e, show wn + 1 + d = wn + (d + 1) by omega]; exact hn
    by_cases c : (i : Int) > 0
    · refine Ev.step (fun k => ?_) (key (xs ++ [spi m0 m1 m2 m3]) (by simp) (by simp only [ld]; rw [if_pos c]; simp))
      simp only [variorumref09_Verse.l1, Option.bind_some]; rw [if_pos q1, if_pos q2, if_pos q3, if_pos c, if_pos g4, if_pos g2, succ_w i g3, succ_w wn g5]; rfl
    · refine Ev.step (fun k => ?_) (key xs (by omega) (by simp only [ld]; rw [if_neg c]; simp))
      simp only [variorumref09_Verse.l1]; rw [if_pos q1, if_pos q2, if_pos q3, if_neg c, if_pos g2, succ_w i g3, succ_w wn g5]; rfl
theorem rverse_loop (ls : List (List (List S47))) (hl : ls.length ≤ 10000000) (hw : ∀ i : Int, (rd_V ls i).length ≤ 10000000) (hp : ∀ i j : Int, (rd_W (rd_V ls i) j).length ≤ 10000000) : ∀ (d i wn : Nat) (xs : List S45), i + d = ls.length → wn + vw ls d i ≤ 1000000000 → xs.length + vc ls d i + 2 < 1954687338268 → Ev (fun k => variorumref09_Verse.l0 k hy ls xs (wn : Int) (i : Int) m0 m1 m2 m3 m4 m5 m6 m7) (dn (xs ++ vd m0 m1 m2 m3 hy ls d i wn)) := by
  intro d
  induction d with
  | zero =>
    intro i wn xs hi hn hx
    have g0 : ¬ (i : Int) < (ls.length : Int) := by omega
    have hx2 : xs.length ≤ 1000000000000000 := by omega
    refine Ev.step (f := fun k => (variorumref09_May.f k xs).bind fun t => (if t = true then some (xs, 0, 0) else some ([], 90, 0))) (fun k => ?_) (Ev.bind (rmay9_ev xs hx2) ?_)
    · simp only [variorumref09_Verse.l0]; rw [if_neg g0]
    · simp only [vd, List.append_nil, dn]
      by_cases h : mi xs = true
      · simp only [if_pos h]; exact Ev.now _
      · simp only [if_neg h]; exact Ev.now _
  | succ d ih =>
    intro i wn xs hi hn hx
    simp only [vw] at hn
    simp only [vc] at hx
    have g1 : (i : Int) < (ls.length : Int) := by omega
    have hlen := ld_len m0 m1 m2 m3 hy (rd_V ls (i : Int)) (rd_V ls (i : Int)).length 0 wn
    have e : xs ++ vd m0 m1 m2 m3 hy ls (d + 1) i wn = (xs ++ ld m0 m1 m2 m3 hy (rd_V ls (i : Int)) (rd_V ls (i : Int)).length 0 wn) ++ vd m0 m1 m2 m3 hy ls d (i + 1) (wn + (rd_V ls (i : Int)).length) := by simp [vd]
    rw [e]
    refine Ev.step (f := fun k => variorumref09_Verse.l1 k hy ls xs (wn : Int) (i : Int) ((0 : Nat) : Int) m0 m1 m2 m3 m4 m5 m6 m7) (fun k => ?_) (rline_loop m0 m1 m2 m3 m4 hy m5 m6 m7 ls i (by omega) (hw _) (hp _) (by omega) _ (rd_V ls (i : Int)).length 0 wn xs (by omega) (by omega) (by omega) (ih (i + 1) (wn + (rd_V ls (i : Int)).length) _ (by omega) (by omega) (by rw [List.length_append]; omega)))
    simp only [variorumref09_Verse.l0]; rw [if_pos g1]; rfl

theorem both {x2 : List (List (List S47))} (hk : OpenB.bulkOf B2 x2 ≤ 3000000) : Ev (fun k => item_Verse.f k m0 m1 m2 m3 m4 m5 m6 m7 hy x2) (dn (vd m0 m1 m2 m3 hy x2 x2.length 0 0)) ∧ Ev (fun k => variorumref09_Verse.f k m0 m1 m2 m3 m4 m5 m6 m7 hy x2) (dn (vd m0 m1 m2 m3 hy x2 x2.length 0 0)) := by
  have hx : x2.length + 1 ≤ OpenB.bulkOf B2 x2 := bulk_len _ (fun x => bulk_pos _ x) _
  have hV : ∀ i : Int, B2 (rd_V x2 i) ≤ 3000000 := by
    intro i
    unfold rd_V
    rcases getD_mem x2 i.toNat with h | h
    · rw [h]; decide
    · have := bulk_mem B2 h; omega
  have hl : ∀ i : Int, (rd_V x2 i).length ≤ 10000000 := fun i => by
    have h1 : (rd_V x2 i).length + 1 ≤ B2 (rd_V x2 i) := bulk_len _ (fun x => bulk_pos _ x) _
    have := hV i; omega
  have hW : ∀ i j : Int, (rd_W (rd_V x2 i) j).length ≤ 10000000 := by
    intro i j
    have h0 := hV i
    unfold rd_W
    rcases getD_mem (rd_V x2 i) j.toNat with h | h
    · rw [h]; decide
    · have h1 := bulk_mem B1 h
      have h2 : ((rd_V x2 i).getD j.toNat []).length + 1 ≤ B1 ((rd_V x2 i).getD j.toNat []) := bulk_len _ (fun _ => Nat.le_refl _) _
      simp only [B2] at h0
      omega
  have hv := v_bulk x2 x2.length 0 (by omega)
  rw [List.drop_zero] at hv
  have verse := verse_loop m0 m1 m2 m3 hy x2 (by omega) hl hW x2.length 0 0 [] (by omega) (by omega) (by simp; omega)
  have rverse := rverse_loop m0 m1 m2 m3 m4 hy m5 m6 m7 x2 (by omega) hl hW x2.length 0 0 [] (by omega) (by omega) (by simp; omega)
  rw [List.nil_append] at verse rverse
  exact ⟨verse, rverse⟩
end
theorem dn_len (l : List S45) : (dn l).1.length ≤ 2000 := by
  unfold dn
  by_cases h : mi l = true
  · rw [if_pos h]
    unfold mi at h
    simp only [Bool.and_eq_true, decide_eq_true_eq] at h
    show l.length ≤ 2000
    omega
  · rw [if_neg h]; simp

theorem ItemBuilds : variorumlaw09_ItemBuilds.Pure := by
  intro x0 x1 x2 _ _ _ _ hk
  refine Ev.rounds (g := fun k => variorumlaw09_ItemBuilds.f k x0.f0.f0 x0.f0.f1 x0.f0.f2 x0.f0.f3 x0.f1 x0.f2 x0.f3 x0.f4 x1 x2) ?_
  have hk : OpenB.bulkOf B2 x2 ≤ 1048576 := hk
  obtain ⟨v1, v2⟩ := both x0.f0.f0 x0.f0.f1 x0.f0.f2 x0.f0.f3 x0.f1 x1 x0.f2 x0.f3 x0.f4 (x2 := x2) (by omega)
  have hs := same_ev (dn (vd x0.f0.f0 x0.f0.f1 x0.f0.f2 x0.f0.f3 x1 x2 x2.length 0 0)).1 (by have := dn_len (vd x0.f0.f0 x0.f0.f1 x0.f0.f2 x0.f0.f3 x1 x2 x2.length 0 0); omega)
  have tail : ∀ w : List (List S47), B2 w ≤ 2000000 → Ev (fun k => (item_Prose.f k x0.f0.f0 x0.f0.f1 x0.f0.f2 x0.f0.f3 x0.f1 x0.f2 x0.f3 x0.f4 x1 w).bind fun bt274 => ((variorumref09_Verse.f k x0.f0.f0 x0.f0.f1 x0.f0.f2 x0.f0.f3 x0.f1 x0.f2 x0.f3 x0.f4 x1 (([w] : List (List (List (S47)))))).bind fun bt283 => ((variorumlaw09_fixed.f k).bind fun t289 => (if t289 = true then ((variorumref09_Same.f k (dn (vd x0.f0.f0 x0.f0.f1 x0.f0.f2 x0.f0.f3 x1 x2 x2.length 0 0)).1 (dn (vd x0.f0.f0 x0.f0.f1 x0.f0.f2 x0.f0.f3 x1 x2 x2.length 0 0)).1).bind fun t290 => (if t290 = true then (if ((dn (vd x0.f0.f0 x0.f0.f1 x0.f0.f2 x0.f0.f3 x1 x2 x2.length 0 0)).2.1 == (dn (vd x0.f0.f0 x0.f0.f1 x0.f0.f2 x0.f0.f3 x1 x2 x2.length 0 0)).2.1 && ((dn (vd x0.f0.f0 x0.f0.f1 x0.f0.f2 x0.f0.f3 x1 x2 x2.length 0 0)).2.2 == (dn (vd x0.f0.f0 x0.f0.f1 x0.f0.f2 x0.f0.f3 x1 x2 x2.length 0 0)).2.2)) = true then ((variorumref09_Same.f k bt274.1 bt283.1).bind fun t291 => (if t291 = true then (some (bt274.2.1 == bt283.2.1 && (bt274.2.2 == bt283.2.2))) else (none))) else (none)) else (none))) else (none))))) true := by
    intro w hw
    obtain ⟨u1, u2⟩ := both x0.f0.f0 x0.f0.f1 x0.f0.f2 x0.f0.f3 x0.f1 x1 x0.f2 x0.f3 x0.f4 (x2 := [w]) (by simp only [OpenB.bulkOf]; omega)
    have hs2 := same_ev (dn (vd x0.f0.f0 x0.f0.f1 x0.f0.f2 x0.f0.f3 x1 [w] [w].length 0 0)).1 (by have := dn_len (vd x0.f0.f0 x0.f0.f1 x0.f0.f2 x0.f0.f3 x1 [w] [w].length 0 0); omega)
    have u3 : Ev (fun k => item_Prose.f k x0.f0.f0 x0.f0.f1 x0.f0.f2 x0.f0.f3 x0.f1 x0.f2 x0.f3 x0.f4 x1 w) (dn (vd x0.f0.f0 x0.f0.f1 x0.f0.f2 x0.f0.f3 x1 [w] [w].length 0 0)) := by
      unfold item_Prose.f
      exact Ev.bind u1 (Ev.now _)
    refine Ev.bind u3 (Ev.bind u2 (Ev.bind fixed_ev ?_))
    simp only [if_true]
    refine Ev.bind hs ?_
    simp only [if_true, beq_self_eq_true, Bool.and_self]
    refine Ev.bind hs2 ?_
    simp only [if_true]
    exact Ev.now _
  unfold variorumlaw09_ItemBuilds.f
  refine Ev.bind v1 (Ev.bind v2 ?_)
  simp only [Option.bind_some]
  by_cases c : (x2.length : Int) > 0
  · have c2 : (0 : Int) < (x2.length : Int) := by omega
    simp only [if_pos c, if_pos c2]
    refine tail (rd_L7 x2 0) ?_
    rw [rdV]
    unfold rd_V
    rcases getD_mem x2 (Int.toNat 0) with h | h
    · rw [h]; decide
    · have := bulk_mem B2 h; omega
  · simp only [if_neg c]
    exact tail [] (by decide)

end Go.Proofs.Ytbdaaiagpknaoaa.Pure

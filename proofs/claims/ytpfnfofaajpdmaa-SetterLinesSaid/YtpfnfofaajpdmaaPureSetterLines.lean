/- SetterLines: a paragraph's lines, and its words, are as the document says. -/
import Derived.Test.YtpfnfofaajpdmaaPLnx22
import Derived.Test.YtpfnfofaajpdmaaLLine
import Derived.Test.YtpfnfofaajpdmaaLRef
namespace Go.Proofs.Ytpfnfofaajpdmaa.Pure
set_option linter.unusedVariables false
set_option linter.unusedSimpArgs false
open Go.RowKit Go.Proofs.Ytpfnfofaajpdmaa.PLn Go.Proofs.YtpfnfofaajpdmaaW.PrintWords Go.Proofs.YtpfnfofaajpdmaaW.PrintLast Go.Proofs.YtpfnfofaajpdmaaW.PrintMore

/-! ## Widths, as the document says -/
theorem sv_e {g : List S38} {t : Int} (h : (sv g t).2.2.2.2 = true) : ((sv g t).1 = 0 ∨ (sv g t).1 = 1 ∨ ((sv g t).1 = -1 ∧ (sv g t).2.2.1 < 0)) ∧ -1073741823 ≤ (sv g t).2.2.1 ∧ (sv g t).2.2.1 ≤ 1073741823 := by
  have hm := sv_my h
  unfold sv at h ⊢
  rw [if_pos hm] at h ⊢
  by_cases c : (sb t (tt g).1).2 = true
  · rw [if_pos c]
    have e : (sw (sb t (tt g).1).1 (tt g)).2.2.1 = (sb t (tt g).1).1 := (sw_sign _ _).1
    refine ⟨?_, ?_⟩
    · unfold sw
      repeat' split
      all_goals first | exact .inl rfl | exact .inr (.inl rfl) | exact .inr (.inr ⟨rfl, by assumption⟩)
    · rw [e]
      unfold sb at c ⊢
      split at c
      · split at c
        · split at c
          · rename_i c1 c2 c3
            rw [if_pos c1, if_pos c2, if_pos c3]
            exact fi_iff.1 c3
          · cases c
        · cases c
      · cases c
  · rw [if_neg c] at h; cases h
theorem rgives_loop (g : List S38) (hl : g.length ≤ 2000) (s : T5) (hs : s.1 = 0 ∨ s.1 = 1 ∨ s.1 = -1) (x y : Int) : ∀ (d i : Nat) (acc : Int), i + d = g.length → (-9223372036854775808 ≤ acc ∧ acc ≤ 9223372036854775807) → Ev (fun k => variorumref03_Gives.l0 k g (g.length : Int) acc (i : Int) s.1 s.2.1 x y) (al g s d i acc) := by
  intro d
  induction d with
  | zero =>
    intro i acc hi ha
    refine Ev.step (f := fun _ => some acc) (fun k => ?_) (Ev.now _)
    simp only [variorumref03_Gives.l0]
    rw [if_neg (by omega)]
  | succ d ih =>
    intro i acc hi ha
    have g1 : (i : Int) < (g.length : Int) := by omega
    have g2 : (0 : Int) ≤ (i : Int) := by omega
    have hw : ∀ z : Int, -9223372036854775808 ≤ wrap64 z ∧ wrap64 z ≤ 9223372036854775807 := fun z => by unfold wrap64; omega
    have h := ih (i + 1) (wrap64 (acc + gv (rd_T38 g (i : Int)) s)) (by omega) (hw _)
    simp only [al]
    rcases hs with c | c | c
    · have e : gv (rd_T38 g (i : Int)) s = 0 := by unfold gv; rw [if_neg (by omega), if_neg (by omega)]
      have e2 : wrap64 (acc + 0) = acc := by rw [Int.add_zero]; exact wrap_small ha
      rw [e, e2] at h ⊢
      refine Ev.step (f := fun k => variorumref03_Gives.j1 k g (g.length : Int) acc (i : Int) false s.1 s.2.1 x y) (fun k => ?_) (Ev.step (fun k => ?_) h)
      · simp only [variorumref03_Gives.l0]
        rw [if_pos g1, if_neg (by omega)]
      · simp only [variorumref03_Gives.j1]
        rw [if_neg (by decide), if_neg (by omega), succ_w i (by omega)]
    · by_cases c2 : (rd_T38 g (i : Int)).f3 = s.2.1
      · have e : gv (rd_T38 g (i : Int)) s = (rd_T38 g (i : Int)).f1 := by unfold gv; rw [if_pos (by omega), if_pos c2]
        rw [e] at h ⊢
        refine Ev.step (f := fun k => variorumref03_Gives.j1 k g (g.length : Int) acc (i : Int) true s.1 s.2.1 x y) (fun k => ?_) (Ev.step (fun k => ?_) h)
        · simp only [variorumref03_Gives.l0]
          rw [if_pos g1, if_pos c, if_pos g2, if_pos g1, beq_iff_eq.2 c2]
        · simp only [variorumref03_Gives.j1]
          rw [if_pos trivial, if_pos g2, if_pos g1, if_neg (by omega), succ_w i (by omega)]
      · have e : gv (rd_T38 g (i : Int)) s = 0 := by unfold gv; rw [if_pos (by omega), if_neg c2]
        have e2 : wrap64 (acc + 0) = acc := by rw [Int.add_zero]; exact wrap_small ha
        rw [e, e2] at h ⊢
        refine Ev.step (f := fun k => variorumref03_Gives.j1 k g (g.length : Int) acc (i : Int) false s.1 s.2.1 x y) (fun k => ?_) (Ev.step (fun k => ?_) h)
        · simp only [variorumref03_Gives.l0]
          rw [if_pos g1, if_pos c, if_pos g2, if_pos g1, beq_eq_false_iff_ne.2 c2]
        · simp only [variorumref03_Gives.j1]
          rw [if_neg (by decide), if_neg (by omega), succ_w i (by omega)]
    · have e : gv (rd_T38 g (i : Int)) s = (rd_T38 g (i : Int)).f2 := by unfold gv; rw [if_neg (by omega), if_pos (by omega)]
      rw [e] at h ⊢
      refine Ev.step (f := fun k => variorumref03_Gives.j1 k g (g.length : Int) acc (i : Int) false s.1 s.2.1 x y) (fun k => ?_) (Ev.step (fun k => ?_) h)
      · simp only [variorumref03_Gives.l0]
        rw [if_pos g1, if_neg (by omega)]
      · simp only [variorumref03_Gives.j1]
        rw [if_neg (by decide), if_pos c, if_pos g2, if_pos g1, succ_w i (by omega)]
theorem rgives_ev (g : List S38) (hl : g.length ≤ 2000) (s : T5) (hs : s.1 = 0 ∨ s.1 = 1 ∨ s.1 = -1) (x y : Int) : Ev (fun k => variorumref03_Gives.f k g (g.length : Int) s.1 s.2.1 x y) (al g s g.length 0 0) := rgives_loop g hl s hs x y g.length 0 0 (by omega) (by omega)
theorem one_list (g : List S38) (i : Nat) (h : i < g.length) : (g.take (i + 1)).drop i = [rd_T38 g (i : Int)] := by
  have e : rd_T38 g (i : Int) = g[i] := by unfold rd_T38; rw [Int.toNat_natCast, List.getD_eq_getElem?_getD, List.getElem?_eq_getElem h]; rfl
  rw [e, List.drop_eq_getElem_cons (by rw [List.length_take]; omega), List.drop_of_length_le (by rw [List.length_take]; omega), List.getElem_take]
theorem rgives_one (x : S38) (s : T5) (hs : s.1 = 0 ∨ s.1 = 1 ∨ s.1 = -1) (a b : Int) (hg : 0 ≤ gv x s ∧ gv x s ≤ 1073741823) : Ev (fun k => variorumref03_Gives.f k [x] 1 s.1 s.2.1 a b) (gv x s) := by
  have h := rgives_ev [x] (by simp) s hs a b
  have e : al [x] s [x].length 0 0 = gv x s := by
    show wrap64 (0 + gv (rd_T38 [x] ((0 : Nat) : Int)) s) = gv x s
    rw [show rd_T38 [x] ((0 : Nat) : Int) = x from rfl, wrap_small (by omega)]; omega
  rw [e] at h
  exact h
theorem wrap_assoc (a b c : Int) : wrap64 (wrap64 (a + b) - c) = wrap64 (a + wrap64 (b - c)) := by unfold wrap64; omega
theorem rw_loop {g : List S38} (hm : my g = true) (s : T5) (hs : s.1 = 0 ∨ s.1 = 1 ∨ s.1 = -1) (all part : Int) : ∀ (d i : Nat) (acc : List Int) (sum ahead : Int), i + d = g.length → acc.length ≤ i → (¬ all > 0 → ahead = 0) → Ev (fun k => variorumref03_Widths.l0 k g all part acc sum ahead (i : Int) s.1 s.2.1 0 0) (acc ++ wl g s all part d i sum ahead, true) := by
  have hl := (my_all hm).1
  intro d
  induction d with
  | zero =>
    intro i acc sum ahead hi ha hz
    refine Ev.step (f := fun _ => some _) (fun k => ?_) (Ev.now _)
    simp only [variorumref03_Widths.l0, wl, List.append_nil]
    rw [if_neg (by omega)]
  | succ d ih =>
    intro i acc sum ahead hi ha hz
    have hil : i < g.length := by omega
    have g1 : (i : Int) < (g.length : Int) := by omega
    have g2 : (0 : Int) ≤ (i : Int) := by omega
    have g3 : (i : Int) ≤ wrap64 ((i : Int) + 1) := by rw [succ_w i (by omega)]; omega
    have g4 : wrap64 ((i : Int) + 1) ≤ (g.length : Int) := by rw [succ_w i (by omega)]; omega
    have g5 : acc.length < 17592186044416 := by omega
    have e1 : (g.take ((wrap64 ((i : Int) + 1)) : Int).toNat).drop (i : Int).toNat = [rd_T38 g (i : Int)] := by rw [succ_w i (by omega), Int.toNat_natCast, Int.toNat_natCast, one_list g i hil]
    have gi := gv_in hm s i hil
    have hv := rgives_one (rd_T38 g (i : Int)) s hs 0 0 ⟨gi.1, gi.2.1⟩
    by_cases c : all > 0
    · have c0 : ¬ all = 0 := by omega
      have h := ih (i + 1) (acc ++ [wrap64 ((wrap64 (((rd_T38 g (i : Int)).f0) + (wrap64 (Int.tdiv (wrap64 (part * (wrap64 (sum + gv (rd_T38 g (i : Int)) s)))) all)))) - ahead)]) (wrap64 (sum + gv (rd_T38 g (i : Int)) s)) (wrap64 (Int.tdiv (wrap64 (part * (wrap64 (sum + gv (rd_T38 g (i : Int)) s)))) all)) (by omega) (by rw [List.length_append, List.length_singleton]; omega) (fun x => absurd c x)
      rw [List.append_assoc, wrap_assoc] at h
      simp only [wl, if_pos c]
      refine Ev.step (f := fun k => (variorumref03_Gives.f k [rd_T38 g (i : Int)] 1 s.1 s.2.1 0 0).bind fun t419 => (variorumref03_Widths.l0 k g all part (acc ++ [wrap64 ((wrap64 (((rd_T38 g (i : Int)).f0) + (wrap64 (Int.tdiv (wrap64 (part * (wrap64 (sum + t419)))) all)))) - ahead)]) (wrap64 (sum + t419)) (wrap64 (Int.tdiv (wrap64 (part * (wrap64 (sum + t419)))) all)) ((i + 1 : Nat) : Int) s.1 s.2.1 0 0)) (fun k => ?_) (Ev.bind hv ?_)
      · simp only [variorumref03_Widths.l0]
        rw [if_pos g1, if_pos g2, if_pos g3, if_pos g4, e1]
        simp only [if_pos c, if_neg c0, if_pos g5, succ_w i (show i ≤ 1000000000000000 by omega)]
      · rw [wrap_assoc]
        exact h
    · have p := my_piece hm i hil
      have h := ih (i + 1) (acc ++ [(rd_T38 g (i : Int)).f0]) (wrap64 (sum + gv (rd_T38 g (i : Int)) s)) 0 (by omega) (by rw [List.length_append, List.length_singleton]; omega) (fun _ => rfl)
      have z : ∀ (d i : Nat) (a b a' b' : Int), wl g s all part d i a b = wl g s all part d i a' b' := by
        intro d
        induction d with
        | zero => intro i a b a' b'; rfl
        | succ d ih2 =>
          intro i a b a' b'
          simp only [wl, if_neg c]
          rw [ih2 (i + 1) a b a' b']
      rw [List.append_assoc, z d (i + 1) _ _ sum ahead] at h
      have e0 := hz c
      have e2 : wrap64 (wrap64 ((rd_T38 g (i : Int)).f0) - ahead) = (rd_T38 g (i : Int)).f0 := by rw [e0, wrap_small (x := (rd_T38 g (i : Int)).f0) (by omega), wrap_small (by omega)]; omega
      simp only [wl, if_neg c]
      refine Ev.step (f := fun k => (variorumref03_Gives.f k [rd_T38 g (i : Int)] 1 s.1 s.2.1 0 0).bind fun t419 => (variorumref03_Widths.l0 k g all part (acc ++ [(rd_T38 g (i : Int)).f0]) (wrap64 (sum + t419)) 0 ((i + 1 : Nat) : Int) s.1 s.2.1 0 0)) (fun k => ?_) (Ev.bind hv ?_)
      · simp only [variorumref03_Widths.l0]
        rw [if_pos g1, if_pos g2, if_pos g3, if_pos g4, e1]
        simp only [if_neg c, if_pos g5, succ_w i (show i ≤ 1000000000000000 by omega), e2]
      · exact h
theorem rwidths_ev {g : List S38} {t : Int} (h : (sv g t).2.2.2.2 = true) : Ev (fun k => variorumref03_Widths.f k g t) (ws g t, true) := by
  have hm := sv_my h
  have hl := (my_all hm).1
  have he := sv_e h
  have hs : (sv g t).1 = 0 ∨ (sv g t).1 = 1 ∨ (sv g t).1 = -1 := by omega
  have hal := mv_sums g g.length 0 0 0 0 (my_mv hm) (by omega) (by omega) (sv g t) 0 (by omega) (by omega)
  unfold variorumref03_Widths.f
  refine Ev.bind (rset_ev g t) ?_
  simp only [if_pos h]
  refine Ev.bind (rgives_ev g hl (sv g t) hs _ _) ?_
  unfold ws
  generalize al g (sv g t) g.length 0 0 = all at hal ⊢
  have hloop : ∀ part : Int, Ev (fun k => variorumref03_Widths.j1 k g all part (sv g t).1 (sv g t).2.1 (sv g t).2.2.1 (sv g t).2.2.2.1) (wl g (sv g t) all part g.length 0 0 0, true) := by
    intro part
    have q := rw_loop hm (sv g t) hs all part g.length 0 [] 0 0 (by omega) (by simp) (fun _ => rfl)
    rw [List.nil_append] at q
    refine Ev.step (fun k => ?_) q
    simp only [variorumref03_Widths.j1]
    rfl
  have e1 : wrap64 (-all) = -all := wrap_small (by omega)
  have e2 : wrap64 (-(sv g t).2.2.1) = -(sv g t).2.2.1 := wrap_small (by omega)
  unfold pt_
  by_cases c : (sv g t).1 = -1
  · simp only [if_pos c, if_pos (show (sv g t).1 < 0 by omega), e1, e2]
    by_cases c2 : (sv g t).2.2.1 < -all
    · have e3 : wrap64 (-(mn (-(sv g t).2.2.1) all)) = -all := by
        rw [wrap_small (by unfold mn; split <;> omega)]; unfold mn; split <;> omega
      rw [decide_eq_true c2, e3]
      refine Ev.step (fun k => ?_) (hloop (-all))
      simp only [variorumref03_Widths.j0, e1]
      rfl
    · have e3 : wrap64 (-(mn (-(sv g t).2.2.1) all)) = (sv g t).2.2.1 := by
        rw [wrap_small (by unfold mn; split <;> omega)]; unfold mn; split <;> omega
      rw [decide_eq_false c2, e3]
      refine Ev.step (fun k => ?_) (hloop _)
      simp only [variorumref03_Widths.j0]
      rw [if_neg (by decide)]
  · simp only [if_neg c, if_neg (show ¬ (sv g t).1 < 0 by omega)]
    refine Ev.step (fun k => ?_) (hloop _)
    simp only [variorumref03_Widths.j0]
    rw [if_neg (by decide)]

/-! ## A line, as the document says -/
theorem ar_all1 (l : List S40) : ∀ d i, ar l d i = true → ∀ j, i ≤ j → j < i + d → ri (rd_T40 l (j : Int)) = true
  | 0, i => fun _ j h1 h2 => by omega
  | d + 1, i => fun h j h1 h2 => by
    simp only [ar, Bool.and_eq_true] at h
    by_cases e : j = i
    · rw [e]; exact h.1
    · exact ar_all1 l d (i + 1) h.2 j (by omega) (by omega)
theorem mi_kind {l : List S40} (h : mi l = true) (j : Nat) (hj : j < l.length) : (rd_T40 l (j : Int)).f0 = 0 ∨ (rd_T40 l (j : Int)).f0 = 1 ∨ (rd_T40 l (j : Int)).f0 = 2 := by
  unfold mi at h
  simp only [Bool.and_eq_true] at h
  have r := ar_all1 l _ _ h.2.1 j (by omega) (by omega)
  unfold ri rj at r
  by_cases c0 : (rd_T40 l (j : Int)).f0 = 0
  · exact .inl c0
  · by_cases c1 : (rd_T40 l (j : Int)).f0 = 1
    · exact .inr (.inl c1)
    · by_cases c2 : (rd_T40 l (j : Int)).f0 = 2
      · exact .inr (.inr c2)
      · rw [if_neg c0, if_neg c1, if_neg c2] at r; cases r
theorem rbl_ev {l : List S40} (hm : mi l = true) (w : List Int) (b : Nat) (hb : b < l.length) (fr tO : Int) (hy : Bool) (bad : Int) : ∀ (d i j : Nat) (acc : List S42) (X : Int), i + d = b → acc.length ≤ i → j ≤ i → j + (cl l d i).length ≤ w.length →
    Ev (fun k => variorumref12_Line.l0 k l (b : Int) w (j : Int) (i : Int) fr tO acc hy X bad) (fr, tO, acc ++ (bl l w d i j X).1, hy, (bl l w d i j X).2, bad) := by
  have hl := mi_len hm
  intro d
  induction d with
  | zero =>
    intro i j acc X hi ha hj hw
    refine Ev.step (f := fun _ => some _) (fun k => ?_) (Ev.now _)
    simp only [variorumref12_Line.l0, bl, List.append_nil]
    rw [if_neg (by omega)]
  | succ d ih =>
    intro i j acc X hi ha hj hw
    have g1 : (i : Int) < (b : Int) := by omega
    have g2 : (0 : Int) ≤ (i : Int) := by omega
    have g3 : (i : Int) < (l.length : Int) := by omega
    have g4 : (0 : Int) ≤ (j : Int) := by omega
    have g6 : acc.length < 4398046511104 := by omega
    simp only [cl] at hw
    rcases mi_kind hm i (by omega) with c0 | c1 | c2
    · rw [if_pos c0, List.length_append, List.length_singleton] at hw
      have g5 : (j : Int) < (w.length : Int) := by omega
      have h := ih (i + 1) (j + 1) (acc ++ [(⟨(rd_T40 l (i : Int)).f4, (rd_T40 l (i : Int)).f5, X, (rd_T40 l (i : Int)).f1.f0⟩ : S42)]) (wrap64 (X + rd w (j : Int))) (by omega) (by rw [List.length_append, List.length_singleton]; omega) (by omega) (by omega)
      rw [List.append_assoc] at h
      simp only [bl, if_pos c0]
      refine Ev.step (fun k => ?_) h
      simp only [variorumref12_Line.l0]
      rw [if_pos g1, if_pos g2, if_pos g3, if_neg (show ¬ (rd_T40 l (i : Int)).f0 = 2 by omega), if_pos c0, if_pos g6, if_pos g4, if_pos g5, succ_w i (by omega), succ_w j (by omega)]
    · have n0 : ¬ (rd_T40 l (i : Int)).f0 = 0 := by omega
      rw [if_neg n0, if_pos c1, List.length_append, List.length_singleton] at hw
      have g5 : (j : Int) < (w.length : Int) := by omega
      have h := ih (i + 1) (j + 1) acc (wrap64 (X + rd w (j : Int))) (by omega) (by omega) (by omega) (by omega)
      simp only [bl, if_neg n0, if_pos c1]
      refine Ev.step (fun k => ?_) h
      simp only [variorumref12_Line.l0]
      rw [if_pos g1, if_pos g2, if_pos g3, if_neg (show ¬ (rd_T40 l (i : Int)).f0 = 2 by omega), if_neg n0, if_pos g4, if_pos g5, succ_w i (by omega), succ_w j (by omega)]
    · have n0 : ¬ (rd_T40 l (i : Int)).f0 = 0 := by omega
      have n1 : ¬ (rd_T40 l (i : Int)).f0 = 1 := by omega
      rw [if_neg n0, if_neg n1, List.nil_append] at hw
      have h := ih (i + 1) j acc X (by omega) (by omega) (by omega) (by omega)
      simp only [bl, if_neg n0, if_neg n1]
      refine Ev.step (fun k => ?_) h
      simp only [variorumref12_Line.l0]
      rw [if_pos g1, if_pos g2, if_pos g3, if_pos c2, succ_w i (by omega)]
def t6 (x : T7) : Int × Int × List S42 × Bool × Int × Int := (x.1, x.2.1, x.2.2.1, x.2.2.2.1, x.2.2.2.2.1, x.2.2.2.2.2.1)
theorem rsline_ev {l : List S40} (hm : mi l = true) {a b t : Int} (c : ok l a b t = true) : Ev (fun k => variorumref12_Line.f k l a b t) (t6 (ln l a b t)) := by
  have hl := mi_len hm
  obtain ⟨hmb, hs⟩ := ok_in c
  have hb := mb_in hmb
  have e : t6 (ln l a b t) = ((st l a : Int), b, (lb l a b t).1, (rd_T40 l b).f3, (lb l a b t).2, (lv l a b t).2.2.2.1) := by unfold ln; rw [if_pos c]; rfl
  rw [e]
  unfold variorumref12_Line.f
  refine Ev.bind (rline_ev l a b t hl) (Ev.bind (rglues_ev l a b hl hb.2.2.1 hb.2.2.2.1 hb.2.2.2.2) (Ev.bind (rwidths_ev hs) (Ev.bind (rstart_ev l a hl) ?_)))
  simp only [if_pos hb.2.2.1, if_pos hb.2.2.2.1]
  obtain ⟨b, rfl⟩ : ∃ n : Nat, b = n := ⟨b.toNat, by omega⟩
  have hlen : (gs l a (b : Int)).length = (ws (gs l a (b : Int)) t).length := (ws_len _ _).symm
  have hgl : (cl l (b - st l a) (st l a)).length ≤ (gs l a (b : Int)).length := by unfold gs; rw [List.length_append, Int.toNat_natCast]; omega
  have h := rbl_ev hm (ws (gs l a (b : Int)) t) b (by omega) (st l a : Int) (b : Int) ((rd_T40 l (b : Int)).f3) ((lv l a (b : Int) t).2.2.2.1) (b - st l a) (st l a) 0 [] 0 (by omega) (by simp) (by omega) (by omega)
  rw [List.nil_append] at h
  exact h
theorem rlines_loop {l : List S40} (hm : mi l = true) (bs : List Int) (t : Int) (hb : bs.length ≤ 2000) : ∀ (r : List Int) (i : Nat) (a : Int) (acc : List S44), bs.drop i = r → i ≤ bs.length → acc.length ≤ i → Ev (fun k => variorumref12_Lines.l0 k l bs t acc a (i : Int)) (fn l t bs.length r i a acc) := by
  have hl := mi_len hm
  intro r
  induction r with
  | nil =>
    intro i a acc hr hi ha
    have hlen := congrArg List.length hr
    rw [List.length_drop, List.length_nil] at hlen
    have g1 : ¬ (i : Int) < (bs.length : Int) := by omega
    have e : wrap64 ((l.length : Int) - 1) = (l.length : Int) - 1 := wrap_small (by omega)
    refine Ev.step (f := fun _ => some (fn l t bs.length [] i a acc)) (fun k => ?_) (Ev.now _)
    simp only [variorumref12_Lines.l0, fn]
    rw [if_neg g1, e]
    by_cases c : (bs.length : Int) = 0
    · rw [if_pos c, if_pos c]
    · rw [if_neg c, if_neg c]
      by_cases c2 : a = (l.length : Int) - 1
      · rw [if_pos c2, if_pos c2]
      · rw [if_neg c2, if_neg c2]
  | cons b r ih =>
    intro i a acc hr hi ha
    have hlen := congrArg List.length hr
    rw [List.length_drop, List.length_cons] at hlen
    have g1 : (i : Int) < (bs.length : Int) := by omega
    have g2 : (0 : Int) ≤ (i : Int) := by omega
    have g3 : acc.length < 2199023255552 := by omega
    have eb : rd bs (i : Int) = b := by
      unfold rd
      rw [Int.toNat_natCast, List.getD_eq_getElem?_getD]
      have := congrArg List.head? hr
      rw [List.head?_drop] at this
      rw [this]; rfl
    have er : bs.drop (i + 1) = r := by
      have := congrArg List.tail hr
      rwa [List.tail_drop] at this
    refine Ev.step (f := fun k => (variorumref10_Line.f k l a b t).bind fun x => (if x.2.2.2.2 = true then ((variorumref12_Line.f k l a b t).bind fun y => (if acc.length < 2199023255552 then (variorumref12_Lines.l0 k l bs t (acc ++ [(⟨y.1, y.2.1, y.2.2.1, y.2.2.2.1, y.2.2.2.2.1, y.2.2.2.2.2⟩ : S44)]) b ((i + 1 : Nat) : Int)) else (none))) else (some (([] : List (S44)), 120, (i : Int))))) (fun k => ?_) (Ev.bind (rline_ev l a b t hl) ?_)
    · simp only [variorumref12_Lines.l0]
      rw [if_pos g1, if_pos g2, eb, succ_w i (by omega)]
    · by_cases c : ok l a b t = true
      · have c' : (lv l a b t).2.2.2.2 = true := c
        simp only [if_pos c', fn, if_pos c]
        refine Ev.bind (rsline_ev hm c) ?_
        simp only [if_pos g3]
        exact ih (i + 1) b _ er (by omega) (by rw [List.length_append, List.length_singleton]; omega)
      · have c' : ¬ (lv l a b t).2.2.2.2 = true := c
        simp only [if_neg c', fn, if_neg c]
        exact Ev.now _
theorem rlines_ev (l : List S40) (bs : List Int) (t : Int) (hl : l.length ≤ 2000) (hb : bs.length ≤ 2000) : Ev (fun k => variorumref12_Lines.f k l bs t) (lines l bs t) := by
  unfold variorumref12_Lines.f lines
  refine Ev.bind (rmay9_ev l (by omega)) ?_
  by_cases c : mi l = true
  · simp only [if_pos c]
    exact rlines_loop c bs t hb bs 0 (-1) [] rfl (by omega) (by simp)
  · simp only [if_neg c]
    exact Ev.now _
theorem rwords_loop (ls : List S44) (hl : ls.length ≤ 2000) (hf : ∀ x ∈ ls, x.f2.length ≤ 2000) : ∀ (d i : Nat) (acc : List S42), i + d = ls.length → acc.length ≤ i * 2000 → Ev (fun k => variorumref12_Words.l0 k ls acc (i : Int)) (acc ++ (ls.drop i).flatMap (·.f2)) := by
  intro d
  induction d with
  | zero =>
    intro i acc hi ha
    rw [List.drop_of_length_le (by omega)]
    refine Ev.step (f := fun _ => some _) (fun k => ?_) (Ev.now _)
    simp only [variorumref12_Words.l0]
    rw [if_neg (by omega)]; simp
  | succ d ih =>
    intro i acc hi ha
    have hil : i < ls.length := by omega
    have g1 : (i : Int) < (ls.length : Int) := by omega
    have g2 : (0 : Int) ≤ (i : Int) := by omega
    have hx := hf ls[i] (List.getElem_mem hil)
    have g3 : acc.length + (ls[i].f2).length < 4398046511104 := by omega
    have h := ih (i + 1) (acc ++ ls[i].f2) (by omega) (by rw [List.length_append]; omega)
    rw [List.drop_eq_getElem_cons hil, List.flatMap_cons, ← List.append_assoc]
    refine Ev.step (fun k => ?_) h
    simp only [variorumref12_Words.l0]
    rw [if_pos g1, if_pos g2, rd44 hil, if_pos g3, succ_w i (by omega)]
theorem rwords_ev (ls : List S44) (hl : ls.length ≤ 2000) (hf : ∀ x ∈ ls, x.f2.length ≤ 2000) : Ev (fun k => variorumref12_Words.f k ls) (ls.flatMap (·.f2)) := by
  have := rwords_loop ls hl hf ls.length 0 [] (by omega) (by simp)
  simpa [variorumref12_Words.f] using this

/-! ## The same as itself -/
theorem placed_ev (A : List S42) (hA : A.length ≤ 1000000000) : Ev (fun k => variorumref12_Placed.f k A A) true := by
  unfold variorumref12_Placed.f
  simp only [if_true]
  have : ∀ (d i : Nat), i + d = A.length → Ev (fun k => variorumref12_Placed.l0 k A A (i : Int)) true := by
    intro d
    induction d with
    | zero =>
      intro i hi
      refine Ev.step (f := fun _ => some true) (fun k => ?_) (Ev.now _)
      simp only [variorumref12_Placed.l0]
      rw [if_neg (by omega)]
    | succ d ih =>
      intro i hi
      have g1 : (i : Int) < (A.length : Int) := by omega
      have g2 : (0 : Int) ≤ (i : Int) := by omega
      refine Ev.step (fun k => ?_) (ih (i + 1) (by omega))
      simp only [variorumref12_Placed.l0]
      rw [if_pos g1, if_pos g2, if_pos g1, if_neg (by simp), succ_w i (by omega)]
  exact this A.length 0 (by omega)
theorem same_ev (A : List S44) (hA : A.length ≤ 2000) (hf : ∀ x ∈ A, x.f2.length ≤ 2000) : Ev (fun k => variorumref12_Same.f k A A) true := by
  unfold variorumref12_Same.f
  simp only [if_true]
  have : ∀ (d i : Nat), i + d = A.length → Ev (fun k => variorumref12_Same.l0 k A A (i : Int)) true := by
    intro d
    induction d with
    | zero =>
      intro i hi
      refine Ev.step (f := fun _ => some true) (fun k => ?_) (Ev.now _)
      simp only [variorumref12_Same.l0]
      rw [if_neg (by omega)]
    | succ d ih =>
      intro i hi
      have hi' : i < A.length := by omega
      have g1 : (i : Int) < (A.length : Int) := by omega
      have g2 : (0 : Int) ≤ (i : Int) := by omega
      have hp := placed_ev (rd_T44 A (i : Int)).f2 (by rw [rd44 hi']; have := hf _ (List.getElem_mem hi'); omega)
      have h := ih (i + 1) (by omega)
      refine Ev.step (f := fun k => (variorumref12_Placed.f k ((rd_T44 A (i : Int)).f2) ((rd_T44 A (i : Int)).f2)).bind fun t342 => (if t342 = true then (variorumref12_Same.l0 k A A ((i + 1 : Nat) : Int)) else (none))) (fun k => ?_) (Ev.bind hp ?_)
      · simp only [variorumref12_Same.l0]
        rw [if_pos g1, if_pos g2, if_pos g1, succ_w i (by omega)]
        simp
      · simpa using h
  exact this A.length 0 (by omega)
theorem flat_len : ∀ (A : List S44), (∀ x ∈ A, x.f2.length ≤ 2000) → (A.flatMap (·.f2)).length ≤ A.length * 2000
  | [], _ => by simp
  | x :: r, h => by
    have h1 := h x (List.mem_cons_self ..)
    have h2 := flat_len r (fun y hy => h y (List.mem_cons_of_mem _ hy))
    rw [List.flatMap_cons, List.length_append, List.length_cons]
    omega
theorem lines_in (l : List S40) (bs : List Int) (t : Int) : (lines l bs t).1.length ≤ bs.length ∧ ∀ x ∈ (lines l bs t).1, x.f2.length ≤ 2000 := by
  rcases lines_cases l bs t with ⟨_, h2⟩ | ⟨hm, hc, e, _, _⟩
  · rw [h2]; exact ⟨by simp, fun x hx => by cases hx⟩
  · rw [e]; exact ⟨by rw [lns_len]; omega, lns_boxes l t (mi_len hm) bs (-1)⟩

theorem lines_yes (l : List S40) (bs : List Int) (t : Int) : Ev (fun k => variorumlaw12_SetterLines.j0 k l bs t true) true := by
  refine Ev.step (f := fun k => (variorumlaw12_fixed.f k).bind fun t => some t) (fun k => ?_) (Ev.bind fixed_ev (Ev.now _))
  simp only [variorumlaw12_SetterLines.j0]
  rfl
theorem lines_no (l : List S40) (bs : List Int) (t : Int) (hl : l.length ≤ 300) (hb : bs.length ≤ 100) : Ev (fun k => variorumlaw12_SetterLines.j0 k l bs t false) true := by
  have hi := lines_in l bs t
  refine Ev.step (f := fun k => (setter_Lines.f k l bs t).bind fun bt493 => ((variorumref12_Lines.f k l bs t).bind fun bt499 => ((variorumlaw12_fixed.f k).bind fun t505 => (if t505 = true then ((variorumref12_Same.f k bt493.1 bt499.1).bind fun t506 => (if t506 = true then (if (bt493.2.1 == bt499.2.1 && (bt493.2.2 == bt499.2.2)) = true then ((setter_Words.f k bt493.1).bind fun t507 => ((variorumref12_Words.f k bt499.1).bind fun t510 => ((variorumref12_Placed.f k t507 t510).bind fun t513 => (some t513)))) else (none)) else (none))) else (none))))) (fun k => ?_) (Ev.bind (lines_ev l bs t (by omega)) (Ev.bind (rlines_ev l bs t (by omega) (by omega)) (Ev.bind fixed_ev ?_)))
  · simp only [variorumlaw12_SetterLines.j0]
    rw [if_neg (by decide)]
  · simp only [if_true]
    refine Ev.bind (same_ev _ (by omega) hi.2) ?_
    have e : ((lines l bs t).2.1 == (lines l bs t).2.1 && ((lines l bs t).2.2 == (lines l bs t).2.2)) = true := by simp
    simp only [if_true, if_pos e]
    have hf := flat_len _ hi.2
    exact Ev.bind (words_ev _ (by omega) hi.2) (Ev.bind (rwords_ev _ (by omega) hi.2) (Ev.bind (placed_ev _ (by omega)) (Ev.now _)))

theorem SetterLines : variorumlaw12_SetterLines.Pure := by
  intro l bs t _ _ _
  refine Ev.rounds (g := fun k => variorumlaw12_SetterLines.f k l bs t) ?_
  unfold variorumlaw12_SetterLines.f
  by_cases c : (l.length : Int) > 300
  · simp only [if_pos c]; exact lines_yes l bs t
  · simp only [if_neg c]
    by_cases c2 : (bs.length : Int) > 100
    · rw [decide_eq_true c2]; exact lines_yes l bs t
    · rw [decide_eq_false c2]; exact lines_no l bs t (by omega) (by omega)

end Go.Proofs.Ytpfnfofaajpdmaa.Pure

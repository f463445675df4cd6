/- ItemParts, where what comes in is of bulk at most 1048576: parts of items that may be may be; lines of verse, some behind others, have as many items, and boxes, as both have. -/
import Derived.Test.YtbdaaiagpknaoaaPUqx8
import Derived.Test.YtbdaaiagpknaoaaQVerse
namespace Go.Proofs.Ytbdaaiagpknaoaa.Pure
set_option linter.unusedVariables false
set_option linter.unusedSimpArgs false
open Go.RowKit Go.Proofs.Ytbdaaiagpknaoaa.PUq Go.Proofs.YtbdaaiagpknaoaaW.PrintWords Go.Proofs.YtbdaaiagpknaoaaW.PrintLast Go.Proofs.YtbdaaiagpknaoaaW.PrintMore

/-! ## Lines behind lines -/
section
variable (m0 m1 m2 m3 hy : Int)
theorem rd_V_left (A B : List (List (List S47))) (i : Nat) (h : i < A.length) : rd_V (A ++ B) (i : Int) = rd_V A (i : Int) := by
  unfold rd_V
  rw [Int.toNat_natCast, List.getD_eq_getElem?_getD, List.getD_eq_getElem?_getD, List.getElem?_append_left h]
theorem rd_V_right (A B : List (List (List S47))) (i : Nat) : rd_V (A ++ B) ((A.length + i : Nat) : Int) = rd_V B (i : Int) := by
  unfold rd_V
  rw [Int.toNat_natCast, Int.toNat_natCast, List.getD_eq_getElem?_getD, List.getD_eq_getElem?_getD, List.getElem?_append_right (by omega), Nat.add_sub_cancel_left]
theorem vd_right (A B : List (List (List S47))) : ∀ d i wn, vd m0 m1 m2 m3 hy (A ++ B) d (A.length + i) wn = vd m0 m1 m2 m3 hy B d i wn
  | 0, i, wn => rfl
  | d + 1, i, wn => by
    have ih := vd_right A B d (i + 1) (wn + (rd_V B (i : Int)).length)
    simp only [vd]
    rw [rd_V_right, show A.length + i + 1 = A.length + (i + 1) by omega, ih]
theorem vd_app (A B : List (List (List S47))) : ∀ d i wn, i + d = A.length → vd m0 m1 m2 m3 hy (A ++ B) (d + B.length) i wn = vd m0 m1 m2 m3 hy A d i wn ++ vd m0 m1 m2 m3 hy B B.length 0 (wn + vw A d i)
  | 0, i, wn => fun h => by
    have := vd_right m0 m1 m2 m3 hy A B B.length 0 wn
    rw [show i = A.length + 0 by omega, Nat.zero_add, this]; rfl
  | d + 1, i, wn => fun h => by
    have ih := vd_app A B d (i + 1) (wn + (rd_V A (i : Int)).length) (by omega)
    rw [show d + 1 + B.length = (d + B.length) + 1 by omega]
    simp only [vd, vw]
    rw [rd_V_left A B i (by omega), ih, List.append_assoc, Nat.add_assoc]

/-! ## A word's number is of no moment -/
def er (x : S45) : S45 := ⟨x.f0, x.f1, x.f2, x.f3, 0, x.f5⟩
def pw (x : S45) : Prop := 0 ≤ x.f4 ∧ (x.f0 = 0 ∨ x.f4 = 0)
theorem wd_er (ps : List S47) (a b : Int) : ∀ d i, (wd ps hy a d i).map er = (wd ps hy b d i).map er
  | 0, i => rfl
  | d + 1, i => by simp only [wd, List.map_append, List.map_cons, wd_er ps a b d (i + 1), er, bxi]
theorem ld_er (ws : List (List S47)) : ∀ d i a b, (ld m0 m1 m2 m3 hy ws d i a).map er = (ld m0 m1 m2 m3 hy ws d i b).map er
  | 0, i, a, b => rfl
  | d + 1, i, a, b => by simp only [ld, List.map_append, ld_er ws d (i + 1) (a + 1) (b + 1), wd_er hy _ (a : Int) (b : Int)]
theorem vd_er (ls : List (List (List S47))) : ∀ d i a b, (vd m0 m1 m2 m3 hy ls d i a).map er = (vd m0 m1 m2 m3 hy ls d i b).map er
  | 0, i, a, b => rfl
  | d + 1, i, a, b => by simp only [vd, List.map_append, vd_er ls d (i + 1) (a + (rd_V ls (i : Int)).length) (b + (rd_V ls (i : Int)).length), ld_er m0 m1 m2 m3 hy _ _ _ a b]
theorem wd_pw (ps : List S47) (a : Nat) : ∀ d i, ∀ x ∈ wd ps hy (a : Int) d i, pw x
  | 0, i => fun x hx => by simp [wd] at hx
  | d + 1, i => fun x hx => by
    simp only [wd, List.mem_append, List.mem_cons] at hx
    rcases hx with h | rfl | h
    · split at h
      · simp at h; subst h; exact ⟨Int.le_refl _, .inr rfl⟩
      · simp at h
    · exact ⟨Int.natCast_nonneg _, .inl rfl⟩
    · exact wd_pw ps a d (i + 1) x h
theorem ld_pw (ws : List (List S47)) : ∀ d i a, ∀ x ∈ ld m0 m1 m2 m3 hy ws d i a, pw x
  | 0, i, a => fun x hx => by
    simp only [ld, bends, List.mem_cons, List.not_mem_nil, or_false] at hx
    rcases hx with rfl | rfl | rfl <;> exact ⟨Int.le_refl _, .inr rfl⟩
  | d + 1, i, a => fun x hx => by
    simp only [ld, List.mem_append] at hx
    rcases hx with h | h | h
    · split at h
      · simp at h; subst h; exact ⟨Int.le_refl _, .inr rfl⟩
      · simp at h
    · exact wd_pw hy _ a _ _ x h
    · exact ld_pw ws d (i + 1) (a + 1) x h
theorem vd_pw (ls : List (List (List S47))) : ∀ d i a, ∀ x ∈ vd m0 m1 m2 m3 hy ls d i a, pw x
  | 0, i, a => fun x hx => by simp [vd] at hx
  | d + 1, i, a => fun x hx => by
    simp only [vd, List.mem_append] at hx
    rcases hx with h | h
    · exact ld_pw m0 m1 m2 m3 hy _ _ _ _ x h
    · exact vd_pw ls d (i + 1) _ x h
end
theorem ri_er {x : S45} (h : pw x) : ri x = ri (er x) := by
  obtain ⟨h4, h0⟩ := h
  unfold ri rj pl er
  rcases h0 with h0 | h0
  · simp only [if_pos h0]
    rw [show decide (x.f4 ≥ 0) = decide ((0 : Int) ≥ 0) from decide_eq_decide.2 ⟨fun _ => by omega, fun _ => h4⟩]
  · simp only [h0]

/-! ## What may be, of lists -/
theorem ar_iff (l : List S45) : ∀ d i, i + d = l.length → (ar l d i = true ↔ ∀ x ∈ l.drop i, ri x = true)
  | 0, i => fun h => by rw [List.drop_eq_nil_of_le (by omega)]; simp [ar]
  | d + 1, i => fun h => by
    have hlt : i < l.length := by omega
    rw [List.drop_eq_getElem_cons hlt]
    simp only [ar, Bool.and_eq_true, List.mem_cons, forall_eq_or_imp, rd_hit l i hlt, ar_iff l d (i + 1) (by omega)]
theorem gq_map (l : List S45) : ∀ d i, i + d = l.length → gq l d i = (l.drop i).map (·.f1)
  | 0, i => fun h => by rw [List.drop_eq_nil_of_le (by omega)]; rfl
  | d + 1, i => fun h => by
    have hlt : i < l.length := by omega
    rw [List.drop_eq_getElem_cons hlt]
    simp only [gq, List.map_cons, rd_hit l i hlt, gq_map l d (i + 1) (by omega)]
def gd (x : S23) : Prop := fi x.f0 = true ∧ am x.f1 = true ∧ am x.f2 = true ∧ 0 ≤ x.f3 ∧ x.f3 ≤ 3
def sw : List S23 → Int
  | [] => 0
  | x :: r => mx x.f0 (-x.f0) + sw r
def ss : List S23 → Int
  | [] => 0
  | x :: r => x.f1 + ss r
def sh : List S23 → Int
  | [] => 0
  | x :: r => x.f2 + sh r
theorem mv_iff (g : List S23) : ∀ d i w s h, i + d = g.length → (mv g d i w s h = true ↔ (∀ x ∈ g.drop i, gd x) ∧ am (w + sw (g.drop i)) = true ∧ am (s + ss (g.drop i)) = true ∧ am (h + sh (g.drop i)) = true)
  | 0, i, w, s, h => fun e => by
    rw [List.drop_eq_nil_of_le (by omega)]
    simp [mv, sw, ss, sh, gd]
  | d + 1, i, w, s, h => fun e => by
    have hlt : i < g.length := by omega
    have hr : rd_T23 g (i : Int) = g[i] := by
      unfold rd_T23
      rw [Int.toNat_natCast, List.getD_eq_getElem?_getD, List.getElem?_eq_getElem hlt]; rfl
    have ih := mv_iff g d (i + 1) (w + mx g[i].f0 (-g[i].f0)) (s + g[i].f1) (h + g[i].f2) (by omega)
    rw [List.drop_eq_getElem_cons hlt]
    simp only [mv, hr, sw, ss, sh, List.mem_cons, forall_eq_or_imp]
    rw [← Int.add_assoc, ← Int.add_assoc, ← Int.add_assoc]
    unfold gd at ih ⊢
    by_cases a1 : fi g[i].f0 = true
    · by_cases a2 : am g[i].f1 = true
      · by_cases a3 : am g[i].f2 = true
        · by_cases a4 : g[i].f3 < 0
          · rw [if_pos a1, if_pos a2, if_pos a3, if_pos a4]
            exact ⟨fun h => (by cases h), fun h => (by have := h.1.1.2.2.2.1; omega)⟩
          · by_cases a5 : g[i].f3 > 3
            · rw [if_pos a1, if_pos a2, if_pos a3, if_neg a4, if_pos a5]
              exact ⟨fun h => (by cases h), fun h => (by have := h.1.1.2.2.2.2; omega)⟩
            · rw [if_pos a1, if_pos a2, if_pos a3, if_neg a4, if_neg a5, ih]
              exact ⟨fun h => ⟨⟨⟨a1, a2, a3, by omega, by omega⟩, h.1⟩, h.2⟩, fun h => ⟨h.1.2, h.2⟩⟩
        · rw [if_pos a1, if_pos a2, if_neg a3]; exact ⟨fun h => (by cases h), fun h => absurd h.1.1.2.2.1 a3⟩
      · rw [if_pos a1, if_neg a2]; exact ⟨fun h => (by cases h), fun h => absurd h.1.1.2.1 a2⟩
    · rw [if_neg a1]; exact ⟨fun h => (by cases h), fun h => absurd h.1.1.1 a1⟩
theorem my_iff (g : List S23) : my g = true ↔ g.length ≤ 2000 ∧ (∀ x ∈ g, gd x) ∧ am (sw g) = true ∧ am (ss g) = true ∧ am (sh g) = true := by
  have h := mv_iff g g.length 0 0 0 0 (by omega)
  rw [List.drop_zero, Int.zero_add, Int.zero_add, Int.zero_add] at h
  unfold my
  by_cases c : (g.length : Int) > 2000
  · rw [if_pos c]; exact ⟨fun h => (by cases h), fun h => (by omega)⟩
  · rw [if_neg c, h]; exact ⟨fun h => ⟨by omega, h⟩, fun h => h.2⟩
theorem sw_app : ∀ a b : List S23, sw (a ++ b) = sw a + sw b
  | [], b => by simp [sw]
  | x :: a, b => by simp only [List.cons_append, sw, sw_app a b]; omega
theorem ss_app : ∀ a b : List S23, ss (a ++ b) = ss a + ss b
  | [], b => by simp [ss]
  | x :: a, b => by simp only [List.cons_append, ss, ss_app a b]; omega
theorem sh_app : ∀ a b : List S23, sh (a ++ b) = sh a + sh b
  | [], b => by simp [sh]
  | x :: a, b => by simp only [List.cons_append, sh, sh_app a b]; omega
theorem sums_pos : ∀ a : List S23, (∀ x ∈ a, gd x) → 0 ≤ sw a ∧ 0 ≤ ss a ∧ 0 ≤ sh a
  | [], _ => ⟨Int.le_refl _, Int.le_refl _, Int.le_refl _⟩
  | x :: a, h => by
    have ih := sums_pos a (fun y hy => h y (List.mem_cons_of_mem _ hy))
    have hx := h x (List.mem_cons_self ..)
    have h1 := am_iff.1 hx.2.1
    have h2 := am_iff.1 hx.2.2.1
    have h3 : 0 ≤ mx x.f0 (-x.f0) := by unfold mx; split <;> omega
    simp only [sw, ss, sh]
    omega
theorem my_app {a b : List S23} (h : my (a ++ b) = true) : my a = true ∧ my b = true := by
  rw [my_iff] at h
  obtain ⟨hl, hg, h1, h2, h3⟩ := h
  rw [sw_app, am_iff] at h1
  rw [ss_app, am_iff] at h2
  rw [sh_app, am_iff] at h3
  rw [List.length_append] at hl
  have ha := sums_pos a (fun x hx => hg x (List.mem_append_left _ hx))
  have hb := sums_pos b (fun x hx => hg x (List.mem_append_right _ hx))
  constructor
  · exact (my_iff a).2 ⟨by omega, fun x hx => hg x (List.mem_append_left _ hx), am_iff.2 (by omega), am_iff.2 (by omega), am_iff.2 (by omega)⟩
  · exact (my_iff b).2 ⟨by omega, fun x hx => hg x (List.mem_append_right _ hx), am_iff.2 (by omega), am_iff.2 (by omega), am_iff.2 (by omega)⟩
theorem mi_iff (l : List S45) : mi l = true ↔ l.length ≤ 2000 ∧ (∀ x ∈ l, ri x = true) ∧ my (l.map (·.f1)) = true := by
  have h1 := ar_iff l l.length 0 (by omega)
  have h2 := gq_map l l.length 0 (by omega)
  rw [List.drop_zero] at h1 h2
  unfold mi
  rw [h2, Bool.and_eq_true, Bool.and_eq_true, h1, decide_eq_true_eq]
  exact ⟨fun h => ⟨by omega, h.2⟩, fun h => ⟨by omega, h.2⟩⟩
theorem mi_app {a b : List S45} (h : mi (a ++ b) = true) : mi a = true ∧ mi b = true := by
  rw [mi_iff] at h
  obtain ⟨hl, hr, hm⟩ := h
  rw [List.length_append] at hl
  rw [List.map_append] at hm
  have := my_app hm
  exact ⟨(mi_iff a).2 ⟨by omega, fun x hx => hr x (List.mem_append_left _ hx), this.1⟩, (mi_iff b).2 ⟨by omega, fun x hx => hr x (List.mem_append_right _ hx), this.2⟩⟩
theorem mi_er {a b : List S45} (e : a.map er = b.map er) (ha : ∀ x ∈ a, pw x) (hb : ∀ x ∈ b, pw x) (h : mi a = true) : mi b = true := by
  rw [mi_iff] at h ⊢
  have hl : a.length = b.length := by have := congrArg List.length e; simpa using this
  refine ⟨by omega, fun x hx => ?_, ?_⟩
  · have : er x ∈ a.map er := by rw [e]; exact List.mem_map_of_mem hx
    obtain ⟨y, hy, he⟩ := List.mem_map.1 this
    rw [ri_er (hb x hx), ← he, ← ri_er (ha y hy)]
    exact h.2.1 y hy
  · have : b.map (·.f1) = a.map (·.f1) := by
      have := congrArg (List.map (·.f1)) e
      rw [List.map_map, List.map_map] at this
      exact this.symm
    rw [this]; exact h.2.2
theorem bx_er {a b : List S45} (e : a.map er = b.map er) : (a.filter isB).length = (b.filter isB).length := by
  have h : ∀ l : List S45, (l.filter isB).length = ((l.map er).filter isB).length := by
    intro l
    induction l with
    | nil => rfl
    | cons x l ih =>
      simp only [List.map_cons, List.filter_cons, show isB (er x) = isB x from rfl]
      split <;> simp [ih]
  rw [h a, h b, e]

theorem Bounds {x2 : List (List (List S47))} (hk : OpenB.bulkOf B2 x2 ≤ 3000000) (m0 m1 m2 m3 hy : Int) : Ev (fun k => item_Verse.l0 k x2 m0 m1 m2 m3 hy 0 [] 0) (dn (vd m0 m1 m2 m3 hy x2 x2.length 0 0)) := by
  have hx : x2.length + 1 ≤ OpenB.bulkOf B2 x2 := bulk_len _ (fun x => bulk_pos _ x) _
  have hV : ∀ i : Int, B2 (rd_V x2 i) ≤ 3000000 := by
    intro i
    unfold rd_V
    rcases getD_mem x2 i.toNat with h | h
    · rw [h]; decide
    · have := bulk_mem B2 h; omega
  have hl : ∀ i : Int, (rd_V x2 i).length ≤ 10000000 := fun i => by
    have h1 : (rd_V x2 i).length + 1 ≤ B2 (rd_V x2 i) := bulk_len _ (fun x => bulk_pos _ x) _
    have := hV i; omega
  have hW : ∀ i j : Int, (rd_W (rd_V x2 i) j).length ≤ 10000000 := by
    intro i j
    have h0 := hV i
    unfold rd_W
    rcases getD_mem (rd_V x2 i) j.toNat with h | h
    · rw [h]; decide
    · have h1 := bulk_mem B1 h
      have h2 : ((rd_V x2 i).getD j.toNat []).length + 1 ≤ B1 ((rd_V x2 i).getD j.toNat []) := bulk_len _ (fun _ => Nat.le_refl _) _
      simp only [B2] at h0
      omega
  have hv := v_bulk x2 x2.length 0 (by omega)
  rw [List.drop_zero] at hv
  have verse := verse_loop m0 m1 m2 m3 hy x2 (by omega) hl hW x2.length 0 0 [] (by omega) (by omega) (by simp; omega)
  rw [List.nil_append] at verse
  exact verse

theorem bulk_app {α : Type} (bk : α → Nat) (a b : List α) : OpenB.bulkOf bk (a ++ b) + 1 = OpenB.bulkOf bk a + OpenB.bulkOf bk b := by
  induction a with
  | nil => simp only [List.nil_append, OpenB.bulkOf]; omega
  | cons x a ih => simp only [List.cons_append, OpenB.bulkOf]; omega

theorem ItemParts : variorumlaw09_ItemParts.Pure := by
  intro x0 x1 x2 _ _ _ hx2 hk
  refine Ev.rounds (g := fun k => variorumlaw09_ItemParts.f k x0.f0.f0 x0.f0.f1 x0.f0.f2 x0.f0.f3 x0.f1 x0.f2 x0.f3 x0.f4 x1 x2.f0 x2.f1) ?_
  have hk : OpenB.bulkOf B2 x2.f0 + OpenB.bulkOf B2 x2.f1 ≤ 1048576 := hk
  generalize x0.f0.f0 = m0
  generalize x0.f0.f1 = m1
  generalize x0.f0.f2 = m2
  generalize x0.f0.f3 = m3
  generalize x2.f0 = A at hk ⊢
  generalize x2.f1 = B at hk ⊢
  clear hx2
  have hA : A.length + 1 ≤ OpenB.bulkOf B2 A := bulk_len _ (fun x => bulk_pos _ x) _
  have hB : B.length + 1 ≤ OpenB.bulkOf B2 B := bulk_len _ (fun x => bulk_pos _ x) _
  have hAB := bulk_app B2 A B
  have vAB := Bounds (x2 := A ++ B) (by omega) m0 m1 m2 m3 x1
  have vA := Bounds (x2 := A) (by omega) m0 m1 m2 m3 x1
  have vB := Bounds (x2 := B) (by omega) m0 m1 m2 m3 x1
  have happ := vd_app m0 m1 m2 m3 x1 A B A.length 0 0 (by omega)
  rw [← List.length_append, Nat.zero_add] at happ
  rw [happ] at vAB
  have e := vd_er m0 m1 m2 m3 x1 B B.length 0 (vw A A.length 0) 0
  have p1 := vd_pw m0 m1 m2 m3 x1 B B.length 0 (vw A A.length 0)
  have p2 := vd_pw m0 m1 m2 m3 x1 B B.length 0 0
  generalize vd m0 m1 m2 m3 x1 A A.length 0 0 = LA at vA vAB
  generalize vd m0 m1 m2 m3 x1 B B.length 0 (vw A A.length 0) = LC at vAB e p1
  generalize vd m0 m1 m2 m3 x1 B B.length 0 0 = LB at vB e p2
  unfold variorumlaw09_ItemParts.f
  have q1 : ([] : List (List (List S47))).length + A.length < 5864062014805 := by simp; omega
  have q2 : A.length + B.length < 5864062014805 := by omega
  simp only [Option.bind_some, if_pos q1, List.nil_append, if_pos q2]
  refine Ev.bind (a := dn (LA ++ LC)) vAB ?_
  refine Ev.bind fixed_ev ?_
  simp only [if_true]
  by_cases hm : mi (LA ++ LC) = true
  · have hd : dn (LA ++ LC) = (LA ++ LC, 0, 0) := by unfold dn; rw [if_pos hm]
    have hab := mi_app hm
    have hmB := mi_er e p1 p2 hab.2
    have hdA : dn LA = (LA, 0, 0) := by unfold dn; rw [if_pos hab.1]
    have hdB : dn LB = (LB, 0, 0) := by unfold dn; rw [if_pos hmB]
    rw [hdA] at vA
    rw [hdB] at vB
    rw [hd]
    have hlen := ((mi_iff _).1 hm).1
    rw [List.length_append] at hlen
    have hlb : LB.length = LC.length := by have := congrArg List.length e; simpa using this.symm
    refine Ev.step (f := fun k => (item_Verse.l0 k A m0 m1 m2 m3 x1 0 [] 0).bind fun bt200 => (item_Verse.l0 k B m0 m1 m2 m3 x1 0 [] 0).bind fun bt206 => (if bt200.2.1 = 0 then (if bt206.2.1 = 0 then (if (wrap64 ((bt200.1.length : Int) + (bt206.1.length : Int))) = ((LA ++ LC).length : Int) then (if 0 ≤ (bt200.1.length : Int) then (if (bt200.1.length : Int) ≤ ((LA ++ LC).length : Int) then ((variorumref09_Same.f k ((LA ++ LC).take ((bt200.1.length : Int) : Int).toNat) bt200.1).bind fun t217 => (variorumlaw09_ItemParts.j1 k (LA ++ LC) bt200.1 bt206.1 (!t217))) else (none)) else (none)) else (variorumlaw09_ItemParts.j1 k (LA ++ LC) bt200.1 bt206.1 true)) else (variorumlaw09_ItemParts.j1 k (LA ++ LC) bt200.1 bt206.1 true)) else (variorumlaw09_ItemParts.j1 k (LA ++ LC) bt200.1 bt206.1 true))) (fun k => ?_) ?_
    · simp only [variorumlaw09_ItemParts.j0]; rw [if_neg (by decide)]; rfl
    refine Ev.bind vA (Ev.bind vB ?_)
    have w1 : wrap64 ((LA.length : Int) + (LB.length : Int)) = ((LA ++ LC).length : Int) := by rw [wrap_small (by omega), List.length_append]; omega
    have w2 : (0 : Int) ≤ (LA.length : Int) := by omega
    have w3 : (LA.length : Int) ≤ ((LA ++ LC).length : Int) := by rw [List.length_append]; omega
    have w4 : (LA ++ LC).take ((LA.length : Int) : Int).toNat = LA := by rw [Int.toNat_natCast, List.take_left']; rfl
    have w5 : (LA ++ LC).drop ((LA.length : Int) : Int).toNat = LC := by rw [Int.toNat_natCast, List.drop_left']; rfl
    simp only [if_true, if_pos w1, if_pos w2, if_pos w3, w4]
    refine Ev.bind (same_ev LA (by omega)) ?_
    refine Ev.step (f := fun k => (item_Boxes.f k LA).bind fun t218 => ((item_Boxes.f k LB).bind fun t221 => ((item_Boxes.f k (LA ++ LC)).bind fun t224 => (if (wrap64 ((t218.length : Int) + (t221.length : Int))) = (t224.length : Int) then (if 0 ≤ (LA.length : Int) then (if (LA.length : Int) ≤ ((LA ++ LC).length : Int) then ((item_May.f k ((LA ++ LC).drop ((LA.length : Int) : Int).toNat)).bind fun t232 => (some t232)) else (none)) else (none)) else (none))))) (fun k => ?_) ?_
    · simp only [variorumlaw09_ItemParts.j1]; rw [if_neg (by decide)]
    refine Ev.bind (boxes_ev LA (by omega)) (Ev.bind (boxes_ev LB (by omega)) (Ev.bind (boxes_ev (LA ++ LC) (by rw [List.length_append]; omega)) ?_))
    have b1 := bx_filter LA LA.length 0 (by omega)
    have b2 := bx_filter LB LB.length 0 (by omega)
    have b3 := bx_filter (LA ++ LC) (LA ++ LC).length 0 (by omega)
    rw [List.drop_zero] at b1 b2 b3
    have b4 := bx_er e
    have b5 := List.length_filter_le isB LA
    have b6 := List.length_filter_le isB LB
    have w6 : wrap64 (((bx LA LA.length 0).length : Int) + ((bx LB LB.length 0).length : Int)) = ((bx (LA ++ LC) (LA ++ LC).length 0).length : Int) := by
      rw [b1, b2, b3, List.filter_append, List.length_append, wrap_small (by omega)]; omega
    simp only [if_pos w6, if_pos w2, if_pos w3, w5]
    refine Ev.bind (imay_ev LC) ?_
    rw [hab.2]; exact Ev.now _
  · have hd : dn (LA ++ LC) = ([], 90, 0) := by unfold dn; rw [if_neg hm]
    rw [hd]
    refine Ev.step (f := fun k => (variorumlaw09_fixed.f k).bind fun t => some t) (fun k => ?_) (Ev.bind fixed_ev (Ev.now _))
    simp only [variorumlaw09_ItemParts.j0]
    rfl

end Go.Proofs.Ytbdaaiagpknaoaa.Pure

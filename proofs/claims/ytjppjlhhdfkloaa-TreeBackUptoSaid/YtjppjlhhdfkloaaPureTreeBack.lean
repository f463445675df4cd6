/- TreeBack: nodes told as tokens are parsed back as they were, and tokens that are parsed are told again, up to their places. -/
import Derived.Test.YtjppjlhhdfkloaaPTpx16
import Derived.Test.YtjppjlhhdfkloaaTWalk
namespace Go.Proofs.Ytjppjlhhdfkloaa.Pure
set_option linter.unusedVariables false
set_option linter.unusedSimpArgs false
open Go.RowKit Go.Proofs.Ytjppjlhhdfkloaa.PTp Go.Proofs.YtjppjlhhdfkloaaW.PrintWords Go.Proofs.YtjppjlhhdfkloaaW.PrintLast Go.Proofs.YtjppjlhhdfkloaaW.PrintMore

theorem bulk_of {α : Type} : ∀ l : List α, l.length ≤ Go.Proofs.Ytjppjlhhdfkloaa.OpenB.bulkOf (fun _ => 1) l
  | [] => Nat.zero_le _
  | x :: r => by have := bulk_of r; simp only [Go.Proofs.Ytjppjlhhdfkloaa.OpenB.bulkOf, List.length_cons]; omega

/-! ## What is told may be parsed -/
theorem wN_cons {x : S38} {r : List S38} (h : wN (x :: r) = true) : (x.f0 = false → x.f2 = []) ∧ wG x.f2 = true ∧ wN r = true := by
  simp only [wN, wS_eq, Bool.and_eq_true, Bool.or_eq_true, List.isEmpty_iff] at h
  refine ⟨fun c => ?_, h.1.2, h.2⟩
  rcases h.1.1 with c' | c'
  · rw [c] at c'; cases c'
  · exact c'
theorem fl_zero {gs : List (List S38)} {ca : List S44} (h : Fl 0 (.inr gs) ca) : gs = [] ∧ ca = [] := by
  cases h; exact ⟨rfl, rfl⟩
theorem fl_groups {d e : Nat} (ih : ∀ g, Dl d g → wN g = true → Fl d (.inl g) (GT EF e g)) (x : S38) : ∀ gs : List (List S38), (∀ g ∈ gs, Dl d g) → wG gs = true → Fl (d + 1) (.inr gs) (gs.flatMap (fun g => EF 2 x ++ (GT EF e g ++ EF 3 x)))
  | [], _, _ => Fl.nog _
  | g :: r, h, hw => by
    simp only [wG, Bool.and_eq_true] at hw
    have h1 := ih g (h g (List.mem_cons_self ..)) hw.1
    have h2 := fl_groups ih x r (fun y hy => h y (List.mem_cons_of_mem _ hy)) hw.2
    have := Fl.grp (o := ⟨2, (⟨#[]⟩ : ByteArray), x.f3⟩) (e := ⟨3, (⟨#[]⟩ : ByteArray), x.f3⟩) rfl rfl h1 h2
    rw [List.flatMap_cons]
    have eq : EF 2 x ++ (GT EF e g ++ EF 3 x) ++ r.flatMap (fun g => EF 2 x ++ (GT EF e g ++ EF 3 x)) = (⟨2, (⟨#[]⟩ : ByteArray), x.f3⟩ : S44) :: (GT EF e g ++ (⟨3, (⟨#[]⟩ : ByteArray), x.f3⟩ : S44) :: r.flatMap (fun g => EF 2 x ++ (GT EF e g ++ EF 3 x))) := by
      have e2 : EF 2 x = [(⟨2, (⟨#[]⟩ : ByteArray), x.f3⟩ : S44)] := rfl
      have e3 : EF 3 x = [(⟨3, (⟨#[]⟩ : ByteArray), x.f3⟩ : S44)] := rfl
      rw [e2, e3]; simp
    rw [eq]
    exact this
theorem fl_z : ∀ (l : List S38), Dl 0 l → wN l = true → ∀ e, Fl 0 (.inl l) (GT EF e l)
  | [], _, _, e => by cases e <;> exact Fl.nil _
  | x :: r, h, hw, e => by
    obtain ⟨_, _, w3⟩ := wN_cons hw
    have h2 := fl_z r (fun y hy => h y (List.mem_cons_of_mem _ hy)) w3 e
    have hx : x.f2 = [] := h x (List.mem_cons_self ..)
    have eq : GT EF e (x :: r) = (⟨if x.f0 = true then 1 else 0, x.f1, x.f3⟩ : S44) :: GT EF e r := by
      cases e with
      | zero => simp only [GT, List.flatMap_cons]; split <;> simp [EF, *]
      | succ e => rw [GT, List.flatMap_cons, hx]; split <;> simp [EF, GT, *]
    rw [eq]
    obtain ⟨c, t, gs, a⟩ := x
    simp only at hx
    subst hx
    cases c with
    | true =>
      have := Fl.cmd (t := ⟨1, t, a⟩) rfl (Fl.nog 0) h2
      rw [List.nil_append] at this
      exact this
    | false => exact Fl.word (t := ⟨0, t, a⟩) rfl h2
theorem fl_flat : ∀ (d e : Nat), d ≤ e → ∀ l, Dl d l → wN l = true → Fl d (.inl l) (GT EF e l)
  | 0, e => fun _ l hl hw => fl_z l hl hw e
  | d + 1, 0 => fun h => absurd h (by omega)
  | d + 1, e + 1 => fun h l => by
    induction l with
    | nil => intro _ _; rw [GT]; exact Fl.nil _
    | cons x r ih =>
      intro hl hw
      obtain ⟨w1, w2, w3⟩ := wN_cons hw
      have h2 := ih (fun y hy => hl y (List.mem_cons_of_mem _ hy)) w3
      have hg := fl_groups (fl_flat d e (by omega)) x x.f2 (hl x (List.mem_cons_self ..)) w2
      have eq : GT EF (e + 1) (x :: r) = (if x.f0 = true then EF 1 x ++ x.f2.flatMap (fun g => EF 2 x ++ (GT EF e g ++ EF 3 x)) else EF 0 x) ++ GT EF (e + 1) r := by rw [GT, List.flatMap_cons]; rfl
      rw [eq]
      obtain ⟨c, t, gs, a⟩ := x
      cases c with
      | true =>
        simp only [if_true]
        have := Fl.cmd (t := ⟨1, t, a⟩) rfl hg h2
        exact this
      | false =>
        have hx : gs = [] := w1 rfl
        subst hx
        exact Fl.word (t := ⟨0, t, a⟩) rfl h2
theorem fl_kinds {d : Nat} {x : List S38 ⊕ List (List S38)} {c : List S44} (h : Fl d x c) : ∀ t ∈ c, real t = true := by
  have rl : ∀ t : S44, 0 ≤ t.f0 → t.f0 ≤ 3 → real t = true := fun t h1 h2 => by unfold real; simp only [Bool.and_eq_true, decide_eq_true_eq]; exact ⟨h1, h2⟩
  induction h with
  | nil => intro t h; simp at h
  | nog => intro t h; simp at h
  | word h1 _ ih =>
    intro t h
    rcases List.mem_cons.1 h with rfl | h
    · exact rl _ (by omega) (by omega)
    · exact ih t h
  | cmd h1 _ _ ih1 ih2 =>
    intro t h
    rcases List.mem_cons.1 h with rfl | h
    · exact rl _ (by omega) (by omega)
    · rcases List.mem_append.1 h with h | h
      · exact ih1 t h
      · exact ih2 t h
  | grp h1 h2 _ _ ih1 ih2 =>
    intro t h
    rcases List.mem_cons.1 h with rfl | h
    · exact rl _ (by omega) (by omega)
    · rcases List.mem_append.1 h with h | h
      · exact ih1 t h
      · rcases List.mem_cons.1 h with rfl | h
        · exact rl _ (by omega) (by omega)
        · exact ih2 t h
theorem pv_of {l : List S44} {ns : List S38} (h : Fl 64 (.inl ns) l) : pv l = (ns, 0, 0) := by
  have e : rest l 0 = l := by
    unfold rest
    rw [List.drop_zero]
    exact List.filter_eq_self.2 (fl_kinds h)
  have := complete h ((rest l 0).length + 1) 0 [] (by omega) (by rw [List.append_nil, e]; exact Nat.lt_succ_self _) trivial
  rw [List.append_nil] at this
  unfold pv
  rw [e] at this ⊢
  rw [this, if_pos rfl]

/-! ## What is parsed may be told -/
theorem fl_may {d : Nat} {x : List S38 ⊕ List (List S38)} {c : List S44} (h : Fl d x c) : match x with
    | .inl l => Dl d l ∧ wN l = true
    | .inr gs => (d = 0 → gs = []) ∧ (∀ d', d = d' + 1 → ∀ g ∈ gs, Dl d' g) ∧ wG gs = true := by
  have cons : ∀ {d : Nat} {x : S38} {r : List S38}, (d = 0 → x.f2 = []) → (∀ d', d = d' + 1 → ∀ g ∈ x.f2, Dl d' g) → Dl d r → Dl d (x :: r) := by
    intro d x r h1 h2 h3
    cases d with
    | zero => exact fun y hy => (List.mem_cons.1 hy).elim (fun e => by rw [e]; exact h1 rfl) (fun hy => h3 y hy)
    | succ d => exact fun y hy => (List.mem_cons.1 hy).elim (fun e => by rw [e]; exact h2 d rfl) (fun hy => h3 y hy)
  induction h with
  | nil d => exact ⟨by cases d <;> (intro x h; simp at h), by simp only [wN]⟩
  | nog d => exact ⟨fun _ => rfl, fun _ _ g h => by simp at h, by simp only [wG]⟩
  | word h1 _ ih =>
    refine ⟨cons (fun _ => rfl) (fun _ _ g h => by simp at h) ih.1, ?_⟩
    simp only [wN, wS, wG, ih.2, List.isEmpty_nil, Bool.or_true, Bool.and_true]
  | cmd h1 _ _ ih1 ih2 =>
    refine ⟨cons ih1.1 ih1.2.1 ih2.1, ?_⟩
    simp only [wN, wS, ih2.2, ih1.2.2, Bool.true_or, Bool.and_true]
  | grp h1 h2 _ _ ih1 ih2 =>
    refine ⟨fun h => absurd h (by omega), fun d' hd g hg => ?_, ?_⟩
    · obtain rfl : _ = d' := Nat.succ.inj hd
      rcases List.mem_cons.1 hg with rfl | hg
      · exact ih1.1
      · exact ih2.2.1 _ rfl g hg
    · simp only [wG, ih1.2, ih2.2.2, Bool.and_true]
theorem dp_dl : ∀ {d n : Nat} {l : List S38}, Dl d l → Dp n l ≤ d
  | 0, n, l, h => mxs_le fun y hy => by
    obtain ⟨x, hx, rfl⟩ := List.mem_map.1 hy
    rw [h x hx]; exact Nat.le_refl _
  | d + 1, n, l, h => mxs_le fun y hy => by
    obtain ⟨x, hx, rfl⟩ := List.mem_map.1 hy
    exact mxs_le fun z hz => by
      obtain ⟨g, hg, rfl⟩ := List.mem_map.1 hz
      cases n with
      | zero => exact Nat.zero_le _
      | succ n =>
        have := dp_dl (n := n) (h x hx g hg)
        show 1 + Dp n g ≤ d + 1
        omega
theorem fl_mayB {l : List S38} {c : List S44} (h : Fl 64 (.inl l) c) : mayB l = true := by
  have := fl_may h
  unfold mayB
  rw [decide_eq_true (dp_dl this.1), this.2]; rfl
/-- A token without its place; a bracket's without its text. -/
def cln (t : S44) : S44 := ⟨t.f0, if t.f0 > 1 then (⟨#[]⟩ : ByteArray) else t.f1, 0⟩
theorem cln_two {t : S44} {a : Int} (h : t.f0 = 2) : cln t = cln ⟨2, (⟨#[]⟩ : ByteArray), a⟩ := by
  obtain ⟨f0, f1, f2⟩ := t
  simp only at h
  subst h; rfl
theorem cln_three {t : S44} {a : Int} (h : t.f0 = 3) : cln t = cln ⟨3, (⟨#[]⟩ : ByteArray), a⟩ := by
  obtain ⟨f0, f1, f2⟩ := t
  simp only at h
  subst h; rfl
theorem fl_cln {d : Nat} {x : List S38 ⊕ List (List S38)} {c : List S44} (h : Fl d x c) : match x with
    | .inl l => ∀ e, d ≤ e → (GT EF e l).map cln = c.map cln
    | .inr gs => ∀ e x, d ≤ e + 1 → (gs.flatMap (fun g => EF 2 x ++ (GT EF e g ++ EF 3 x))).map cln = c.map cln := by
  induction h with
  | nil d => intro e _; cases e <;> rfl
  | nog d => intro e x _; rfl
  | @word d t ns c h1 _ ih =>
    intro e he
    have := ih e he
    have eq : GT EF e ((⟨false, t.f1, [], t.f2⟩ : S38) :: ns) = t :: GT EF e ns := by
      have et : t = ⟨0, t.f1, t.f2⟩ := by rw [← h1]
      cases e <;> (rw [GT, List.flatMap_cons]; conv => rhs; rw [et]) <;> rfl
    rw [eq, List.map_cons, List.map_cons, this]
  | @cmd d t gs ns ca c h1 hg _ ih1 ih2 =>
    intro e he
    have i2 := ih2 e he
    have et : t = ⟨1, t.f1, t.f2⟩ := by rw [← h1]
    cases e with
    | zero =>
      obtain rfl : d = 0 := by omega
      obtain ⟨rfl, rfl⟩ := fl_zero hg
      have eq : GT EF 0 ((⟨true, t.f1, [], t.f2⟩ : S38) :: ns) = t :: GT EF 0 ns := by
        rw [GT, List.flatMap_cons]; conv => rhs; rw [et]
        rfl
      rw [eq, List.map_cons, i2]; rfl
    | succ e =>
      have i1 := ih1 e (⟨true, t.f1, gs, t.f2⟩ : S38) he
      have eq : GT EF (e + 1) ((⟨true, t.f1, gs, t.f2⟩ : S38) :: ns) = t :: (gs.flatMap (fun g => EF 2 (⟨true, t.f1, gs, t.f2⟩ : S38) ++ (GT EF e g ++ EF 3 (⟨true, t.f1, gs, t.f2⟩ : S38))) ++ GT EF (e + 1) ns) := by
        rw [GT, List.flatMap_cons]; conv => rhs; rw [et]
        rfl
      rw [eq, List.map_cons, List.map_append, i1, i2, List.map_cons, List.map_append]
  | @grp d o q ns gs c ca h1 h2 _ _ ih1 ih2 =>
    intro e x he
    have i1 := ih1 e (by omega)
    have i2 := ih2 e x he
    rw [List.flatMap_cons, List.map_append, i2, List.map_append, List.map_append, i1]
    have e2 : (EF 2 x).map cln = [cln o] := by rw [cln_two (a := x.f3) h1]; rfl
    have e3 : (EF 3 x).map cln = [cln q] := by rw [cln_three (a := x.f3) h2]; rfl
    rw [e2, e3]; simp
/-- Brackets told have no text. -/
def bare (t : S44) : Prop := t.f0 > 1 → t.f1 = (⟨#[]⟩ : ByteArray)
theorem bare_ef {K : Int} {x : S38} : ∀ t ∈ EF K x, bare t := by
  intro t ht
  obtain rfl := List.mem_singleton.1 ht
  intro h
  simp only at h ⊢
  rw [if_neg (by omega), if_neg (by omega)]
theorem bare_gt : ∀ (e : Nat) (l : List S38), ∀ t ∈ GT EF e l, bare t
  | 0, l => fun t ht => by
    rw [GT] at ht
    obtain ⟨x, _, ht⟩ := List.mem_flatMap.1 ht
    split at ht <;> exact bare_ef t ht
  | e + 1, l => fun t ht => by
    rw [GT] at ht
    obtain ⟨x, _, ht⟩ := List.mem_flatMap.1 ht
    split at ht
    · rcases List.mem_append.1 ht with ht | ht
      · exact bare_ef t ht
      · obtain ⟨g, _, ht⟩ := List.mem_flatMap.1 ht
        rcases List.mem_append.1 ht with ht | ht
        · exact bare_ef t ht
        · rcases List.mem_append.1 ht with ht | ht
          · exact bare_gt e g t ht
          · exact bare_ef t ht
    · exact bare_ef t ht
def pln (t : S44) : S44 := ⟨t.f0, t.f1, 0⟩
theorem pln_bare {l : List S44} (h : ∀ t ∈ l, bare t) : l.map pln = l.map cln := map_eq fun t ht => by
  have := h t ht
  unfold pln cln
  by_cases c : t.f0 > 1
  · rw [if_pos c, this c]
  · rw [if_neg c]
def k1 (t : S44) : S44 := if t.f0 > 1 then ⟨t.f0, (⟨#[]⟩ : ByteArray), t.f2⟩ else t
theorem pln_k1 (l : List S44) : (l.map k1).map pln = l.map cln := by
  rw [List.map_map]
  exact map_eq fun t _ => by
    show pln (k1 t) = cln t
    unfold k1 cln pln
    by_cases c : t.f0 > 1
    · rw [if_pos c, if_pos c]
    · rw [if_neg c, if_neg c]

/-! ## The calls -/
theorem plain_loop (l : List S44) (hl : l.length ≤ 1000000000) : ∀ (d i : Nat) (acc : List S44), i + d = l.length → acc.length ≤ i → Ev (fun k => variorumref05_Plain.l0 k l acc (i : Int)) (acc ++ (l.drop i).map pln)
  | 0, i, acc => fun hi _ => by
    rw [List.drop_eq_nil_of_le (by omega), List.map_nil, List.append_nil]
    refine Ev.step (f := fun _ => some acc) (fun k => ?_) (Ev.now _)
    simp only [variorumref05_Plain.l0]
    rw [if_neg (by omega)]
  | d + 1, i, acc => fun hi ha => by
    have hil : i < l.length := by omega
    have nx := plain_loop l hl d (i + 1) (acc ++ [pln l[i]]) (by omega) (by rw [List.length_append, List.length_singleton]; omega)
    rw [List.append_assoc] at nx
    rw [List.drop_eq_getElem_cons hil]
    refine Ev.step (fun k => ?_) nx
    simp only [variorumref05_Plain.l0, rd44 hil]
    rw [if_pos (by omega), if_pos (by omega), if_pos (by omega), succ_w i (by omega)]; rfl
theorem plain_ev (l : List S44) (hl : l.length ≤ 1000000000) : Ev (fun k => variorumref05_Plain.f k l) (l.map pln) := by
  have := plain_loop l hl l.length 0 [] (by omega) (Nat.le_refl _)
  rwa [List.drop_zero, List.nil_append] at this
theorem same5_loop (l : List S44) (hl : l.length ≤ 1000000000) : ∀ (d i : Nat), i + d = l.length → Ev (fun k => variorumref05_Same.l0 k l l (i : Int)) true
  | 0, i => fun hi => by
    refine Ev.step (f := fun _ => some true) (fun k => ?_) (Ev.now _)
    simp only [variorumref05_Same.l0]
    rw [if_neg (by omega)]
  | d + 1, i => fun hi => by
    refine Ev.step (fun k => ?_) (same5_loop l hl d (i + 1) (by omega))
    simp only [variorumref05_Same.l0, beq_self_eq_true, Bool.not_true, Bool.or_self]
    rw [if_pos (by omega), if_pos (by omega), if_pos (by omega), if_neg (by decide), succ_w i (by omega)]
theorem same5_ev (l : List S44) (hl : l.length ≤ 1000000000) : Ev (fun k => variorumref05_Same.f k l l) true := by
  unfold variorumref05_Same.f
  exact Ev.congr (fun k => if_pos rfl) (same5_loop l hl l.length 0 (by omega))
theorem tsame_l1 {a : List S38} (ha : SM a) (hf : ∀ x ∈ a, ∀ g ∈ x.f2, Ev (fun k => tree_Same.f k g g) true) {i : Nat} (hi : i < a.length) (hend : Ev (fun k => tree_Same.l0 k a a (a.length : Int) ((i + 1 : Nat) : Int)) true) :
    ∀ (d j : Nat), j + d = a[i].f2.length → Ev (fun k => tree_Same.l1 k a a (a.length : Int) (i : Int) (a[i].f2.length : Int) (j : Int) a[i].f0 a[i].f1 a[i].f2 a[i].f3 a[i].f0 a[i].f1 a[i].f2 a[i].f3) true
  | 0, j => fun hj => by
    have hl := ha.len
    refine Ev.step (fun k => ?_) hend
    simp only [tree_Same.l1]
    rw [if_neg (by omega), succ_w i (by omega)]
  | d + 1, j => fun hj => by
    have hjl : j < a[i].f2.length := by omega
    have hl := ha.len
    have hl2 := ha.args _ (List.getElem_mem hi)
    refine Ev.step (f := fun k => (tree_Same.f k a[i].f2[j] a[i].f2[j]).bind fun t => (if t = true then (tree_Same.l1 k a a (a.length : Int) (i : Int) (a[i].f2.length : Int) ((j + 1 : Nat) : Int) a[i].f0 a[i].f1 a[i].f2 a[i].f3 a[i].f0 a[i].f1 a[i].f2 a[i].f3) else (some false))) (fun k => ?_) (Ev.bind (hf _ (List.getElem_mem hi) _ (List.getElem_mem hjl)) ?_)
    · simp only [tree_Same.l1, rdL5 hjl]
      rw [if_pos (by omega), if_pos (by omega), if_pos (by omega), if_pos (by omega), succ_w j (by omega)]
    · simp only [if_true]
      exact tsame_l1 ha hf hi hend d (j + 1) (by omega)
theorem tsame_l0 {a : List S38} (ha : SM a) (hf : ∀ x ∈ a, ∀ g ∈ x.f2, Ev (fun k => tree_Same.f k g g) true) : ∀ (d i : Nat), i + d = a.length → Ev (fun k => tree_Same.l0 k a a (a.length : Int) (i : Int)) true
  | 0, i => fun hi => by
    refine Ev.step (f := fun _ => some true) (fun k => ?_) (Ev.now _)
    simp only [tree_Same.l0]
    rw [if_neg (by omega)]
  | d + 1, i => fun hi => by
    have hil : i < a.length := by omega
    have ih := tsame_l0 ha hf d (i + 1) (by omega)
    refine Ev.step (f := fun k => tree_Same.j1 k a a (a.length : Int) (i : Int) false a[i].f0 a[i].f1 a[i].f2 a[i].f3 a[i].f0 a[i].f1 a[i].f2 a[i].f3) (fun k => ?_) (Ev.step (fun k => ?_) (tsame_l1 ha hf hil ih a[i].f2.length 0 (by omega)))
    · simp only [tree_Same.l0, rd38 hil]
      rw [if_pos (by omega), if_pos (by omega), if_pos (by omega), if_pos (by omega), if_neg (by simp), if_pos trivial]
      simp
    · simp only [tree_Same.j1]
      rw [if_neg (by decide)]; rfl
theorem tsame_ev {a : List S38} (h : SM a) : Ev (fun k => tree_Same.f k a a) true := by
  induction h with
  | @mk a h1 h2 h3 ih =>
    refine Ev.step (fun k => ?_) (tsame_l0 (.mk h1 h2 h3) ih a.length 0 (by omega))
    simp only [tree_Same.f]
    rw [if_pos trivial]; rfl
theorem at_end (A : List S44) (t : S44) (r : List S44) : rd_T44 (A ++ t :: r) (A.length : Int) = t := by
  rw [rd44 (by rw [List.length_append, List.length_cons]; omega)]
  simp
theorem clean_loop (b : List S38) (B : Nat) (hB : B ≤ 1000000000) : ∀ (r A : List S44), A.length + r.length = B → (∀ Z, Z = A ++ r.map k1 → Ev (fun k => variorumlaw06_TreeBack.l0 k b Z (B : Int)) true) → Ev (fun k => variorumlaw06_TreeBack.l0 k b (A ++ r) (A.length : Int)) true
  | [], A => fun hl h => by
    have := h A (by simp)
    rw [← hl] at this
    simpa using this
  | t :: r, A => fun hl h => by
    rw [List.length_cons] at hl
    have nx := clean_loop b B hB r (A ++ [k1 t]) (by rw [List.length_append, List.length_singleton]; omega) (fun Z hZ => h Z (by rw [hZ]; simp))
    rw [List.append_assoc, List.length_append, List.length_singleton] at nx
    refine Ev.step (fun k => ?_) nx
    simp only [variorumlaw06_TreeBack.l0, at_end]
    rw [if_pos (by rw [List.length_append, List.length_cons]; omega), if_pos (by omega), succ_w A.length (by omega)]
    by_cases c : t.f0 > 1
    · rw [if_pos c]
      have e : (A ++ t :: r).set (A.length : Int).toNat (⟨t.f0, (⟨#[]⟩ : ByteArray), t.f2⟩ : S44) = A ++ ([k1 t] ++ r) := by
        rw [Int.toNat_natCast, List.set_append_right (h := Nat.le_refl _)]
        simp [k1, c]
      rw [e]
    · rw [if_neg c]
      have e : A ++ t :: r = A ++ ([k1 t] ++ r) := by simp [k1, c]
      rw [e]
theorem back_tokens {l : List S44} (hl : l.length ≤ 1048576) : Ev (fun k => variorumlaw06_TreeBack.j0 k l false) true := by
  refine Ev.step (f := fun k => (tree_Parse.f k l).bind fun bt223 => (if bt223.2.1 = 0 then ((variorumref06_Real.f k l).bind fun t229 => (variorumlaw06_TreeBack.l0 k bt223.1 t229 0)) else (some ((bt223.1.length : Int) == 0)))) (fun k => ?_) (Ev.bind (parse_ev l (by omega)) ?_)
  · simp only [variorumlaw06_TreeBack.j0]
    rw [if_neg (by decide)]
  · by_cases h : (pv l).2.1 = 0
    · simp only [if_pos h]
      refine Ev.bind (real_ev l (by omega)) ?_
      have hf : Fl 64 (.inl (pv l).1) (rest l 0) := by
        unfold pv at h ⊢
        by_cases c : (sN ((rest l 0).length + 1) 0 (rest l 0)).2.2.1 = 0
        · rw [if_pos c]
          obtain ⟨cs, h1, h2, h3⟩ := (sound ((rest l 0).length + 1)).1 0 (rest l 0) (by omega) (Nat.lt_succ_self _) (rest_kinds l 0) c
          have h0 : (sN ((rest l 0).length + 1) 0 (rest l 0)).2.1 = [] := by
            cases hq : (sN ((rest l 0).length + 1) 0 (rest l 0)).2.1 with
            | nil => rfl
            | cons t r => rw [hq] at h3; exact absurd h3.1 (by omega)
          rw [h0, List.append_nil] at h1
          rw [← h1] at h2
          exact h2
        · rw [if_neg c] at h; exact absurd h c
      have hlen := rest_len l 0
      have hsm := pv_sm l (by omega)
      generalize (pv l).1 = b at hf hsm
      generalize rest l 0 = c at hf hlen
      have hcl := fl_cln hf 100 (by decide)
      have hn : (GT EF 100 b).length = c.length := by have := congrArg List.length hcl; simpa only [List.length_map] using this
      have hmay := may_ev hsm
      rw [fl_mayB hf] at hmay
      refine clean_loop b c.length (by omega) c [] (by simp) (fun Z hZ => ?_)
      rw [List.nil_append] at hZ
      have hZl : Z.length = c.length := by rw [hZ, List.length_map]
      have hp1 := plain_ev (GT EF 100 b) (by omega)
      have hp2 := plain_ev Z (by omega)
      rw [pln_bare (bare_gt 100 b), hcl] at hp1
      rw [hZ, pln_k1, ← hZ] at hp2
      refine Ev.step (f := fun k => (tree_May.f k b).bind fun t234 => (if t234 = true then ((tree_Flat.f k b).bind fun t235 => ((variorumref05_Plain.f k t235).bind fun t238 => ((variorumref05_Plain.f k Z).bind fun t241 => ((variorumref05_Same.f k t238 t241).bind fun t244 => (some t244))))) else (none))) (fun k => ?_) (Ev.bind hmay (Ev.congr (fun k => if_pos rfl) (Ev.bind (Flat_evS hsm (by omega)) (Ev.bind hp1 (Ev.bind hp2 (Ev.bind (same5_ev _ (by rw [List.length_map]; omega)) (Ev.now _)))))))
      simp only [variorumlaw06_TreeBack.l0]
      rw [if_neg (by omega)]
    · simp only [if_neg h]
      have e : (pv l).1 = [] := by
        unfold pv at h ⊢
        by_cases c : (sN ((rest l 0).length + 1) 0 (rest l 0)).2.2.1 = 0
        · rw [if_pos c] at h; exact absurd rfl h
        · rw [if_neg c]
      rw [e]
      exact Ev.now _
theorem TreeBack : variorumlaw06_TreeBack.Pure := by
  intro a l _ ha _ hl
  replace hl : l.length ≤ 1048576 := Nat.le_trans (bulk_of l) hl
  have na := nbk_n a
  have sa := (nbk_sm na (by omega)).2
  have hn := gt_len EF (fun K x => by unfold EF; simp) na 100
  refine Ev.rounds (g := fun k => variorumlaw06_TreeBack.f k a l) ?_
  unfold variorumlaw06_TreeBack.f
  refine Ev.bind (Flat_ev na (by omega)) (Ev.bind (parse_ev _ (by omega)) (Ev.bind fixed_ev ?_))
  simp only [if_true]
  refine Ev.bind (may_ev sa) ?_
  cases m : mayB a with
  | false => exact back_tokens hl
  | true =>
    obtain ⟨d1, w1⟩ := may_dl m
    have e := pv_of (fl_flat 64 100 (by decide) a d1 w1)
    rw [e]
    simp only [if_true]
    exact Ev.bind (tsame_ev sa) (back_tokens hl)
end Go.Proofs.Ytjppjlhhdfkloaa.Pure

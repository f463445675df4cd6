/- A source read, step by step: remarks, blanks, braces, commands, words; what a beginning of it reads, and what comes behind. No program in sight. -/
import Derived.Test.YtjiljpddkfcdbaaGreatDoorVMath
namespace Go.Proofs.YtjiljpddkfcdbaaGreatDoor.VMath
open Go Go.Lib Go.Proofs.YtjiljpddkfcdbaaGreatDoor.PLx
set_option linter.unusedVariables false
set_option linter.unusedSimpArgs false

/-- One step: the bytes that it reads, the token (kind, text), and what is left. -/
inductive Step : List UInt8 → Option (Nat × List UInt8) → List UInt8 → Prop
  | rem {y R : List UInt8} : (∀ c ∈ y, c ≠ 10) → (R = [] ∨ ∃ r, R = 10 :: r) → Step (37 :: y) none R
  | blank {c : UInt8} {R : List UInt8} : cls c = 1 → Step [c] none R
  | brace {c : UInt8} {R : List UInt8} : cls c = 3 → Step [c] (some (if c = 125 then 3 else 2, [])) R
  | cmd {y R : List UInt8} : y ≠ [] → (∀ c ∈ y, isLetter c = true) → isLetter (R.headD 0) = false → Step (92 :: y) (some (1, y)) R
  | word {c : UInt8} {x w R : List UInt8} : (∀ R', WS R' → wordL (c :: (x ++ R')) = (w, R', true)) → WS R → Step (c :: x) (some (0, w)) R
inductive Rd : Nat → List UInt8 → List Tok → Prop
  | nil {p : Nat} : Rd p [] []
  | skip {p : Nat} {x R : List UInt8} {l : List Tok} : Step x none R → Rd (p + x.length) R l → Rd p (x ++ R) l
  | tok {p k : Nat} {x R t : List UInt8} {l : List Tok} : Step x (some (k, t)) R → Rd (p + x.length) R l → Rd p (x ++ R) ((k, t, p) :: l)
theorem Step.cons {x R : List UInt8} {o : Option (Nat × List UInt8)} (h : Step x o R) : ∃ c y, x = c :: y := by
  cases h <;> exact ⟨_, _, rfl⟩
/-- Where a word's first byte is. -/
theorem word_head {c : UInt8} {r w R : List UInt8} (h : wordL (c :: r) = (w, R, true)) (hl : R.length < (c :: r).length) : cls c = 0 ∨ cls c = 4 ∧ isLetter (r.headD 0) = false := by
  by_cases h0 : cls c = 0
  · exact .inl h0
  · by_cases h4 : cls c = 4
    · refine .inr ⟨h4, ?_⟩
      obtain rfl := cls_slash.1 h4
      cases r with
      | nil => rfl
      | cons d r =>
        by_cases hd : isLetter d = true
        · rw [w_cmd hd] at h
          simp only [Prod.mk.injEq] at h
          rw [← h.2.1] at hl; omega
        · simpa using hd
    · rw [w_stop h0 h4] at h
      simp only [Prod.mk.injEq] at h
      rw [← h.2.1] at hl; omega
theorem word_first {c : UInt8} {x w : List UInt8} (h : ∀ R', WS R' → wordL (c :: (x ++ R')) = (w, R', true)) : cls c = 0 ∨ cls c = 4 ∧ x ≠ [] ∧ isLetter (x.headD 0) = false := by
  have h1 := h [] ws_nil
  rw [List.append_nil] at h1
  rcases word_head h1 (by simp) with h2 | ⟨h2, h3⟩
  · exact .inl h2
  · refine .inr ⟨h2, ?_, h3⟩
    rintro rfl
    obtain rfl := cls_slash.1 h2
    rw [w_end] at h1; cases h1
theorem word_full {c : UInt8} {x w : List UInt8} (h : ∀ R', WS R' → wordL (c :: (x ++ R')) = (w, R', true)) : w ≠ [] := by
  have h1 := h [] ws_nil
  rw [List.append_nil] at h1
  rcases word_first h with h2 | ⟨h2, h3, h4⟩
  · rw [w_plain h2] at h1
    rintro rfl; cases h1
  · obtain rfl := cls_slash.1 h2
    cases x with
    | nil => exact absurd rfl h3
    | cons d x =>
      have h4 : isLetter d = false := h4
      cases he : escd d with
      | none => rw [w_bad h4 he] at h1; cases h1
      | some t =>
        rw [w_esc h4 he] at h1
        rintro rfl
        rcases escd_some he with ⟨_, e⟩ | ⟨_, e⟩ <;> rw [e] at h1 <;> cases h1
/-- What a token begins with. -/
theorem tok_head {x R : List UInt8} {k : Nat} {t : List UInt8} (h : Step x (some (k, t)) R) : ∃ c y, x = c :: y ∧ ¬ cls c = 1 ∧ ¬ cls c = 2 ∧ (k = 0 → cls c = 0 ∨ cls c = 4) ∧ (k = 1 → c = 92) ∧ (k = 2 → c = 123) ∧ (k = 3 → c = 125) ∧ k ≤ 3 := by
  cases h with
  | @brace c _ hc =>
    refine ⟨c, [], rfl, by omega, by omega, ?_⟩
    rcases cls_brace.1 hc with rfl | rfl <;> refine ⟨?_, ?_, ?_, ?_, ?_⟩ <;> first | decide | (intro h; exact absurd h (by decide))
  | cmd h1 h2 h3 => exact ⟨92, _, rfl, by decide, by decide, by simp, by simp, by simp, by simp, by omega⟩
  | word h1 h2 =>
    refine ⟨_, _, rfl, ?_, ?_, ?_, by simp, by simp, by simp, by omega⟩
    · rcases word_first h1 with h | ⟨h, _⟩ <;> omega
    · rcases word_first h1 with h | ⟨h, _⟩ <;> omega
    · intro _; rcases word_first h1 with h | ⟨h, _⟩ <;> omega
/-- What comes behind a step begins as it did. -/
theorem ws_restop {y R R' : List UInt8} {o : Option (Nat × List UInt8)} (hy : Step y o R) (h : WS (y ++ R)) : WS (y ++ R') := by
  obtain ⟨c, z, rfl⟩ := hy.cons
  rw [List.cons_append] at h ⊢
  obtain ⟨h0, h4⟩ := ws_inv h
  by_cases c4 : cls c = 4
  · obtain ⟨d, r', e, hd⟩ := h4 c4
    obtain rfl := cls_slash.1 c4
    cases hy with
    | blank hc => exact absurd hc (by decide)
    | brace hc => exact absurd hc (by decide)
    | cmd h1 h2 h3 =>
      cases z with
      | nil => exact absurd rfl h1
      | cons e2 z => exact ws_cmd (h2 _ List.mem_cons_self)
    | word h1 h2 =>
      have := h1 _ h2
      unfold WS at h
      rw [this] at h
      simp only [Prod.mk.injEq] at h
      have := congrArg List.length h.2.1
      simp at this
      omega
  · exact ws_stop h0 c4
theorem restop {x y R R' : List UInt8} {o o' : Option (Nat × List UInt8)} (h : Step x o (y ++ R)) (hy : Step y o' R) : Step x o (y ++ R') := by
  obtain ⟨c, z, e⟩ := hy.cons
  cases h with
  | rem h1 h2 =>
    refine .rem h1 (.inr ?_)
    subst e
    rcases h2 with h2 | ⟨r, h2⟩
    · simp at h2
    · simp only [List.cons_append, List.cons.injEq] at h2
      exact ⟨z ++ R', by rw [List.cons_append, h2.1]⟩
  | blank h => exact .blank h
  | brace h => exact .brace h
  | cmd h1 h2 h3 =>
    refine .cmd h1 h2 ?_
    subst e
    exact h3
  | word h1 h2 => exact .word h1 (ws_restop hy h2)
/-- What may stand behind any token. -/
def Ok (R : List UInt8) : Prop := isLetter (R.headD 0) = false ∧ WS R
theorem step_ok {x R R' : List UInt8} {kt : Nat × List UInt8} (h : Step x (some kt) R) (hR : Ok R') : Step x (some kt) R' := by
  cases h with
  | brace h => exact .brace h
  | cmd h1 h2 h3 => exact .cmd h1 h2 hR.1
  | word h1 h2 => exact .word h1 hR.2
theorem step_none {x R R' : List UInt8} (h : Step x none R) (hR : (¬ 37 ∈ x) ∨ R' = [] ∨ ∃ r, R' = 10 :: r) : Step x none R' := by
  cases h with
  | rem h1 h2 =>
    rcases hR with hR | hR
    · exact absurd List.mem_cons_self hR
    · exact .rem h1 hR
  | blank h => exact .blank h
theorem Rd.head {p : Nat} {S : List UInt8} {l : List Tok} (h : Rd p S l) : S = [] ∨ ∃ x o R, S = x ++ R ∧ Step x o R := by
  cases h with
  | nil => exact .inl rfl
  | skip h _ => exact .inr ⟨_, _, _, rfl, h⟩
  | tok h _ => exact .inr ⟨_, _, _, rfl, h⟩
/-- Two sources, one behind the other. -/
theorem Rd.app {p : Nat} {S : List UInt8} {l : List Tok} (h : Rd p S l) : ∀ (R' : List UInt8) (l' : List Tok), Ok R' → ((¬ 37 ∈ S) ∨ R' = [] ∨ ∃ r, R' = 10 :: r) → Rd (p + S.length) R' l' → Rd p (S ++ R') (l ++ l') := by
  induction h with
  | nil => intro R' l' _ _ h; exact h
  | @skip p x R l hs hr ih =>
    intro R' l' hok h37 h'
    rw [List.append_assoc]
    have h2 := ih R' l' hok (h37.imp (fun h hm => h (List.mem_append_right _ hm)) id) (by rw [List.length_append] at h'; rw [Nat.add_assoc]; exact h')
    refine Rd.skip ?_ h2
    rcases hr.head with rfl | ⟨y, o, R1, rfl, hy⟩
    · rw [List.nil_append]
      exact step_none hs (h37.imp (fun h hm => h (List.mem_append_left _ hm)) id)
    · rw [List.append_assoc]
      exact restop hs hy
  | @tok p k x R t l hs hr ih =>
    intro R' l' hok h37 h'
    rw [List.append_assoc]
    have h2 := ih R' l' hok (h37.imp (fun h hm => h (List.mem_append_right _ hm)) id) (by rw [List.length_append] at h'; rw [Nat.add_assoc]; exact h')
    refine Rd.tok ?_ h2
    rcases hr.head with rfl | ⟨y, o, R1, rfl, hy⟩
    · rw [List.nil_append]
      exact step_ok hs hok
    · rw [List.append_assoc]
      exact restop hs hy
/-- A source parted ahead of a token. -/
theorem Rd.split {p : Nat} {S : List UInt8} {l : List Tok} (h : Rd p S l) : ∀ (l1 : List Tok) (k : Nat) (t : List UInt8) (a : Nat) (l2 : List Tok), l = l1 ++ (k, t, a) :: l2 →
    ∃ A x R, S = A ++ (x ++ R) ∧ a = p + A.length ∧ Step x (some (k, t)) R ∧ Rd (a + x.length) R l2 ∧ (A = [] ∨ ∃ y o A', A = y ++ A' ∧ Step y o (A' ++ (x ++ R))) ∧ ∀ R' l', Ok R' → Rd a R' l' → Rd p (A ++ R') (l1 ++ l') := by
  induction h with
  | nil => intro l1 k t a l2 h; simp at h
  | @skip p x0 R0 l hs hr ih =>
    intro l1 k t a l2 h
    obtain ⟨A, x, R, e, ha, hx, hl2, hA, hR⟩ := ih l1 k t a l2 h
    refine ⟨x0 ++ A, x, R, by rw [e, List.append_assoc], by rw [ha, List.length_append]; omega, hx, hl2, .inr ⟨x0, none, A, rfl, e ▸ hs⟩, fun R' l' hok h' => ?_⟩
    rw [List.append_assoc]
    refine Rd.skip ?_ (hR R' l' hok h')
    rw [e] at hs
    rcases hA with rfl | ⟨y, o, A', rfl, hy⟩
    · rw [List.nil_append] at hs ⊢
      cases hs with
      | rem h1 h2 =>
        exfalso
        obtain ⟨c, z, rfl, hc, _⟩ := tok_head hx
        rcases h2 with h2 | ⟨r, h2⟩
        · simp at h2
        · simp only [List.cons_append, List.cons.injEq] at h2
          rw [h2.1] at hc
          exact hc rfl
      | blank h => exact .blank h
    · rw [List.append_assoc] at hs ⊢
      exact restop hs hy
  | @tok p k0 x0 R0 t0 l hs hr ih =>
    intro l1 k t a l2 h
    cases l1 with
    | nil =>
      simp only [List.nil_append, List.cons.injEq, Prod.mk.injEq] at h
      obtain ⟨⟨rfl, rfl, rfl⟩, rfl⟩ := h
      exact ⟨[], x0, R0, rfl, rfl, hs, hr, .inl rfl, fun R' l' hok h' => h'⟩
    | cons u l1 =>
      simp only [List.cons_append, List.cons.injEq] at h
      obtain ⟨rfl, h⟩ := h
      obtain ⟨A, x, R, e, ha, hx, hl2, hA, hR⟩ := ih l1 k t a l2 h
      refine ⟨x0 ++ A, x, R, by rw [e, List.append_assoc], by rw [ha, List.length_append]; omega, hx, hl2, .inr ⟨x0, _, A, rfl, e ▸ hs⟩, fun R' l' hok h' => ?_⟩
      rw [List.append_assoc]
      refine Rd.tok ?_ (hR R' l' hok h')
      rw [e] at hs
      rcases hA with rfl | ⟨y, o, A', rfl, hy⟩
      · exact step_ok hs hok
      · rw [List.append_assoc] at hs ⊢
        exact restop hs hy
/-- A token without its place. -/
def pl (t : Tok) : Nat × List UInt8 := (t.1, t.2.1)
theorem Rd.move {p : Nat} {S : List UInt8} {l : List Tok} (h : Rd p S l) : ∀ q, ∃ l', Rd q S l' ∧ l'.map pl = l.map pl := by
  induction h with
  | nil => intro q; exact ⟨[], .nil, rfl⟩
  | skip hs hr ih => intro q; obtain ⟨l', h1, h2⟩ := ih (q + _); exact ⟨l', .skip hs h1, h2⟩
  | @tok p k x R t l hs hr ih => intro q; obtain ⟨l', h1, h2⟩ := ih (q + _); exact ⟨(k, t, q) :: l', .tok hs h1, by rw [List.map_cons, List.map_cons, h2]; rfl⟩
theorem Rd.places {p : Nat} {S : List UInt8} {l : List Tok} (h : Rd p S l) : (∀ t ∈ l, p ≤ t.2.2 ∧ t.2.2 < p + S.length) ∧ l.Pairwise (fun u v => u.2.2 < v.2.2) := by
  induction h with
  | nil => exact ⟨fun t h => by (cases h), List.Pairwise.nil⟩
  | @skip p x R l hs hr ih =>
    refine ⟨fun t ht => ?_, ih.2⟩
    have := ih.1 t ht
    rw [List.length_append]; omega
  | @tok p k x R t l hs hr ih =>
    obtain ⟨c, y, rfl⟩ := hs.cons
    refine ⟨fun t ht => ?_, List.Pairwise.cons (fun v hv => ?_) ih.2⟩
    · rw [List.length_append]
      rcases List.mem_cons.1 ht with rfl | ht
      · simp; omega
      · have := ih.1 t ht; omega
    · have := ih.1 v hv
      simp only [List.length_cons] at this
      show p < v.2.2
      omega
/-! ## Letters' bytes -/
theorem step_v {x R : List UInt8} {o : Option (Nat × List UInt8)} (h : Step x o R) (hv : V (x ++ R)) : V x ∧ V R ∧ ∀ kt, o = some kt → V kt.2 := by
  have low : (∀ c ∈ x, c.toNat < 128) → V x ∧ V R := fun h => ⟨V.low h, V.drop_low hv h⟩
  have stop : ∀ c r, R = c :: r → c.toNat < 128 → V x ∧ V R := fun c r e hc => by subst e; exact V.split hv x c r rfl hc
  cases h with
  | @rem y _ h1 h2 =>
    rcases h2 with rfl | ⟨r, rfl⟩
    · rw [List.append_nil] at hv; exact ⟨hv, V.nil, fun kt h => by (cases h)⟩
    · have := stop 10 r rfl (by decide); exact ⟨this.1, this.2, fun kt h => by (cases h)⟩
  | @blank c _ h =>
    have := low (fun d hd => by rw [List.mem_singleton] at hd; subst hd; exact cls_low (by omega))
    exact ⟨this.1, this.2, fun kt h => by (cases h)⟩
  | @brace c _ h =>
    have := low (fun d hd => by rw [List.mem_singleton] at hd; subst hd; exact cls_low (by omega))
    exact ⟨this.1, this.2, fun kt h => by cases h; exact V.nil⟩
  | @cmd y _ h1 h2 h3 =>
    have := low (fun d hd => by
      rcases List.mem_cons.1 hd with rfl | hd
      · decide
      · exact letter_low (h2 d hd))
    exact ⟨this.1, this.2, fun kt h => by cases h; exact V.low fun c hc => letter_low (h2 c hc)⟩
  | @word c x w _ h1 h2 =>
    have h3 : V w ∧ V R := by
      have := w_v _ _ (Nat.le_refl _) hv
      rw [List.cons_append, h1 R h2] at this
      exact this
    have h4 : V (c :: x) := by
      cases R with
      | nil => rw [List.append_nil] at hv; exact hv
      | cons d r => exact (stop d r rfl (cls_low (ws_inv h2).1)).1
    exact ⟨h4, h3.2, fun kt h => by cases h; exact h3.1⟩
/-- A token that may be. -/
def Fine (t : Nat × List UInt8) : Prop := (t.1 = 0 ∧ t.2 ≠ [] ∧ V t.2 ∧ ∀ c ∈ t.2, ¬ cls c = 1) ∨ (t.1 = 1 ∧ t.2 ≠ [] ∧ ∀ c ∈ t.2, isLetter c = true) ∨ ((t.1 = 2 ∨ t.1 = 3) ∧ t.2 = [])
theorem step_fine {x R : List UInt8} {kt : Nat × List UInt8} (h : Step x (some kt) R) (hv : V (x ++ R)) : Fine kt := by
  have hV := (step_v h hv).2.2 kt rfl
  cases h with
  | @brace c _ h => refine .inr (.inr ⟨?_, rfl⟩); simp only; split <;> simp
  | cmd h1 h2 h3 => exact .inr (.inl ⟨rfl, h1, h2⟩)
  | @word c x w _ h1 h2 =>
    refine .inl ⟨rfl, word_full h1, hV, ?_⟩
    have := w_blank _ (c :: (x ++ [])) (Nat.le_refl _)
    rw [h1 [] ws_nil] at this
    exact this
theorem Rd.fine {p : Nat} {S : List UInt8} {l : List Tok} (h : Rd p S l) : V S → ∀ t ∈ l, Fine (pl t) := by
  induction h with
  | nil => intro _ t h; cases h
  | skip hs hr ih => intro hv; exact ih (step_v hs hv).2.1
  | @tok p k x R t l hs hr ih =>
    intro hv u hu
    rcases List.mem_cons.1 hu with rfl | hu
    · exact step_fine hs hv
    · exact ih (step_v hs hv).2.1 u hu
/-- Both parts of a source are letters' bytes. -/
theorem Rd.split_v {p : Nat} {S : List UInt8} {l : List Tok} (h : Rd p S l) : V S → ∀ (l1 : List Tok) (k : Nat) (t : List UInt8) (a : Nat) (l2 : List Tok), l = l1 ++ (k, t, a) :: l2 → ∀ A B, S = A ++ B → a = p + A.length → V A ∧ V B := by
  induction h with
  | nil => intro _ l1 k t a l2 h; simp at h
  | @skip p x0 R0 l hs hr ih =>
    intro hv l1 k t a l2 h A B e ha
    have hp := hr.places.1 (k, t, a) (by rw [h]; simp)
    simp only at hp
    rcases List.append_eq_append_iff.1 e with ⟨A', rfl, e2⟩ | ⟨A', rfl, e2⟩
    · have h2 := ih (step_v hs hv).2.1 l1 k t a l2 h A' B e2 (by rw [ha, List.length_append]; omega)
      exact ⟨V.app (step_v hs hv).1 h2.1, h2.2⟩
    · have : A' = [] := by
        rw [List.length_append] at hp
        exact List.eq_nil_of_length_eq_zero (by omega)
      subst this
      rw [List.append_nil] at hs hv
      rw [List.nil_append] at e2
      have := step_v hs hv
      exact ⟨this.1, by rw [e2]; exact this.2.1⟩
  | @tok p k0 x0 R0 t0 l hs hr ih =>
    intro hv l1 k t a l2 h A B e ha
    cases l1 with
    | nil =>
      simp only [List.nil_append, List.cons.injEq, Prod.mk.injEq] at h
      obtain ⟨⟨rfl, rfl, rfl⟩, rfl⟩ := h
      have : A = [] := List.eq_nil_of_length_eq_zero (by omega)
      subst this
      rw [List.nil_append] at e
      exact ⟨V.nil, by rw [← e]; exact hv⟩
    | cons u l1 =>
      simp only [List.cons_append, List.cons.injEq] at h
      obtain ⟨rfl, h⟩ := h
      have hp := hr.places.1 (k, t, a) (by rw [h]; simp)
      simp only at hp
      rcases List.append_eq_append_iff.1 e with ⟨A', rfl, e2⟩ | ⟨A', rfl, e2⟩
      · have h2 := ih (step_v hs hv).2.1 l1 k t a l2 h A' B e2 (by rw [ha, List.length_append]; omega)
        exact ⟨V.app (step_v hs hv).1 h2.1, h2.2⟩
      · have : A' = [] := by
          rw [List.length_append] at hp
          exact List.eq_nil_of_length_eq_zero (by omega)
        subst this
        rw [List.append_nil] at hs hv
        rw [List.nil_append] at e2
        have := step_v hs hv
        exact ⟨this.1, by rw [e2]; exact this.2.1⟩
/-! ## The reader reads so -/
theorem rem_app {y R : List UInt8} (h : ∀ c ∈ y, c ≠ 10) (hR : R = [] ∨ ∃ r, R = 10 :: r) : rem_ (37 :: (y ++ R)) = y.length + 1 := by
  have : ∀ z : List UInt8, (∀ c ∈ z, c ≠ 10) → rem_ (z ++ R) = z.length := by
    intro z
    induction z with
    | nil =>
      intro _
      rcases hR with rfl | ⟨r, rfl⟩ <;> rfl
    | cons c z ih =>
      intro hz
      have h1 := ih (fun d hd => hz d (List.mem_cons_of_mem _ hd))
      unfold rem_ at h1 ⊢
      rw [List.cons_append, List.takeWhile_cons_of_pos (by simpa [notNl] using hz c List.mem_cons_self), List.length_cons, h1]
      rfl
  exact this (37 :: y) (fun c hc => by
    rcases List.mem_cons.1 hc with rfl | hc
    · decide
    · exact h c hc)
theorem run_app {y R : List UInt8} (h : ∀ c ∈ y, isLetter c = true) (hR : isLetter (R.headD 0) = false) : run_ (y ++ R) = y.length := by
  induction y with
  | nil =>
    cases R with
    | nil => rfl
    | cons c r => unfold run_; rw [List.nil_append, List.takeWhile_cons_of_neg (by rw [show isLetter c = false from hR]; decide)]
  | cons c y ih =>
    have h1 := ih (fun d hd => h d (List.mem_cons_of_mem _ hd))
    unfold run_ at h1 ⊢
    rw [List.cons_append, List.takeWhile_cons_of_pos (h c List.mem_cons_self), List.length_cons, h1]
    rfl
theorem rd_lex {p : Nat} {S : List UInt8} {l : List Tok} (h : Rd p S l) : ∀ n, S.length ≤ n → lexK (n + 1) p S = (l, none) := by
  induction h with
  | nil => intro n _; exact lx_nil _ _
  | @skip p x R l hs hr ih =>
    intro n hn
    cases n with
    | zero => obtain ⟨c, y, rfl⟩ := hs.cons; simp at hn
    | succ n =>
    rw [List.length_append] at hn
    cases hs with
    | @rem y _ h1 h2 =>
      simp only [List.length_cons] at hn ih
      rw [List.cons_append, lx_rem (by rfl), rem_app h1 h2]
      have : (37 :: (y ++ R)).drop (y.length + 1) = R := by simp
      rw [this]
      exact ih n (by omega)
    | @blank c _ h =>
      simp only [List.length_cons, List.length_nil] at hn ih
      rw [List.cons_append, List.nil_append, lx_blank h]
      exact ih n (by omega)
  | @tok p k x R t l hs hr ih =>
    intro n hn
    cases n with
    | zero => obtain ⟨c, y, rfl⟩ := hs.cons; simp at hn
    | succ n =>
    rw [List.length_append] at hn
    cases hs with
    | @brace c _ h =>
      simp only [List.length_cons, List.length_nil] at hn ih
      rw [List.cons_append, List.nil_append, lx_brace h, show p + 1 = p + (0 + 1) by omega, ih n (by omega)]
    | @cmd _ _ h1 h2 h3 =>
      simp only [List.length_cons] at hn ih
      have e := run_app h2 h3
      have hd : isLetter ((t ++ R).headD 0) = true := by
        cases t with
        | nil => exact absurd rfl h1
        | cons d y => exact h2 d List.mem_cons_self
      rw [List.cons_append, lx_cmd (by rfl) hd, e, List.take_left, List.drop_left, show p + 1 + t.length = p + (t.length + 1) by omega, ih n (by omega)]
    | @word c x _ _ h1 h2 =>
      simp only [List.length_cons] at hn ih
      have e := h1 R h2
      have hw : (wordL (c :: (x ++ R))).2.2 = true := by rw [e]
      rw [List.cons_append, lx_word (word_head e (by simp; omega)) hw, e]
      simp only
      rw [show p + ((c :: (x ++ R)).length - R.length) = p + (x.length + 1) by simp; omega, ih n (by omega)]
/-- A word's bytes, apart from what comes behind. -/
theorem w_pre : ∀ (n : Nat) (S : List UInt8), S.length ≤ n → (wordL S).2.2 = true → WS (wordL S).2.1 ∧ ∃ x, S = x ++ (wordL S).2.1 ∧ ∀ R', WS R' → wordL (x ++ R') = ((wordL S).1, R', true)
  | _, [], _, _ => by rw [w_nil]; exact ⟨ws_nil, [], rfl, fun R' h => h⟩
  | 0, c :: r, h, _ => by simp at h
  | n + 1, c :: r, h, hw => by
    have hr : r.length ≤ n := by simpa using h
    by_cases h0 : cls c = 0
    · rw [w_plain h0] at hw ⊢
      obtain ⟨h1, x, h2, h3⟩ := w_pre n r hr hw
      refine ⟨h1, c :: x, by rw [List.cons_append, ← h2], fun R' hR => ?_⟩
      rw [List.cons_append, w_plain h0, h3 R' hR]
    · by_cases h4 : cls c = 4
      · obtain rfl := cls_slash.1 h4
        cases r with
        | nil => rw [w_end] at hw; cases hw
        | cons d r =>
          by_cases hl : isLetter d = true
          · rw [w_cmd hl]; exact ⟨ws_cmd hl, [], rfl, fun R' h => h⟩
          · have hl : isLetter d = false := by simpa using hl
            cases he : escd d with
            | none => rw [w_bad hl he] at hw; cases hw
            | some t =>
              rw [w_esc hl he] at hw ⊢
              obtain ⟨h1, x, h2, h3⟩ := w_pre n r (by simp at hr; omega) hw
              refine ⟨h1, 92 :: d :: x, by rw [List.cons_append, List.cons_append, ← h2], fun R' hR => ?_⟩
              rw [List.cons_append, List.cons_append, w_esc hl he, h3 R' hR]
      · rw [w_stop h0 h4]; exact ⟨ws_stop h0 h4, [], rfl, fun R' h => h⟩
theorem lex_rd : ∀ (n p : Nat) (S : List UInt8) (l : List Tok), S.length ≤ n → lexK (n + 1) p S = (l, none) → Rd p S l
  | n, p, [], l, _, h => by
    rw [lx_nil] at h
    simp only [Prod.mk.injEq] at h
    rw [← h.1]; exact .nil
  | 0, p, c :: r, l, h, _ => by simp at h
  | n + 1, p, c :: r, l, hn, h => by
    have hr : r.length ≤ n := by simpa using hn
    rcases cls_five c with h0 | h1 | h2 | h3 | h4
    rotate_left
    · rw [lx_blank h1] at h
      exact Rd.skip (x := [c]) (.blank h1) (lex_rd n (p + 1) r l hr h)
    · rw [lx_rem h2] at h
      have hp := rem_pos (r := r) h2
      have hle := rem_le (c :: r)
      have h5 := lex_rd n _ _ l (by rw [List.length_drop]; simp only [List.length_cons] at hle ⊢; omega) h
      obtain rfl := cls_remark.1 h2
      have e : (37 :: r).take (rem_ (37 :: r)) = 37 :: r.take (rem_ (37 :: r) - 1) := by
        rw [show rem_ (37 :: r) = (rem_ (37 :: r) - 1) + 1 by omega, List.take_succ_cons]
        rfl
      have hlen : (37 :: r.take (rem_ (37 :: r) - 1)).length = rem_ (37 :: r) := by
        rw [← e, List.length_take]; omega
      have h6 : Step (37 :: r.take (rem_ (37 :: r) - 1)) none ((37 :: r).drop (rem_ (37 :: r))) := by
        refine .rem (fun c hc => ?_) ?_
        · obtain ⟨j, hj⟩ := List.mem_iff_getElem?.1 hc
          have hjl := (List.getElem?_eq_some_iff.1 hj).1
          rw [List.length_take] at hjl
          obtain ⟨d, hd, hne⟩ := rem_in (S := 37 :: r) (j := j + 1) (by omega)
          rw [List.getElem?_take, if_pos (by omega)] at hj
          rw [List.getElem?_cons_succ, hj] at hd
          cases hd; exact hne
        · by_cases hz : rem_ (37 :: r) < (37 :: r).length
          · right
            rw [List.drop_eq_getElem_cons hz]
            have := rem_end (List.getElem?_eq_getElem hz)
            exact ⟨_, by rw [this]⟩
          · left
            exact List.drop_of_length_le (by omega)
      have h7 := Rd.skip (p := p) h6 (by rw [hlen]; exact h5)
      rw [← e, List.take_append_drop] at h7
      exact h7
    · rw [lx_brace h3] at h
      simp only [Prod.mk.injEq] at h
      rw [← h.1]
      exact Rd.tok (x := [c]) (.brace h3) (lex_rd n (p + 1) r _ hr (Prod.ext rfl h.2))
    all_goals
      by_cases hl : cls c = 4 ∧ isLetter (r.headD 0) = true
      · obtain ⟨h4', hl⟩ := hl
        rw [lx_cmd h4' hl] at h
        simp only [Prod.mk.injEq] at h
        obtain rfl := cls_slash.1 h4'
        rw [← h.1]
        have hle := run_le r
        have hlen : (r.take (run_ r)).length = run_ r := by rw [List.length_take]; omega
        have h5 := lex_rd n (p + 1 + run_ r) (r.drop (run_ r)) _ (by rw [List.length_drop]; omega) (Prod.ext rfl h.2)
        have h6 : Step (92 :: r.take (run_ r)) (some (1, r.take (run_ r))) (r.drop (run_ r)) := by
          refine .cmd ?_ (fun c hc => ?_) ?_
          · intro e
            have := congrArg List.length e
            rw [hlen] at this
            cases r with
            | nil => exact absurd hl (by decide)
            | cons d r =>
              have hl : isLetter d = true := hl
              unfold run_ at this
              rw [List.takeWhile_cons_of_pos hl] at this
              simp at this
          · obtain ⟨j, hj⟩ := List.mem_iff_getElem?.1 hc
            have hjl := (List.getElem?_eq_some_iff.1 hj).1
            rw [hlen] at hjl
            obtain ⟨d, hd, hne⟩ := runs_in hjl
            rw [List.getElem?_take, if_pos hjl, hd] at hj
            cases hj; exact hne
          · cases e : r.drop (run_ r) with
            | nil => rfl
            | cons d r' =>
              refine run_end (S := r) ?_
              have : (r.drop (run_ r))[0]? = some d := by rw [e]; rfl
              rwa [List.getElem?_drop, Nat.add_zero] at this
        have h7 := Rd.tok (p := p) h6 (by rw [List.length_cons, hlen, show p + (run_ r + 1) = p + 1 + run_ r by omega]; exact h5)
        rw [List.cons_append, List.take_append_drop] at h7
        exact h7
      · have hc : cls c = 0 ∨ cls c = 4 ∧ isLetter (r.headD 0) = false := by
          first
          | exact .inl h0
          | (refine .inr ⟨h4, ?_⟩
             cases hb : isLetter (r.headD 0) with
             | true => exact absurd ⟨h4, hb⟩ hl
             | false => rfl)
        cases hw : (wordL (c :: r)).2.2 with
        | false => rw [lx_fail hc hw] at h; cases h
        | true =>
          have hlt := w_lt hc hw
          rw [lx_word hc hw] at h
          simp only [Prod.mk.injEq] at h
          rw [← h.1]
          have h5 := lex_rd n _ _ _ (by simp only [List.length_cons] at hlt hn; omega) (Prod.ext rfl h.2)
          obtain ⟨hws, x, hx, hR⟩ := w_pre _ _ (Nat.le_refl _) hw
          cases x with
          | nil => rw [List.nil_append] at hx; rw [← hx] at hlt; omega
          | cons c' x =>
            have hlx : (c :: r).length - (wordL (c :: r)).2.1.length = (c' :: x).length := by
              have := congrArg List.length hx
              rw [List.length_append] at this
              omega
            rw [hlx] at h5
            have h6 := Rd.tok (p := p) (.word hR hws) h5
            rw [← hx] at h6
            rw [hlx]
            exact h6
/-- Where reading fails. -/
theorem lex_no : ∀ (n p : Nat) (S : List UInt8) (l : List Tok) (q : Nat), S.length ≤ n → lexK (n + 1) p S = (l, some q) → p ≤ q ∧ q ≤ p + S.length
  | n, p, [], l, q, _, h => by rw [lx_nil] at h; simp at h
  | 0, p, c :: r, l, q, h, _ => by simp at h
  | n + 1, p, c :: r, l, q, hn, h => by
    have hr : r.length ≤ n := by simpa using hn
    simp only [List.length_cons]
    rcases cls_five c with h0 | h1 | h2 | h3 | h4
    rotate_left
    · rw [lx_blank h1] at h
      have := lex_no n _ _ _ _ hr h; omega
    · rw [lx_rem h2] at h
      have hp := rem_pos (r := r) h2
      have hle := rem_le (c :: r)
      have := lex_no n _ _ _ _ (by rw [List.length_drop]; simp only [List.length_cons] at hle ⊢; omega) h
      rw [List.length_drop] at this
      simp only [List.length_cons] at this hle
      omega
    · rw [lx_brace h3] at h
      simp only [Prod.mk.injEq] at h
      have := lex_no n _ _ _ _ hr (Prod.ext rfl h.2); omega
    all_goals
      by_cases hl : cls c = 4 ∧ isLetter (r.headD 0) = true
      · rw [lx_cmd hl.1 hl.2] at h
        simp only [Prod.mk.injEq] at h
        have hle := run_le r
        have := lex_no n _ _ _ _ (by rw [List.length_drop]; omega) (Prod.ext rfl h.2)
        rw [List.length_drop] at this
        omega
      · have hc : cls c = 0 ∨ cls c = 4 ∧ isLetter (r.headD 0) = false := by
          first
          | exact .inl h0
          | (refine .inr ⟨h4, ?_⟩
             cases hb : isLetter (r.headD 0) with
             | true => exact absurd ⟨h4, hb⟩ hl
             | false => rfl)
        have hsx := (w_suffix _ (c :: r) (Nat.le_refl _)).length_le
        cases hw : (wordL (c :: r)).2.2 with
        | false =>
          rw [lx_fail hc hw] at h
          simp only [Prod.mk.injEq, Option.some.injEq] at h
          rw [← h.2]
          simp only [List.length_cons] at hsx ⊢
          omega
        | true =>
          have hlt := w_lt hc hw
          rw [lx_word hc hw] at h
          simp only [Prod.mk.injEq] at h
          have := lex_no n _ _ _ _ (by simp only [List.length_cons] at hlt hn; omega) (Prod.ext rfl h.2)
          simp only [List.length_cons] at this hsx hlt
          omega
end Go.Proofs.YtjiljpddkfcdbaaGreatDoor.VMath

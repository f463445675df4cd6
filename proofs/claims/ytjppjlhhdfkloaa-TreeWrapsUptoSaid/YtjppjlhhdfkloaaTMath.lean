/- Nodes and their tokens, with no program in sight: what is read is sound and complete; the first fault is the scan's. -/
import Derived.Test.YtjppjlhhdfkloaaPTpx0
namespace Go.Proofs.Ytjppjlhhdfkloaa.Pure
set_option linter.unusedVariables false
set_option linter.unusedSimpArgs false
open Go.RowKit Go.Proofs.Ytjppjlhhdfkloaa.PTp Go.Proofs.YtjppjlhhdfkloaaW.PrintWords Go.Proofs.YtjppjlhhdfkloaaW.PrintLast Go.Proofs.YtjppjlhhdfkloaaW.PrintMore

/-- Nodes, or a command's groups, and tokens that are theirs; at most so many groups in one another. -/
inductive Fl : Nat → (List S38 ⊕ List (List S38)) → List S44 → Prop
  | nil (d : Nat) : Fl d (.inl []) []
  | word {d : Nat} {t : S44} {ns : List S38} {c : List S44} : t.f0 = 0 → Fl d (.inl ns) c → Fl d (.inl (⟨false, t.f1, [], t.f2⟩ :: ns)) (t :: c)
  | cmd {d : Nat} {t : S44} {gs : List (List S38)} {ns : List S38} {ca c : List S44} : t.f0 = 1 → Fl d (.inr gs) ca → Fl d (.inl ns) c → Fl d (.inl (⟨true, t.f1, gs, t.f2⟩ :: ns)) (t :: (ca ++ c))
  | nog (d : Nat) : Fl d (.inr []) []
  | grp {d : Nat} {o e : S44} {ns : List S38} {gs : List (List S38)} {c ca : List S44} : o.f0 = 2 → e.f0 = 3 → Fl d (.inl ns) c → Fl (d + 1) (.inr gs) ca → Fl (d + 1) (.inr (ns :: gs)) (o :: (c ++ e :: ca))
/-- No group begins here. -/
def noO : List S44 → Prop
  | [] => True
  | t :: _ => ¬ t.f0 = 2
theorem noO_fl {d : Nat} {ns : List S38} {c r : List S44} (h : Fl d (.inl ns) c) (hr : noO r) : noO (c ++ r) := by
  cases h with
  | nil => exact hr
  | word h1 _ => show ¬ _; omega
  | cmd h1 _ _ => show ¬ _; omega
/-- The first fault of tokens. -/
def Fs : List S44 → List Int → Bool → Int × Int
  | [], opens, _ => if opens.length > 0 then (62, opens.getD (opens.length - 1) 0) else (0, 0)
  | t :: r, opens, b => if t.f0 = 2 then (if b = true then (if opens.length = 64 then (63, t.f2) else Fs r (opens ++ [t.f2]) false) else (60, t.f2))
      else if t.f0 = 3 then (if opens.length = 0 then (61, t.f2) else Fs r (opens.take (opens.length - 1)) true)
      else Fs r opens (t.f0 == 1)
theorem fs_b {r : List S44} (h : noO r) (opens : List Int) (b b' : Bool) : Fs r opens b = Fs r opens b' := by
  cases r with
  | nil => rfl
  | cons t r => simp only [Fs]; rw [if_neg h, if_neg h]
theorem take_snoc (l : List Int) (x : Int) : (l ++ [x]).take ((l ++ [x]).length - 1) = l := by simp
theorem fs_fl {d : Nat} {x : List S38 ⊕ List (List S38)} {c : List S44} (h : Fl d x c) : ∀ (r : List S44) (opens : List Int), opens.length + d ≤ 64 → match x with
    | .inl _ => noO r → Fs (c ++ r) opens false = Fs r opens false
    | .inr _ => Fs (c ++ r) opens true = Fs r opens true := by
  induction h with
  | nil d => intro r opens _ _; rfl
  | nog d => intro r opens _; rfl
  | word h1 _ ih =>
    intro r opens hd hr
    have := ih r opens hd hr
    rw [List.cons_append]
    simp only [Fs]
    rw [if_neg (by omega), if_neg (by omega), h1]
    exact this
  | cmd h1 _ hc ih1 ih2 =>
    rename_i c0 _
    intro r opens hd hr
    have e1 := ih1 (c0 ++ r) opens hd
    have e2 := ih2 r opens hd hr
    rw [List.cons_append, List.append_assoc]
    simp only [Fs]
    rw [if_neg (by omega), if_neg (by omega), h1]
    refine (e1.trans ?_)
    rw [fs_b (noO_fl hc hr) opens true false]
    exact e2
  | grp h1 h2 _ _ ih1 ih2 =>
    rename_i d o e ns gs c ca _ _
    intro r opens hd
    have e1 := ih1 (e :: (ca ++ r)) (opens ++ [o.f2]) (by rw [List.length_append, List.length_singleton]; omega) (by show ¬ _; omega)
    have e2 := ih2 r opens hd
    rw [List.cons_append, List.append_assoc, List.cons_append]
    simp only [Fs]
    rw [if_pos h1, if_pos trivial, if_neg (by omega), e1]
    simp only [Fs]
    rw [if_neg (by omega), if_pos h2, if_neg (by simp), take_snoc]
    exact e2

/-! ## Reading -/
mutual
def sN : Nat → Nat → List S44 → List S38 × List S44 × Int × Int
  | 0, _, r => ([], r, 0, 0)
  | _ + 1, _, [] => ([], [], 0, 0)
  | n + 1, d, t :: r =>
    if t.f0 = 0 then (⟨false, t.f1, [], t.f2⟩ :: (sN n d r).1, (sN n d r).2)
    else if t.f0 = 1 then (if (sA n d r).2.2.1 = 0 then (⟨true, t.f1, (sA n d r).1, t.f2⟩ :: (sN n d (sA n d r).2.1).1, (sN n d (sA n d r).2.1).2) else ([⟨true, t.f1, (sA n d r).1, t.f2⟩], (sA n d r).2))
    else if t.f0 = 2 then ([], t :: r, 60, t.f2)
    else if d > 0 then ([], t :: r, 0, 0) else ([], t :: r, 61, t.f2)
def sA : Nat → Nat → List S44 → List (List S38) × List S44 × Int × Int
  | 0, _, r => ([], r, 0, 0)
  | _ + 1, _, [] => ([], [], 0, 0)
  | n + 1, d, t :: r =>
    if t.f0 = 2 then (if d ≥ 64 then ([], t :: r, 63, t.f2) else
      match (sN n (d + 1) r).2.1 with
      | [] => ([(sN n (d + 1) r).1], [], if (sN n (d + 1) r).2.2.1 = 0 then (62, t.f2) else (sN n (d + 1) r).2.2)
      | e :: r2 => if e.f0 = 3 then (if (sN n (d + 1) r).2.2.1 = 0 then ((sN n (d + 1) r).1 :: (sA n d r2).1, (sA n d r2).2) else ([(sN n (d + 1) r).1], r2, (sN n (d + 1) r).2.2))
        else ([(sN n (d + 1) r).1], e :: r2, if (sN n (d + 1) r).2.2.1 = 0 then (62, t.f2) else (sN n (d + 1) r).2.2))
    else ([], t :: r, 0, 0)
end
def Kinds (r : List S44) : Prop := ∀ t ∈ r, 0 ≤ t.f0 ∧ t.f0 ≤ 3
/-- Where nodes end. -/
def endN (d : Nat) : List S44 → Prop
  | [] => True
  | t :: _ => 0 < d ∧ t.f0 = 3
theorem endN_noO {d : Nat} {r : List S44} (h : endN d r) : noO r := by
  cases r with
  | nil => trivial
  | cons t r => have := h.2; show ¬ _; omega
theorem sound : ∀ n, (∀ d r, d ≤ 64 → r.length < n → Kinds r → (sN n d r).2.2.1 = 0 → ∃ c, r = c ++ (sN n d r).2.1 ∧ Fl (64 - d) (.inl (sN n d r).1) c ∧ endN d (sN n d r).2.1) ∧
    (∀ d r, d ≤ 64 → r.length < n → Kinds r → (sA n d r).2.2.1 = 0 → ∃ c, r = c ++ (sA n d r).2.1 ∧ Fl (64 - d) (.inr (sA n d r).1) c ∧ noO (sA n d r).2.1)
  | 0 => ⟨fun _ _ _ h => absurd h (by omega), fun _ _ _ h => absurd h (by omega)⟩
  | n + 1 => by
    obtain ⟨ihN, ihA⟩ := sound n
    constructor
    · intro d r hd hl hk hf
      cases r with
      | nil => exact ⟨[], rfl, Fl.nil _, trivial⟩
      | cons t r =>
        have hk' : Kinds r := fun x hx => hk x (List.mem_cons_of_mem _ hx)
        have ht := hk t (List.mem_cons_self ..)
        have hl' : r.length < n := by simpa using hl
        simp only [sN] at hf ⊢
        by_cases c0 : t.f0 = 0
        · rw [if_pos c0] at hf ⊢
          obtain ⟨c, h1, h2, h3⟩ := ihN d r hd hl' hk' hf
          refine ⟨t :: c, ?_, Fl.word c0 h2, h3⟩
          rw [List.cons_append, ← h1]
        · rw [if_neg c0] at hf ⊢
          by_cases c1 : t.f0 = 1
          · rw [if_pos c1] at hf ⊢
            by_cases cA : (sA n d r).2.2.1 = 0
            · rw [if_pos cA] at hf ⊢
              obtain ⟨ca, h1, h2, h3⟩ := ihA d r hd hl' hk' cA
              have hlen : (sA n d r).2.1.length ≤ r.length := by have := congrArg List.length h1; rw [List.length_append] at this; omega
              obtain ⟨c, h4, h5, h6⟩ := ihN d (sA n d r).2.1 hd (by omega) (fun x hx => hk' x (by rw [h1]; exact List.mem_append_right _ hx)) hf
              refine ⟨t :: (ca ++ c), ?_, Fl.cmd c1 h2 h5, h6⟩
              rw [List.cons_append, List.append_assoc, ← h4, ← h1]
            · rw [if_neg cA] at hf; exact absurd hf cA
          · rw [if_neg c1] at hf ⊢
            by_cases c2 : t.f0 = 2
            · rw [if_pos c2] at hf; exact absurd hf (show ¬ (60 : Int) = 0 by decide)
            · rw [if_neg c2] at hf ⊢
              by_cases c3 : d > 0
              · rw [if_pos c3]
                exact ⟨[], rfl, Fl.nil _, c3, by omega⟩
              · rw [if_neg c3] at hf; exact absurd hf (show ¬ (61 : Int) = 0 by decide)
    · intro d r hd hl hk hf
      cases r with
      | nil => exact ⟨[], rfl, Fl.nog _, trivial⟩
      | cons t r =>
        have hk' : Kinds r := fun x hx => hk x (List.mem_cons_of_mem _ hx)
        have hl' : r.length < n := by simpa using hl
        simp only [sA] at hf ⊢
        by_cases c2 : t.f0 = 2
        · rw [if_pos c2] at hf ⊢
          by_cases c3 : d ≥ 64
          · rw [if_pos c3] at hf; exact absurd hf (show ¬ (63 : Int) = 0 by decide)
          · rw [if_neg c3] at hf ⊢
            have nz : ∀ (y : Int × Int), ¬ (if (sN n (d + 1) r).2.2.1 = 0 then ((62 : Int), t.f2) else (sN n (d + 1) r).2.2).1 = 0 := fun _ => by
              split
              · exact show ¬ (62 : Int) = 0 by decide
              · assumption
            cases hm : (sN n (d + 1) r).2.1 with
            | nil => rw [hm] at hf; exact absurd hf (nz (0, 0))
            | cons e r2 =>
              rw [hm] at hf
              dsimp only at hf ⊢
              by_cases ce : e.f0 = 3
              · rw [if_pos ce] at hf ⊢
                by_cases cf : (sN n (d + 1) r).2.2.1 = 0
                · rw [if_pos cf] at hf ⊢
                  obtain ⟨c, h1, h2, h3⟩ := ihN (d + 1) r (by omega) hl' hk' cf
                  rw [hm] at h1
                  have hlen : r2.length < r.length := by have := congrArg List.length h1; rw [List.length_append, List.length_cons] at this; omega
                  obtain ⟨ca, h4, h5, h6⟩ := ihA d r2 hd (by omega) (fun x hx => hk' x (by rw [h1]; exact List.mem_append_right _ (List.mem_cons_of_mem _ hx))) hf
                  refine ⟨t :: (c ++ e :: ca), ?_, ?_, h6⟩
                  · rw [List.cons_append, List.append_assoc, List.cons_append, ← h4, ← h1]
                  · have ed : 64 - d = (64 - (d + 1)) + 1 := by omega
                    rw [ed] at h5 ⊢
                    exact Fl.grp c2 ce h2 h5
                · rw [if_neg cf] at hf; exact absurd hf cf
              · rw [if_neg ce] at hf; exact absurd hf (nz (0, 0))
        · rw [if_neg c2]
          exact ⟨[], rfl, Fl.nog _, c2⟩
theorem complete {d' : Nat} {x : List S38 ⊕ List (List S38)} {c : List S44} (h : Fl d' x c) : ∀ (n d : Nat) (r : List S44), d' + d ≤ 64 → (c ++ r).length < n → match x with
    | .inl ns => endN d r → sN n d (c ++ r) = (ns, r, 0, 0)
    | .inr gs => noO r → sA n d (c ++ r) = (gs, r, 0, 0) := by
  induction h with
  | nil d0 =>
    intro n d r hd hl hr
    obtain ⟨n, rfl⟩ : ∃ m, n = m + 1 := ⟨n - 1, by omega⟩
    cases r with
    | nil => rfl
    | cons t r =>
      have h3 := hr.2
      show sN (n + 1) d (t :: r) = _
      simp only [sN]
      rw [if_neg (by omega), if_neg (by omega), if_neg (by omega), if_pos hr.1]
  | nog d0 =>
    intro n d r hd hl hr
    obtain ⟨n, rfl⟩ : ∃ m, n = m + 1 := ⟨n - 1, by omega⟩
    cases r with
    | nil => rfl
    | cons t r =>
      show sA (n + 1) d (t :: r) = _
      simp only [sA]
      rw [if_neg hr]
  | word h1 _ ih =>
    intro n d r hd hl hr
    obtain ⟨n, rfl⟩ : ∃ m, n = m + 1 := ⟨n - 1, by omega⟩
    have := ih n d r hd (by simpa using hl) hr
    rw [List.cons_append]
    simp only [sN]
    rw [if_pos h1, this]
  | cmd h1 _ hc ih1 ih2 =>
    rename_i c0 _
    intro n d r hd hl hr
    obtain ⟨n, rfl⟩ : ∃ m, n = m + 1 := ⟨n - 1, by omega⟩
    rw [List.cons_append, List.append_assoc] at hl ⊢
    rw [List.length_cons] at hl
    have e1 := ih1 n d (c0 ++ r) hd (by omega) (noO_fl hc (endN_noO hr))
    rw [List.length_append] at hl
    have e2 := ih2 n d r hd (by omega) hr
    simp only [sN]
    rw [if_neg (by omega), if_pos h1, e1]
    dsimp only
    rw [if_pos rfl, e2]
  | grp h1 h2 _ _ ih1 ih2 =>
    rename_i d0 o e ns gs c ca _ _
    intro n d r hd hl hr
    obtain ⟨n, rfl⟩ : ∃ m, n = m + 1 := ⟨n - 1, by omega⟩
    rw [List.cons_append, List.append_assoc, List.cons_append] at hl ⊢
    rw [List.length_cons] at hl
    have e1 := ih1 n (d + 1) (e :: (ca ++ r)) (by omega) (by omega) ⟨by omega, h2⟩
    rw [List.length_append, List.length_cons] at hl
    have e2 := ih2 n d r hd (by omega) hr
    simp only [sA]
    rw [if_pos h1, if_neg (by omega), e1]
    dsimp only
    rw [if_pos h2, if_pos rfl, e2]
theorem fault_is : ∀ n, (∀ d r, d ≤ 64 → r.length < n → Kinds r → ¬ (sN n d r).2.2.1 = 0 → ∀ opens : List Int, opens.length = d → Fs r opens false = (sN n d r).2.2) ∧
    (∀ d r, d ≤ 64 → r.length < n → Kinds r → ¬ (sA n d r).2.2.1 = 0 → ∀ opens : List Int, opens.length = d → Fs r opens true = (sA n d r).2.2)
  | 0 => ⟨fun _ _ _ h => absurd h (by omega), fun _ _ _ h => absurd h (by omega)⟩
  | n + 1 => by
    obtain ⟨ihN, ihA⟩ := fault_is n
    obtain ⟨soN, soA⟩ := sound n
    constructor
    · intro d r hd hl hk hf opens ho
      cases r with
      | nil => exact absurd rfl hf
      | cons t r =>
        have hk' : Kinds r := fun x hx => hk x (List.mem_cons_of_mem _ hx)
        have ht := hk t (List.mem_cons_self ..)
        have hl' : r.length < n := by simpa using hl
        simp only [sN] at hf ⊢
        simp only [Fs]
        by_cases c0 : t.f0 = 0
        · rw [if_pos c0] at hf ⊢
          rw [if_neg (by omega), if_neg (by omega), c0]
          exact ihN d r hd hl' hk' hf opens ho
        · rw [if_neg c0] at hf ⊢
          by_cases c1 : t.f0 = 1
          · rw [if_pos c1] at hf ⊢
            rw [if_neg (by omega), if_neg (by omega), c1]
            by_cases cA : (sA n d r).2.2.1 = 0
            · rw [if_pos cA] at hf ⊢
              obtain ⟨ca, h1, h2, h3⟩ := soA d r hd hl' hk' cA
              have hlen : (sA n d r).2.1.length ≤ r.length := by have := congrArg List.length h1; rw [List.length_append] at this; omega
              have hk2 : Kinds (sA n d r).2.1 := fun x hx => hk' x (by rw [h1]; exact List.mem_append_right _ hx)
              have e := ihN d (sA n d r).2.1 hd (by omega) hk2 hf opens ho
              have e2 : Fs (ca ++ (sA n d r).2.1) opens true = Fs (sA n d r).2.1 opens true := fs_fl h2 _ opens (by omega)
              rw [← h1] at e2
              rw [show ((1 : Int) == 1) = true from rfl, e2, fs_b h3 opens true false, e]
            · rw [if_neg cA]
              exact ihA d r hd hl' hk' cA opens ho
          · rw [if_neg c1] at hf ⊢
            by_cases c2 : t.f0 = 2
            · rw [if_pos c2, if_pos c2, if_neg (by decide)]
            · rw [if_neg c2] at hf ⊢
              by_cases c3 : d > 0
              · rw [if_pos c3] at hf; exact absurd rfl hf
              · rw [if_neg c3, if_neg c2, if_pos (by omega), if_pos (by omega)]
    · intro d r hd hl hk hf opens ho
      cases r with
      | nil => exact absurd rfl hf
      | cons t r =>
        have hk' : Kinds r := fun x hx => hk x (List.mem_cons_of_mem _ hx)
        have hl' : r.length < n := by simpa using hl
        simp only [sA] at hf ⊢
        by_cases c2 : t.f0 = 2
        · rw [if_pos c2] at hf ⊢
          simp only [Fs]
          rw [if_pos c2, if_pos trivial]
          by_cases c3 : d ≥ 64
          · rw [if_pos c3, if_pos (by omega)]
          · rw [if_neg c3] at hf ⊢
            rw [if_neg (by omega)]
            have ho2 : (opens ++ [t.f2]).length = d + 1 := by rw [List.length_append, List.length_singleton]; omega
            by_cases cf : (sN n (d + 1) r).2.2.1 = 0
            · obtain ⟨c, h1, h2, h3⟩ := soN (d + 1) r (by omega) hl' hk' cf
              have e2 : Fs (c ++ (sN n (d + 1) r).2.1) (opens ++ [t.f2]) false = Fs (sN n (d + 1) r).2.1 (opens ++ [t.f2]) false := fs_fl h2 _ _ (by omega) (endN_noO h3)
              rw [← h1] at e2
              rw [e2]
              cases hm : (sN n (d + 1) r).2.1 with
              | nil =>
                dsimp only
                rw [if_pos cf]
                simp only [Fs]
                rw [if_pos (by omega)]; simp
              | cons e r2 =>
                rw [hm] at hf h3 h1
                have ce : e.f0 = 3 := h3.2
                dsimp only at hf ⊢
                rw [if_pos ce, if_pos cf] at hf ⊢
                have hlen : r2.length < r.length := by have := congrArg List.length h1; rw [List.length_append, List.length_cons] at this; omega
                have hk2 : Kinds r2 := fun x hx => hk' x (by rw [h1]; exact List.mem_append_right _ (List.mem_cons_of_mem _ hx))
                simp only [Fs]
                rw [if_neg (by omega), if_pos ce, if_neg (by simp), take_snoc]
                exact ihA d r2 hd (by omega) hk2 hf opens ho
            · rw [ihN (d + 1) r (by omega) hl' hk' cf _ ho2]
              cases hm : (sN n (d + 1) r).2.1 with
              | nil => dsimp only; rw [if_neg cf]
              | cons e r2 =>
                dsimp only
                by_cases ce : e.f0 = 3
                · rw [if_pos ce, if_neg cf]
                · rw [if_neg ce, if_neg cf]
        · rw [if_neg c2] at hf; exact absurd rfl hf
end Go.Proofs.Ytjppjlhhdfkloaa.Pure

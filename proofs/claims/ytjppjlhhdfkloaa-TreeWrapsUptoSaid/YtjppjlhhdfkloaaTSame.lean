/- Nodes are the same as themselves, places and all; the calls at the head. -/
import Derived.Test.YtjppjlhhdfkloaaPTpx8
import Derived.Test.YtjppjlhhdfkloaaTRef
namespace Go.Proofs.Ytjppjlhhdfkloaa.Pure
set_option linter.unusedVariables false
set_option linter.unusedSimpArgs false
open Go.RowKit Go.Proofs.Ytjppjlhhdfkloaa.PTp Go.Proofs.YtjppjlhhdfkloaaW.PrintWords Go.Proofs.YtjppjlhhdfkloaaW.PrintLast Go.Proofs.YtjppjlhhdfkloaaW.PrintMore

/-- Nodes of which no list is too long. -/
inductive SM : List S38 → Prop
  | mk {a : List S38} : a.length ≤ 4194304 → (∀ x ∈ a, x.f2.length ≤ 4194304) → (∀ x ∈ a, ∀ g ∈ x.f2, SM g) → SM a
theorem SM.len {a : List S38} (h : SM a) : a.length ≤ 4194304 := by cases h; assumption
theorem SM.args {a : List S38} (h : SM a) : ∀ x ∈ a, x.f2.length ≤ 4194304 := by cases h; assumption
theorem SM.sub {a : List S38} (h : SM a) : ∀ x ∈ a, ∀ g ∈ x.f2, SM g := by cases h; assumption
theorem SM.nil : SM [] := .mk (Nat.zero_le _) (fun x h => by simp at h) (fun x h => by simp at h)
theorem fl_sm {d : Nat} {x : List S38 ⊕ List (List S38)} {c : List S44} (h : Fl d x c) : c.length ≤ 4194304 → match x with
    | .inl ns => ns.length ≤ c.length ∧ SM ns
    | .inr gs => gs.length ≤ c.length ∧ ∀ g ∈ gs, SM g := by
  induction h with
  | nil d => exact fun _ => ⟨Nat.le_refl _, SM.nil⟩
  | nog d => exact fun _ => ⟨Nat.le_refl _, fun g h => by simp at h⟩
  | word h1 _ ih =>
    intro hc
    rw [List.length_cons] at hc
    have ih := ih (by omega)
    refine ⟨by simp only [List.length_cons]; omega, .mk (by simp only [List.length_cons]; omega) (fun x hx => ?_) (fun x hx g hg => ?_)⟩
    · rcases List.mem_cons.1 hx with rfl | hx
      · simp
      · exact ih.2.args x hx
    · rcases List.mem_cons.1 hx with rfl | hx
      · simp at hg
      · exact ih.2.sub x hx g hg
  | cmd h1 _ _ ih1 ih2 =>
    intro hc
    rw [List.length_cons, List.length_append] at hc
    have i1 := ih1 (by omega)
    have i2 := ih2 (by omega)
    refine ⟨by simp only [List.length_cons, List.length_append]; omega, .mk (by simp only [List.length_cons]; omega) (fun x hx => ?_) (fun x hx g hg => ?_)⟩
    · rcases List.mem_cons.1 hx with rfl | hx
      · dsimp only; omega
      · exact i2.2.args x hx
    · rcases List.mem_cons.1 hx with rfl | hx
      · exact i1.2 g hg
      · exact i2.2.sub x hx g hg
  | grp h1 h2 _ _ ih1 ih2 =>
    intro hc
    rw [List.length_cons, List.length_append, List.length_cons] at hc
    have i1 := ih1 (by omega)
    have i2 := ih2 (by omega)
    refine ⟨by simp only [List.length_cons, List.length_append]; omega, fun g hg => ?_⟩
    rcases List.mem_cons.1 hg with rfl | hg
    · exact i1.2
    · exact i2.2 g hg
theorem pv_sm (l : List S44) (hl : l.length ≤ 4194304) : SM (pv l).1 := by
  have hlen := rest_len l 0
  unfold pv
  by_cases c : (sN ((rest l 0).length + 1) 0 (rest l 0)).2.2.1 = 0
  · rw [if_pos c]
    obtain ⟨cs, h1, h2, h3⟩ := (sound ((rest l 0).length + 1)).1 0 (rest l 0) (by omega) (Nat.lt_succ_self _) (rest_kinds l 0) c
    have hc : cs.length ≤ 4194304 := by have := congrArg List.length h1; rw [List.length_append] at this; omega
    exact (fl_sm h2 hc).2
  · rw [if_neg c]; exact SM.nil

/-! ## The same as themselves -/
theorem same_l1 {a : List S38} (ha : SM a) (hf : ∀ x ∈ a, ∀ g ∈ x.f2, Ev (fun k => variorumref06_Same.f k g g) true) {i : Nat} (hi : i < a.length) (hend : Ev (fun k => variorumref06_Same.l0 k a a ((i + 1 : Nat) : Int)) true) :
    ∀ (d j : Nat), j + d = a[i].f2.length → Ev (fun k => variorumref06_Same.l1 k a a (i : Int) (j : Int)) true
  | 0, j => fun hj => by
    have hl := ha.len
    refine Ev.step (fun k => ?_) hend
    simp only [variorumref06_Same.l1, rd38 hi]
    rw [if_pos (by omega), if_pos (by omega), if_neg (by omega), succ_w i (by omega)]
  | d + 1, j => fun hj => by
    have hjl : j < a[i].f2.length := by omega
    have hl := ha.len
    have hl2 := ha.args _ (List.getElem_mem hi)
    refine Ev.step (f := fun k => (variorumref06_Same.f k a[i].f2[j] a[i].f2[j]).bind fun t => (if t = true then (variorumref06_Same.l1 k a a (i : Int) ((j + 1 : Nat) : Int)) else (some false))) (fun k => ?_) (Ev.bind (hf _ (List.getElem_mem hi) _ (List.getElem_mem hjl)) ?_)
    · simp only [variorumref06_Same.l1, rd38 hi, rdL5 hjl]
      rw [if_pos (by omega), if_pos (by omega), if_pos (by omega), if_pos (by omega), if_pos (by omega), if_pos (by omega), succ_w j (by omega)]
    · simp only [if_true]
      exact same_l1 ha hf hi hend d (j + 1) (by omega)
theorem same_l0 {a : List S38} (ha : SM a) (hf : ∀ x ∈ a, ∀ g ∈ x.f2, Ev (fun k => variorumref06_Same.f k g g) true) : ∀ (d i : Nat), i + d = a.length → Ev (fun k => variorumref06_Same.l0 k a a (i : Int)) true
  | 0, i => fun hi => by
    refine Ev.step (f := fun _ => some true) (fun k => ?_) (Ev.now _)
    simp only [variorumref06_Same.l0]
    rw [if_neg (by omega)]
  | d + 1, i => fun hi => by
    have hil : i < a.length := by omega
    have ih := same_l0 ha hf d (i + 1) (by omega)
    refine Ev.step (f := fun k => variorumref06_Same.j1 k a a (i : Int) false) (fun k => ?_) (Ev.step (fun k => ?_) (same_l1 ha hf hil ih a[i].f2.length 0 (by omega)))
    · simp only [variorumref06_Same.l0, rd38 hil]
      rw [if_pos (by omega), if_pos (by omega), if_pos (by omega), if_neg (by simp), if_pos trivial]
      simp
    · simp only [variorumref06_Same.j1]
      rw [if_neg (by decide)]; rfl
theorem same_ev {a : List S38} (h : SM a) : Ev (fun k => variorumref06_Same.f k a a) true := by
  induction h with
  | @mk a h1 h2 h3 ih =>
    refine Ev.step (fun k => ?_) (same_l0 (.mk h1 h2 h3) ih a.length 0 (by omega))
    simp only [variorumref06_Same.f]
    rw [if_pos trivial]; rfl
theorem places_l1 {a : List S38} (ha : SM a) (hf : ∀ x ∈ a, ∀ g ∈ x.f2, Ev (fun k => variorumref06_Places.f k g g) true) {i : Nat} (hi : i < a.length) (hend : Ev (fun k => variorumref06_Places.l0 k a a ((i + 1 : Nat) : Int)) true) :
    ∀ (d j : Nat), j + d = a[i].f2.length → Ev (fun k => variorumref06_Places.l1 k a a (i : Int) (j : Int)) true
  | 0, j => fun hj => by
    have hl := ha.len
    refine Ev.step (fun k => ?_) hend
    simp only [variorumref06_Places.l1, rd38 hi]
    rw [if_pos (by omega), if_pos (by omega), if_neg (by omega), succ_w i (by omega)]
  | d + 1, j => fun hj => by
    have hjl : j < a[i].f2.length := by omega
    have hl := ha.len
    have hl2 := ha.args _ (List.getElem_mem hi)
    refine Ev.step (f := fun k => (variorumref06_Places.f k a[i].f2[j] a[i].f2[j]).bind fun t => (if t = true then (variorumref06_Places.l1 k a a (i : Int) ((j + 1 : Nat) : Int)) else (some false))) (fun k => ?_) (Ev.bind (hf _ (List.getElem_mem hi) _ (List.getElem_mem hjl)) ?_)
    · simp only [variorumref06_Places.l1, rd38 hi, rdL5 hjl]
      rw [if_pos (by omega), if_pos (by omega), if_pos (by omega), if_pos (by omega), if_pos (by omega), if_pos (by omega), succ_w j (by omega)]
    · simp only [if_true]
      exact places_l1 ha hf hi hend d (j + 1) (by omega)
theorem places_l0 {a : List S38} (ha : SM a) (hf : ∀ x ∈ a, ∀ g ∈ x.f2, Ev (fun k => variorumref06_Places.f k g g) true) : ∀ (d i : Nat), i + d = a.length → Ev (fun k => variorumref06_Places.l0 k a a (i : Int)) true
  | 0, i => fun hi => by
    refine Ev.step (f := fun _ => some true) (fun k => ?_) (Ev.now _)
    simp only [variorumref06_Places.l0]
    rw [if_neg (by omega)]
  | d + 1, i => fun hi => by
    have hil : i < a.length := by omega
    have ih := places_l0 ha hf d (i + 1) (by omega)
    refine Ev.step (fun k => ?_) (places_l1 ha hf hil ih a[i].f2.length 0 (by omega))
    simp only [variorumref06_Places.l0, rd38 hil]
    rw [if_pos (by omega), if_pos (by omega), if_pos (by omega), if_pos trivial]; rfl
theorem places_ev {a : List S38} (h : SM a) : Ev (fun k => variorumref06_Places.f k a a) true := by
  induction h with
  | @mk a h1 h2 h3 ih =>
    refine Ev.step (f := fun k => (variorumref06_Same.f k a a).bind fun t => (if t = true then (variorumref06_Places.l0 k a a 0) else (some false))) (fun k => by simp only [variorumref06_Places.f]) (Ev.bind (same_ev (.mk h1 h2 h3)) ?_)
    simp only [if_true]
    exact places_l0 (.mk h1 h2 h3) ih a.length 0 (by omega)
set_option maxRecDepth 100000 in
theorem fixed_ev : Ev (fun k => variorumlaw06_fixed.f k) true := Ev.of variorumlaw06_fixed.mono (k := 60) (by kernel_rfl)
end Go.Proofs.Ytjppjlhhdfkloaa.Pure

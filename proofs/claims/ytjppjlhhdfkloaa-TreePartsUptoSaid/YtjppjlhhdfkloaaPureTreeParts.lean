/- TreeParts: of two lists of tokens that are parsed, one behind the other, the nodes are those of the one, and then of the other one. -/
import Derived.Test.YtjppjlhhdfkloaaPTpx12
import Derived.Test.YtjppjlhhdfkloaaTSame
namespace Go.Proofs.Ytjppjlhhdfkloaa.Pure
set_option linter.unusedVariables false
set_option linter.unusedSimpArgs false
open Go.RowKit Go.Proofs.Ytjppjlhhdfkloaa.PTp Go.Proofs.YtjppjlhhdfkloaaW.PrintWords Go.Proofs.YtjppjlhhdfkloaaW.PrintLast Go.Proofs.YtjppjlhhdfkloaaW.PrintMore

theorem bulk_le {α : Type} : ∀ l : List α, l.length ≤ Go.Proofs.Ytjppjlhhdfkloaa.OpenB.bulkOf (fun _ => 1) l
  | [] => Nat.zero_le _
  | x :: r => by have := bulk_le r; simp only [Go.Proofs.Ytjppjlhhdfkloaa.OpenB.bulkOf, List.length_cons]; omega
theorem fl_app {d : Nat} {x : List S38 ⊕ List (List S38)} {c : List S44} (h : Fl d x c) : ∀ {b : List S38} {c' : List S44}, Fl d (.inl b) c' → match x with
    | .inl a => Fl d (.inl (a ++ b)) (c ++ c')
    | .inr _ => True := by
  induction h with
  | nil d => intro b c' h; exact h
  | nog d => intro b c' h; trivial
  | word h1 _ ih => intro b c' h; exact Fl.word h1 (ih h)
  | cmd h1 hg _ ih1 ih2 =>
    intro b c' h
    have := Fl.cmd h1 hg (ih2 h)
    rw [← List.append_assoc] at this
    exact this
  | grp h1 h2 _ _ ih1 ih2 => intro b c' h; trivial
theorem rest_app (l m : List S44) : rest (l ++ m) 0 = rest l 0 ++ rest m 0 := by
  unfold rest
  rw [List.drop_zero, List.drop_zero, List.drop_zero, List.filter_append]
/-- What is parsed: nodes, and all tokens are theirs. -/
theorem pv_ok {l : List S44} (h : (pv l).2.1 = 0) : Fl 64 (.inl (pv l).1) (rest l 0) ∧ (pv l).2 = (0, 0) := by
  unfold pv at h ⊢
  by_cases c : (sN ((rest l 0).length + 1) 0 (rest l 0)).2.2.1 = 0
  · rw [if_pos c]
    obtain ⟨cs, h1, h2, h3⟩ := (sound ((rest l 0).length + 1)).1 0 (rest l 0) (by omega) (Nat.lt_succ_self _) (rest_kinds l 0) c
    have h0 : (sN ((rest l 0).length + 1) 0 (rest l 0)).2.1 = [] := by
      cases hq : (sN ((rest l 0).length + 1) 0 (rest l 0)).2.1 with
      | nil => rfl
      | cons t r => rw [hq] at h3; exact absurd h3.1 (by omega)
    rw [h0, List.append_nil] at h1
    rw [← h1] at h2
    exact ⟨h2, rfl⟩
  · rw [if_neg c] at h; exact absurd h c
theorem pv_fl {l : List S44} {ns : List S38} (h : Fl 64 (.inl ns) (rest l 0)) : pv l = (ns, 0, 0) := by
  have := complete h ((rest l 0).length + 1) 0 [] (by omega) (by rw [List.append_nil]; exact Nat.lt_succ_self _) trivial
  rw [List.append_nil] at this
  unfold pv
  rw [this, if_pos rfl]
theorem parts_yes (l m : List S44) (a b : List S38) : Ev (fun k => variorumlaw06_TreeParts.j0 k l m a b true) true := by
  refine Ev.step (f := fun k => (variorumlaw06_fixed.f k).bind fun t => some t) (fun k => ?_) (Ev.bind fixed_ev (Ev.now _))
  simp only [variorumlaw06_TreeParts.j0]
  rw [if_pos trivial]
theorem parts_no {l m : List S44} (hl : l.length ≤ 1048576) (hm : m.length ≤ 1048576) (h1 : (pv l).2.1 = 0) (h2 : (pv m).2.1 = 0) : Ev (fun k => variorumlaw06_TreeParts.j0 k l m (pv l).1 (pv m).1 false) true := by
  have f1 := (pv_ok h1).1
  have f2 := (pv_ok h2).1
  have f3 : Fl 64 (.inl ((pv l).1 ++ (pv m).1)) (rest (l ++ m) 0) := by rw [rest_app]; exact fl_app f1 f2
  have e := pv_fl f3
  have hb : (l ++ m).length ≤ 4194304 := by rw [List.length_append]; omega
  have hs := pv_sm (l ++ m) hb
  rw [e] at hs
  have hsl := hs.len
  dsimp only at hsl
  rw [List.length_append] at hsl
  have hp := parse_ev (l ++ m) hb
  rw [e] at hp
  have g1 : ([] : List S44).length + l.length < 4398046511104 := by simp only [List.length_nil]; omega
  have g2 : l.length + m.length < 4398046511104 := by omega
  have g3 : ([] : List S38).length + (pv l).1.length < 2513169434916 := by simp only [List.length_nil]; omega
  have g4 : (pv l).1.length + (pv m).1.length < 2513169434916 := by omega
  refine Ev.step (f := fun k => (tree_Parse.f k (l ++ m)).bind fun x => (if x.2.1 = 0 then ((variorumref06_Places.f k x.1 ((pv l).1 ++ (pv m).1)).bind fun t => (some t)) else none)) (fun k => ?_) (Ev.bind hp ?_)
  · simp only [variorumlaw06_TreeParts.j0, Option.bind_some, List.nil_append, if_pos g1, if_pos g2, if_pos g3, if_pos g4]
    rw [if_neg (by decide)]
  · simp only [if_true]
    exact Ev.bind (places_ev hs) (Ev.now _)
theorem TreeParts : variorumlaw06_TreeParts.Pure := by
  intro l m _ hl _ hm
  replace hl : l.length ≤ 1048576 := Nat.le_trans (bulk_le l) hl
  replace hm : m.length ≤ 1048576 := Nat.le_trans (bulk_le m) hm
  refine Ev.rounds (g := fun k => variorumlaw06_TreeParts.f k l m) ?_
  unfold variorumlaw06_TreeParts.f
  refine Ev.bind (parse_ev l (by omega)) (Ev.bind (parse_ev m (by omega)) (Ev.bind fixed_ev ?_))
  simp only [if_true]
  by_cases h1 : (pv l).2.1 = 0
  · simp only [if_pos h1]
    by_cases h2 : (pv m).2.1 = 0
    · rw [bne_eq_false_iff_eq.mpr h2]; exact parts_no hl hm h1 h2
    · rw [bne_iff_ne.mpr h2]; exact parts_yes ..
  · simp only [if_neg h1]; exact parts_yes ..
end Go.Proofs.Ytjppjlhhdfkloaa.Pure

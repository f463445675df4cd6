/- What breaks cost together, as the document tells it, and as the plain law of the best breaks does. -/
import Derived.Test.YtnkdopihaohimaaBPlain
import Derived.Test.YtnkdopihaohimaaBRef
namespace Go.Proofs.Ytnkdopihaohimaa.Pure
set_option linter.unusedVariables false
set_option linter.unusedSimpArgs false
open Go.RowKit Go.Proofs.Ytnkdopihaohimaa.PBr Go.Proofs.YtnkdopihaohimaaW.PrintWords Go.Proofs.YtnkdopihaohimaaW.PrintLast Go.Proofs.YtnkdopihaohimaaW.PrintMore

def endof : Nat → List Nat → Nat
  | a, [] => a
  | _, b :: r => endof (b + 1) r
theorem drop_rd (bs : List Int) (i : Nat) (h : i < bs.length) : bs.drop i = rd bs (i : Int) :: bs.drop (i + 1) := by
  rw [List.drop_eq_getElem_cons h]
  unfold rd
  rw [Int.toNat_natCast, List.getD_eq_getElem?_getD, List.getElem?_eq_getElem h]; rfl
theorem step_in {s d p a b n : Int} (hs : -(a * 300000000) ≤ s ∧ s ≤ a * 300000000) (hd : -299000000 ≤ d ∧ d ≤ 299000000) (hp : 0 ≤ p ∧ p ≤ 10000) (h0 : 0 ≤ a) (hab : a ≤ b) (hbn : b ≤ 2000) : wrap64 (d + p) = d + p ∧ wrap64 (s + (d + p)) = s + d + p ∧ -((b + 1) * 300000000) ≤ s + d + p ∧ s + d + p ≤ (b + 1) * 300000000 := by
  refine ⟨wrap_small (by omega), ?_, by omega, by omega⟩
  rw [wrap_small (by omega)]; omega
/-- Breaks that cost something together, by the document. -/
theorem tl_tot {l : List S47} (hm : mi l = true) (w tol : Int) (bs : List Int) : ∀ (d i : Nat) (s : Int) (a c : Nat), i + d = bs.length → a ≤ l.length → (-((a : Int) * 300000000) ≤ s ∧ s ≤ (a : Int) * 300000000) → (tl l w tol bs d i s ((a : Int) - 1) (c : Int)).2 = true →
    ∃ r, bs.drop i = ints r ∧ (endof a r = l.length → tot l.length (cst l w tol) apn a c r = some ((tl l w tol bs d i s ((a : Int) - 1) (c : Int)).1 - s))
  | 0, i, s, a, c => fun hi ha hs h => ⟨[], by rw [List.drop_eq_nil_of_le (by omega)]; rfl, fun he => by
      simp only [endof] at he
      simp only [tot, tl]
      rw [if_pos he, Int.sub_self]⟩
  | d + 1, i, s, a, c => fun hi ha hs h => by
    have hl : l.length ≤ 2000 := ((mi_iff l).1 hm).1
    have hlt : i < bs.length := by omega
    simp only [tl] at h ⊢
    by_cases hc : (cv l ((a : Int) - 1) (rd bs (i : Int)) w tol).2.2 = true
    · rw [if_pos hc] at h ⊢
      have q := mb_in (cv_ok hc).1
      obtain ⟨b, hb⟩ : ∃ b : Nat, rd bs (i : Int) = (b : Int) := ⟨(rd bs (i : Int)).toNat, by omega⟩
      rw [hb] at hc h q ⊢
      have hx : cst l w tol a b = some ((cv l ((a : Int) - 1) (b : Int) w tol).1, (cv l ((a : Int) - 1) (b : Int) w tol).2.1.toNat) := by unfold cst; rw [if_pos hc]
      have bd := (cst_in hm hx).2.1
      have e2 := (cst_in hm hx).2.2.2.2.2
      dsimp only at bd e2
      have pa := ap_in (cv l ((a : Int) - 1) (b : Int) w tol).2.1 (c : Int)
      have qb : (a : Int) ≤ (b : Int) := by omega
      have qn : (b : Int) ≤ 2000 := by omega
      obtain ⟨w1, w2, w3, w4⟩ := step_in (n := 0) hs bd pa (by omega) qb qn
      rw [w1, w2] at h ⊢
      have eb : (b : Int) = ((b + 1 : Nat) : Int) - 1 := by omega
      have hb1 : b + 1 ≤ l.length := by omega
      have hs1 : -(((b + 1 : Nat) : Int) * 300000000) ≤ s + (cv l ((a : Int) - 1) (b : Int) w tol).1 + ap (cv l ((a : Int) - 1) (b : Int) w tol).2.1 (c : Int) ∧ s + (cv l ((a : Int) - 1) (b : Int) w tol).1 + ap (cv l ((a : Int) - 1) (b : Int) w tol).2.1 (c : Int) ≤ ((b + 1 : Nat) : Int) * 300000000 := by
        rw [Int.natCast_add]; exact ⟨w3, w4⟩
      obtain ⟨r, hr, ht⟩ := tl_tot hm w tol bs d (i + 1) _ (b + 1) (cv l ((a : Int) - 1) (b : Int) w tol).2.1.toNat (by omega) hb1 hs1 (by rw [e2, ← eb]; exact h)
      refine ⟨b :: r, by rw [drop_rd bs i hlt, hb, hr]; rfl, fun he => ?_⟩
      simp only [endof] at he
      have ht := ht he
      rw [e2, ← eb] at ht
      simp only [tot]
      rw [hx]
      simp only [Option.bind_some]
      rw [ht]
      simp only [Option.map_some, Option.some.injEq]
      unfold apn
      rw [e2]
      generalize (tl l w tol bs d (i + 1) (s + (cv l ((a : Int) - 1) (b : Int) w tol).1 + ap (cv l ((a : Int) - 1) (b : Int) w tol).2.1 (c : Int)) (b : Int) (cv l ((a : Int) - 1) (b : Int) w tol).2.1).1 = X
      generalize ap (cv l ((a : Int) - 1) (b : Int) w tol).2.1 (c : Int) = P
      generalize (cv l ((a : Int) - 1) (b : Int) w tol).1 = D
      clear hx bd pa w1 w2 w3 w4 hs1 ht h hc
      omega
    · rw [if_neg hc] at h; exact absurd h (by decide)
theorem tot_tl {l : List S47} (hm : mi l = true) (w tol : Int) : ∀ (r : List Nat) (pre : List Int) (s : Int) (a c : Nat) (e : Int), a ≤ l.length → (-((a : Int) * 300000000) ≤ s ∧ s ≤ (a : Int) * 300000000) → tot l.length (cst l w tol) apn a c r = some e → tl l w tol (pre ++ ints r) r.length pre.length s ((a : Int) - 1) (c : Int) = (s + e, true)
  | [], pre, s, a, c, e => fun ha hs h => by
    simp only [tot] at h
    by_cases q : a = l.length
    · rw [if_pos q] at h
      have := Option.some.inj h
      simp only [List.length_nil, tl]
      rw [← this, Int.add_zero]
    · rw [if_neg q] at h; cases h
  | b :: r, pre, s, a, c, e => fun ha hs h => by
    have hl : l.length ≤ 2000 := ((mi_iff l).1 hm).1
    obtain ⟨x, e', hx, he, hee⟩ := tot_cons h
    have kb := (cst_in hm hx).1
    have bd := (cst_in hm hx).2.1
    have kc := (cst_in hm hx).2.2.2.1
    have e1 := (cst_in hm hx).2.2.2.2.1
    have e2 := (cst_in hm hx).2.2.2.2.2
    have q := mb_in kb
    have pa := ap_in (x.2 : Int) (c : Int)
    have qb : (a : Int) ≤ (b : Int) := by omega
    have qn : (b : Int) ≤ 2000 := by omega
    have hb1 : b + 1 ≤ l.length := by omega
    obtain ⟨w1, w2, w3, w4⟩ := step_in (n := 0) hs bd pa (by omega) qb qn
    have el : pre ++ ints (b :: r) = (pre ++ [(b : Int)]) ++ ints r := by simp [ints]
    have er : rd (pre ++ ints (b :: r)) (pre.length : Int) = (b : Int) := rd_mid pre (b : Int) (ints r)
    have hs1 : -(((b + 1 : Nat) : Int) * 300000000) ≤ s + x.1 + ap (x.2 : Int) (c : Int) ∧ s + x.1 + ap (x.2 : Int) (c : Int) ≤ ((b + 1 : Nat) : Int) * 300000000 := by
      rw [Int.natCast_add]; exact ⟨w3, w4⟩
    have eb : ((b + 1 : Nat) : Int) - 1 = (b : Int) := by omega
    have ih := tot_tl hm w tol r (pre ++ [(b : Int)]) _ (b + 1) x.2 e' hb1 hs1 he
    rw [← el, List.length_append, List.length_singleton, eb] at ih
    simp only [List.length_cons, tl]
    rw [er, if_pos kc, ← e1, ← e2, w1, w2, ih, hee]
    unfold apn
    congr 1
    clear ih w1 w2 w3 w4 hs1 he hx kb kc e1 e2 h hee
    omega
theorem tot_last {l : List S47} {w tol : Int} : ∀ (r : List Nat) (pre : List Int) (a c : Nat) (e : Int), r ≠ [] → tot l.length (cst l w tol) apn a c r = some e → rd (pre ++ ints r) (((pre ++ ints r).length : Int) - 1) = (l.length : Int) - 1
  | [], pre, a, c, e => fun h => absurd rfl h
  | [b], pre, a, c, e => fun _ h => by
    obtain ⟨x, e', _, he, _⟩ := tot_cons h
    simp only [tot] at he
    by_cases q : b + 1 = l.length
    · have er : rd (pre ++ ints [b]) (pre.length : Int) = (b : Int) := rd_mid pre (b : Int) []
      rw [show (((pre ++ ints [b]).length : Int) - 1) = (pre.length : Int) by simp [ints], er]; omega
    · rw [if_neg q] at he; cases he
  | b :: b' :: r, pre, a, c, e => fun _ h => by
    obtain ⟨x, e', _, he, _⟩ := tot_cons h
    have ih := tot_last (b' :: r) (pre ++ [(b : Int)]) (b + 1) x.2 e' (by simp) he
    rw [show pre ++ ints (b :: b' :: r) = (pre ++ [(b : Int)]) ++ ints (b' :: r) by simp [ints]]
    exact ih
theorem endof_last (n : Nat) : ∀ (r : List Nat) (pre : List Int) (a : Nat), r ≠ [] → rd (pre ++ ints r) (((pre ++ ints r).length : Int) - 1) = (n : Int) - 1 → endof a r = n
  | [], pre, a => fun h => absurd rfl h
  | [b], pre, a => fun _ h => by
    have er : rd (pre ++ ints [b]) (pre.length : Int) = (b : Int) := rd_mid pre (b : Int) []
    rw [show (((pre ++ ints [b]).length : Int) - 1) = (pre.length : Int) by simp [ints], er] at h
    simp only [endof]; omega
  | b :: b' :: r, pre, a => fun _ h => by
    rw [show pre ++ ints (b :: b' :: r) = (pre ++ [(b : Int)]) ++ ints (b' :: r) by simp [ints]] at h
    exact endof_last n (b' :: r) (pre ++ [(b : Int)]) (b + 1) (by simp) h
theorem to_of {l : List S47} (hm : mi l = true) {w tol : Int} {r : List Nat} {e : Int} (hr : r ≠ []) (h : tot l.length (cst l w tol) apn 0 2 r = some e) : to_ l (ints r) w tol = (e, true) := by
  have hlen : (ints r).length = r.length := by simp [ints]
  have h0 : ¬ (ints r).length = 0 := by rw [hlen]; intro q; exact hr (List.eq_nil_of_length_eq_zero q)
  have hla := tot_last r [] 0 2 e hr h
  rw [List.nil_append] at hla
  unfold to_
  rw [if_neg h0, if_neg (fun q => q hla)]
  have := tot_tl hm w tol r [] 0 0 2 e (Nat.zero_le _) ⟨by omega, by omega⟩ h
  rw [Int.zero_add] at this
  rw [hlen]
  exact this
theorem to_is {l : List S47} (hm : mi l = true) {w tol : Int} {bs : List Int} (h : (to_ l bs w tol).2 = true) : ∃ r, bs = ints r ∧ r ≠ [] ∧ tot l.length (cst l w tol) apn 0 2 r = some (to_ l bs w tol).1 := by
  unfold to_ at h ⊢
  by_cases h0 : bs.length = 0
  · rw [if_pos h0] at h; exact absurd h (by decide)
  · rw [if_neg h0] at h ⊢
    by_cases hla : rd bs ((bs.length : Int) - 1) ≠ (l.length : Int) - 1
    · rw [if_pos hla] at h; exact absurd h (by decide)
    · rw [if_neg hla] at h ⊢
      obtain ⟨r, hr, ht⟩ := tl_tot hm w tol bs bs.length 0 0 0 2 (by omega) (Nat.zero_le _) ⟨by omega, by omega⟩ h
      rw [List.drop_zero] at hr
      have hne : r ≠ [] := fun q => by subst q; subst hr; exact h0 rfl
      have he : endof 0 r = l.length := endof_last l.length r [] 0 hne (by rw [List.nil_append, ← hr]; exact Classical.not_not.mp hla)
      refine ⟨r, hr, hne, ?_⟩
      rw [ht he, Int.sub_zero]
      rfl
theorem choice_ev {l : List S47} (hl : l.length ≤ 2000) : ∀ (d i : Nat) (bits : Int) (acc : List Int), i + d = l.length → acc.length ≤ i → ∃ cs, Ev (fun k => variorumref11_Choice.l0 k l bits acc (i : Int)) cs ∧ cs.length ≤ acc.length + d := by
  intro d
  induction d with
  | zero =>
    intro i bits acc hi ha
    refine ⟨acc, Ev.step (f := fun _ => some acc) (fun k => ?_) (Ev.now _), Nat.le_refl _⟩
    simp only [variorumref11_Choice.l0]
    rw [if_neg (by omega)]
  | succ d ih =>
    intro i bits acc hi ha
    have g1 : (i : Int) < (l.length : Int) := by omega
    have sw : wrap64 ((i : Int) + 1) = ((i + 1 : Nat) : Int) := succ_w i (by omega)
    have g4 : acc.length < 17592186044416 := by omega
    have hlen : (acc ++ [(i : Int)]).length = acc.length + 1 := by simp
    by_cases c1 : lg l (i : Int) = true
    · by_cases c2 : Int.tmod bits 2 = 1
      · obtain ⟨cs, h1, h2⟩ := ih (i + 1) (wrap64 (Int.tdiv bits 2)) (acc ++ [(i : Int)]) (by omega) (by omega)
        refine ⟨cs, Ev.step (f := fun k => (variorumref10_Legal.f k l (i : Int)).bind fun t => if t = true then variorumref11_Choice.l0 k l (wrap64 (Int.tdiv bits 2)) (acc ++ [(i : Int)]) ((i + 1 : Nat) : Int) else variorumref11_Choice.l0 k l bits acc ((i + 1 : Nat) : Int)) (fun k => ?_) (Ev.bind (rlegal_ev l _ hl) (by simp only [if_pos c1]; exact h1)), by omega⟩
        simp only [variorumref11_Choice.l0]
        rw [if_pos g1, if_pos c2, if_pos g4, sw]
      · by_cases c3 : (i : Int) = wrap64 ((l.length : Int) - 1)
        · obtain ⟨cs, h1, h2⟩ := ih (i + 1) (wrap64 (Int.tdiv bits 2)) (acc ++ [(i : Int)]) (by omega) (by omega)
          refine ⟨cs, Ev.step (f := fun k => (variorumref10_Legal.f k l (i : Int)).bind fun t => if t = true then variorumref11_Choice.l0 k l (wrap64 (Int.tdiv bits 2)) (acc ++ [(i : Int)]) ((i + 1 : Nat) : Int) else variorumref11_Choice.l0 k l bits acc ((i + 1 : Nat) : Int)) (fun k => ?_) (Ev.bind (rlegal_ev l _ hl) (by simp only [if_pos c1]; exact h1)), by omega⟩
          simp only [variorumref11_Choice.l0]
          rw [if_pos g1, if_neg c2, if_pos c3, if_pos g4, sw]
        · obtain ⟨cs, h1, h2⟩ := ih (i + 1) (wrap64 (Int.tdiv bits 2)) acc (by omega) (by omega)
          refine ⟨cs, Ev.step (f := fun k => (variorumref10_Legal.f k l (i : Int)).bind fun t => if t = true then variorumref11_Choice.l0 k l (wrap64 (Int.tdiv bits 2)) acc ((i + 1 : Nat) : Int) else variorumref11_Choice.l0 k l bits acc ((i + 1 : Nat) : Int)) (fun k => ?_) (Ev.bind (rlegal_ev l _ hl) (by simp only [if_pos c1]; exact h1)), by omega⟩
          simp only [variorumref11_Choice.l0]
          rw [if_pos g1, if_neg c2, if_neg c3, sw]
    · obtain ⟨cs, h1, h2⟩ := ih (i + 1) bits acc (by omega) (by omega)
      refine ⟨cs, Ev.step (f := fun k => (variorumref10_Legal.f k l (i : Int)).bind fun t => if t = true then (if (Int.tmod bits 2) = 1 then (if acc.length < 17592186044416 then (variorumref11_Choice.l0 k l (wrap64 (Int.tdiv bits 2)) (acc ++ [(i : Int)]) ((i + 1 : Nat) : Int)) else (none)) else (if (i : Int) = (wrap64 ((l.length : Int) - 1)) then (if acc.length < 17592186044416 then (variorumref11_Choice.l0 k l (wrap64 (Int.tdiv bits 2)) (acc ++ [(i : Int)]) ((i + 1 : Nat) : Int)) else (none)) else (variorumref11_Choice.l0 k l (wrap64 (Int.tdiv bits 2)) acc ((i + 1 : Nat) : Int)))) else variorumref11_Choice.l0 k l bits acc ((i + 1 : Nat) : Int)) (fun k => ?_) (Ev.bind (rlegal_ev l _ hl) (by simp only [if_neg c1]; exact h1)), by omega⟩
      simp only [variorumref11_Choice.l0]
      rw [if_pos g1, sw]
theorem told_ne {l : List S47} (hm : mi l = true) {w tol : Int} {v : Int × Nat × Nat} (hv : VF l w tol 0 2 = some v) : told l w tol ≠ [] := fun q => by
  have ht := told_cost hm hv
  have hz := vf_pos hv
  rw [q] at ht
  simp only [tot] at ht
  rw [if_neg (by omega)] at ht; cases ht
theorem told_len {l : List S47} (hm : mi l = true) {w tol : Int} : ∀ (r : List Nat) (a c : Nat) (e : Int), a ≤ l.length → tot l.length (cst l w tol) apn a c r = some e → r.length + a ≤ l.length
  | [], a, c, e => fun ha _ => by simp; exact ha
  | b :: r, a, c, e => fun ha h => by
    obtain ⟨x, e', hx, he, -⟩ := tot_cons h
    have kb := (cst_in hm hx).1
    have q := mb_in kb
    have := told_len hm r (b + 1) x.2 e' (by omega) he
    rw [List.length_cons]; omega
end Go.Proofs.Ytnkdopihaohimaa.Pure

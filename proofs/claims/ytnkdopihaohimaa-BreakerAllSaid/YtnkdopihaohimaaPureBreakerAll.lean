/- BreakerAll: of all breaks that may be none are less bad, nor as bad with an earlier first one that is unlike. -/
import Derived.Test.YtnkdopihaohimaaPBrx19
import Derived.Test.YtnkdopihaohimaaBTot
namespace Go.Proofs.Ytnkdopihaohimaa.Pure
set_option linter.unusedVariables false
set_option linter.unusedSimpArgs false
open Go.RowKit Go.Proofs.Ytnkdopihaohimaa.PBr Go.Proofs.YtnkdopihaohimaaW.PrintWords Go.Proofs.YtnkdopihaohimaaW.PrintLast Go.Proofs.YtnkdopihaohimaaW.PrintMore

theorem fixed_ev : Ev (fun k => variorumlaw11_fixed.f k) true := Ev.of variorumlaw11_fixed.mono (k := 60) (by decide +kernel)
/-! ## Which items may be broken at, however many there are -/
theorem legal_any (l : List S47) (b : Int) (hl : l.length ≤ 1000000000000000) : Ev (fun k => demerit_Legal.f k l b) (lg l b) := by
  unfold demerit_Legal.f
  by_cases h1 : b < 0
  · simp only [if_pos h1]
    refine Ev.step (f := fun _ => some (lg l b)) (fun k => ?_) (Ev.now _)
    simp only [demerit_Legal.j0]
    rw [if_pos trivial]
    congr 1; unfold lg; rw [decide_eq_false (show ¬ 0 ≤ b by omega)]; rfl
  · simp only [if_neg h1]
    by_cases h2 : b ≥ (l.length : Int)
    · refine Ev.step (f := fun _ => some (lg l b)) (fun k => ?_) (Ev.now _)
      simp only [demerit_Legal.j0]
      rw [decide_eq_true h2, if_pos rfl]
      congr 1; unfold lg; rw [decide_eq_false (show ¬ b < (l.length : Int) by omega)]; simp
    · refine Ev.step (f := fun _ => some (lg l b)) (fun k => ?_) (Ev.now _)
      have g1 : 0 ≤ b := by omega
      have g2 : b < (l.length : Int) := by omega
      have g3 : b > 0 → 0 ≤ b - 1 := fun _ => by omega
      have g4 : b > 0 → b - 1 < (l.length : Int) := fun _ => by omega
      have g5 : wrap64 (b - 1) = b - 1 := wrap_small (by omega)
      simp only [demerit_Legal.j0]
      rw [decide_eq_false h2, if_neg (by decide), if_pos g1, if_pos g2, g5]
      unfold lg
      rw [decide_eq_true g1, decide_eq_true g2]
      simp only [Bool.true_and]
      by_cases k1 : (rd_T47 l b).f0 = 2
      · rw [if_pos k1, if_pos k1]
      · rw [if_neg k1, if_neg k1]
        by_cases k2 : (rd_T47 l b).f0 = 1
        · rw [if_pos k2, if_pos k2]
          by_cases k3 : b > 0
          · rw [if_pos k3, if_pos k3, if_pos (g3 k3), if_pos (g4 k3)]
          · rw [if_neg k3, if_neg k3]
        · rw [if_neg k2, if_neg k2]

theorem rlegal_any (l : List S47) (b : Int) (hl : l.length ≤ 1000000000000000) : Ev (fun k => variorumref10_Legal.f k l b) (lg l b) := Ev.congr (fun k => rlegal_eq k l b) (legal_any l b hl)
/-! ## How many items may be broken at; which breaks a number's bits choose -/
def cnt (l : List S47) : Nat → Nat → Nat
  | 0, _ => 0
  | d + 1, i => (if lg l (i : Int) = true then 1 else 0) + cnt l d (i + 1)
theorem cnt_le (l : List S47) : ∀ d i, cnt l d i ≤ d
  | 0, i => Nat.le_refl _
  | d + 1, i => by
    have := cnt_le l d (i + 1)
    simp only [cnt]; split <;> omega
theorem many_ev {l : List S47} (hl : l.length ≤ 100000000000000) : ∀ (d i c : Nat), i + d = l.length → c ≤ i → Ev (fun k => variorumref11_Many.l0 k l (c : Int) (i : Int)) ((c + cnt l d i : Nat) : Int)
  | 0, i, c => fun hi hc => by
    refine Ev.step (f := fun _ => some _) (fun k => ?_) (Ev.now _)
    simp only [variorumref11_Many.l0]
    rw [if_neg (by omega)]; rfl
  | d + 1, i, c => fun hi hc => by
    have g1 : (i : Int) < (l.length : Int) := by omega
    have sw : wrap64 ((i : Int) + 1) = ((i + 1 : Nat) : Int) := succ_w i (by omega)
    have sc : wrap64 ((c : Int) + 1) = ((c + 1 : Nat) : Int) := succ_w c (by omega)
    refine Ev.step (f := fun k => (variorumref10_Legal.f k l (i : Int)).bind fun t => if t = true then variorumref11_Many.l0 k l ((c + 1 : Nat) : Int) ((i + 1 : Nat) : Int) else variorumref11_Many.l0 k l (c : Int) ((i + 1 : Nat) : Int)) (fun k => ?_) (Ev.bind (rlegal_any l _ (by omega)) ?_)
    · simp only [variorumref11_Many.l0]
      rw [if_pos g1, sw, sc]
    · by_cases h : lg l (i : Int) = true
      · simp only [if_pos h, cnt]
        have := many_ev hl d (i + 1) (c + 1) (by omega) (by omega)
        rw [show c + (1 + cnt l d (i + 1)) = c + 1 + cnt l d (i + 1) by omega]
        exact this
      · simp only [if_neg h, cnt]
        have := many_ev hl d (i + 1) c (by omega) (by omega)
        rw [Nat.zero_add]
        exact this
def chn (l : List S47) : Nat → Nat → Nat → List Nat
  | 0, _, _ => []
  | d + 1, i, bits => if lg l (i : Int) = true then (if bits % 2 = 1 then i :: chn l d (i + 1) (bits / 2) else if i + 1 = l.length then i :: chn l d (i + 1) (bits / 2) else chn l d (i + 1) (bits / 2)) else chn l d (i + 1) bits
theorem chn_len (l : List S47) : ∀ d i bits, (chn l d i bits).length ≤ d
  | 0, i, bits => Nat.le_refl _
  | d + 1, i, bits => by
    have h1 := chn_len l d (i + 1) (bits / 2)
    have h2 := chn_len l d (i + 1) bits
    simp only [chn]
    repeat' split
    all_goals (try rw [List.length_cons]); omega
theorem chn_ev {l : List S47} (hl : l.length ≤ 2000) : ∀ (d i bits : Nat) (acc : List Int), i + d = l.length → acc.length ≤ i → bits ≤ 1000000 → Ev (fun k => variorumref11_Choice.l0 k l (bits : Int) acc (i : Int)) (acc ++ ints (chn l d i bits))
  | 0, i, bits, acc => fun hi ha hb => by
    refine Ev.step (f := fun _ => some _) (fun k => ?_) (Ev.now _)
    simp only [variorumref11_Choice.l0]
    rw [if_neg (by omega)]; simp [chn, ints]
  | d + 1, i, bits, acc => fun hi ha hb => by
    have g1 : (i : Int) < (l.length : Int) := by omega
    have sw : wrap64 ((i : Int) + 1) = ((i + 1 : Nat) : Int) := succ_w i (by omega)
    have g4 : acc.length < 17592186044416 := by omega
    have hlen : (acc ++ [(i : Int)]).length ≤ i + 1 := by rw [List.length_append, List.length_singleton]; omega
    have e2 : Int.tmod (bits : Int) 2 = ((bits % 2 : Nat) : Int) := by rw [Int.tmod_eq_emod_of_nonneg (by omega)]; rfl
    have e3 : wrap64 (Int.tdiv (bits : Int) 2) = ((bits / 2 : Nat) : Int) := by rw [Int.tdiv_eq_ediv_of_nonneg (by omega), wrap_small (by omega)]; rfl
    have e4 : wrap64 ((l.length : Int) - 1) = (l.length : Int) - 1 := wrap_small (by omega)
    have a1 : ∀ cs : List Nat, acc ++ ints (i :: cs) = (acc ++ [(i : Int)]) ++ ints cs := fun cs => by simp [ints]
    refine Ev.step (f := fun k => (variorumref10_Legal.f k l (i : Int)).bind fun t => if t = true then (if ((bits % 2 : Nat) : Int) = 1 then variorumref11_Choice.l0 k l ((bits / 2 : Nat) : Int) (acc ++ [(i : Int)]) ((i + 1 : Nat) : Int) else if (i : Int) = (l.length : Int) - 1 then variorumref11_Choice.l0 k l ((bits / 2 : Nat) : Int) (acc ++ [(i : Int)]) ((i + 1 : Nat) : Int) else variorumref11_Choice.l0 k l ((bits / 2 : Nat) : Int) acc ((i + 1 : Nat) : Int)) else variorumref11_Choice.l0 k l (bits : Int) acc ((i + 1 : Nat) : Int)) (fun k => ?_) (Ev.bind (rlegal_ev l _ hl) ?_)
    · simp only [variorumref11_Choice.l0]
      rw [if_pos g1, e2, e3, e4, sw]
      simp only [if_pos g4]
    · simp only [chn]
      by_cases h : lg l (i : Int) = true
      · simp only [if_pos h]
        by_cases c2 : bits % 2 = 1
        · simp only [if_pos c2, if_pos (show ((bits % 2 : Nat) : Int) = 1 by omega)]
          rw [a1]
          exact chn_ev hl d (i + 1) (bits / 2) _ (by omega) hlen (by omega)
        · simp only [if_neg c2, if_neg (show ¬ ((bits % 2 : Nat) : Int) = 1 by omega)]
          by_cases c3 : i + 1 = l.length
          · simp only [if_pos c3, if_pos (show (i : Int) = (l.length : Int) - 1 by omega)]
            rw [a1]
            exact chn_ev hl d (i + 1) (bits / 2) _ (by omega) hlen (by omega)
          · simp only [if_neg c3, if_neg (show ¬ (i : Int) = (l.length : Int) - 1 by omega)]
            exact chn_ev hl d (i + 1) (bits / 2) acc (by omega) (by omega) (by omega)
      · simp only [if_neg h]
        exact chn_ev hl d (i + 1) bits acc (by omega) (by omega) hb
/-- Breaks that rise, may be broken at, and end with the last item. -/
def Good (l : List S47) : Nat → List Nat → Prop
  | a, [] => a = l.length
  | a, b :: r => a ≤ b ∧ b < l.length ∧ lg l (b : Int) = true ∧ Good l (b + 1) r
theorem tot_good {l : List S47} (hm : mi l = true) {w tol : Int} : ∀ (r : List Nat) (a c : Nat) (e : Int), tot l.length (cst l w tol) apn a c r = some e → Good l a r
  | [], a, c, e => fun h => by
    simp only [tot] at h
    by_cases q : a = l.length
    · exact q
    · rw [if_neg q] at h; cases h
  | b :: r, a, c, e => fun h => by
    obtain ⟨x, e', hx, he, -⟩ := tot_cons h
    have kb := (cst_in hm hx).1
    have q := mb_in kb
    unfold mb at kb
    simp only [Bool.and_eq_true] at kb
    exact ⟨by omega, by omega, kb.2.1, tot_good hm r (b + 1) x.2 e' he⟩
theorem good_bits {l : List S47} : ∀ (d i : Nat) (r : List Nat), i + d = l.length → Good l i r → ∃ bits, bits < 2 ^ cnt l d i ∧ chn l d i bits = r
  | 0, i, [] => fun hi h => ⟨0, Nat.lt_of_lt_of_le (by decide) (Nat.one_le_two_pow), rfl⟩
  | 0, i, b :: r => fun hi h => by have := h.1; have := h.2.1; omega
  | d + 1, i, [] => fun hi h => by have : i = l.length := h; omega
  | d + 1, i, b :: r => fun hi h => by
    by_cases e : b = i
    · subst e
      obtain ⟨bits, h1, h2⟩ := good_bits d (b + 1) r (by omega) h.2.2.2
      refine ⟨2 * bits + 1, ?_, ?_⟩
      · simp only [cnt]; rw [if_pos h.2.2.1, show 1 + cnt l d (b + 1) = cnt l d (b + 1) + 1 from Nat.add_comm _ _, Nat.pow_succ]; omega
      · simp only [chn]
        rw [if_pos h.2.2.1, if_pos (by omega), show (2 * bits + 1) / 2 = bits by omega, h2]
    · have hb := h.1
      have hbn := h.2.1
      obtain ⟨bits, h1, h2⟩ := good_bits d (i + 1) (b :: r) (by omega) ⟨by omega, h.2⟩
      by_cases hlg : lg l (i : Int) = true
      · refine ⟨2 * bits, ?_, ?_⟩
        · simp only [cnt]; rw [if_pos hlg, show 1 + cnt l d (i + 1) = cnt l d (i + 1) + 1 from Nat.add_comm _ _, Nat.pow_succ]; omega
        · simp only [chn]
          rw [if_pos hlg, if_neg (by omega), if_neg (by omega), show (2 * bits) / 2 = bits by omega, h2]
      · refine ⟨bits, ?_, ?_⟩
        · simp only [cnt]; rw [if_neg hlg, Nat.zero_add]; exact h1
        · simp only [chn]; rw [if_neg hlg, h2]
theorem shl_is (n : Nat) (h : n < 10) : shl .i64 1 (IntKind.u64.wrap (n : Int)) = ((2 ^ n : Nat) : Int) ∧ 0 ≤ IntKind.u64.wrap (n : Int) := by
  match n, h with
  | 0, _ => exact ⟨by decide, by decide⟩
  | 1, _ => exact ⟨by decide, by decide⟩
  | 2, _ => exact ⟨by decide, by decide⟩
  | 3, _ => exact ⟨by decide, by decide⟩
  | 4, _ => exact ⟨by decide, by decide⟩
  | 5, _ => exact ⟨by decide, by decide⟩
  | 6, _ => exact ⟨by decide, by decide⟩
  | 7, _ => exact ⟨by decide, by decide⟩
  | 8, _ => exact ⟨by decide, by decide⟩
  | 9, _ => exact ⟨by decide, by decide⟩
theorem ahead_ev : ∀ (a b : List Nat) (pa pb : List Int), pa.length = pb.length → pa.length + a.length ≤ 1000000 → Ev (fun k => variorumlaw11_ahead.l0 k (pa ++ ints a) (pb ++ ints b) (pa.length : Int)) (ahead a b)
  | [], b, pa, pb => fun hp hl => by
    refine Ev.step (f := fun k => variorumlaw11_ahead.j1 k (pa ++ ints []) (pb ++ ints b) (pa.length : Int) false) (fun k => ?_) ?_
    · simp only [variorumlaw11_ahead.l0]; rw [if_neg (by simp [ints])]
    · exact Ev.step (f := fun _ => some _) (fun k => by simp only [variorumlaw11_ahead.j1]; rw [if_neg (by decide)]) (by simp only [ahead]; exact Ev.now _)
  | x :: a, [], pa, pb => fun hp hl => by
    have h1 : (pa.length : Int) < ((pa ++ ints (x :: a)).length : Int) := by simp [ints]; omega
    have h2 : ¬ (pa.length : Int) < ((pb ++ ints []).length : Int) := by simp [ints]; omega
    refine Ev.step (f := fun k => variorumlaw11_ahead.j1 k (pa ++ ints (x :: a)) (pb ++ ints []) (pa.length : Int) false) (fun k => ?_) ?_
    · simp only [variorumlaw11_ahead.l0]; rw [if_pos h1, decide_eq_false h2]
    · exact Ev.step (f := fun _ => some _) (fun k => by simp only [variorumlaw11_ahead.j1]; rw [if_neg (by decide)]) (by simp only [ahead]; exact Ev.now _)
  | x :: a, y :: b, pa, pb => fun hp hl => by
    have h1 : (pa.length : Int) < ((pa ++ ints (x :: a)).length : Int) := by simp [ints]; omega
    have h2 : (pa.length : Int) < ((pb ++ ints (y :: b)).length : Int) := by simp [ints]; omega
    have r1 : rd (pa ++ ints (x :: a)) (pa.length : Int) = (x : Int) := rd_mid pa (x : Int) (ints a)
    have r2 : rd (pb ++ ints (y :: b)) (pa.length : Int) = (y : Int) := by rw [hp]; exact rd_mid pb (y : Int) (ints b)
    rw [List.length_cons] at hl
    have sw : wrap64 ((pa.length : Int) + 1) = ((pa.length + 1 : Nat) : Int) := succ_w _ (by omega)
    refine Ev.step (f := fun k => variorumlaw11_ahead.j1 k (pa ++ ints (x :: a)) (pb ++ ints (y :: b)) (pa.length : Int) true) (fun k => ?_) ?_
    · simp only [variorumlaw11_ahead.l0]; rw [if_pos h1, decide_eq_true h2]
    · by_cases e : x = y
      · subst e
        have ih := ahead_ev a b (pa ++ [(x : Int)]) (pb ++ [(x : Int)]) (by simp [hp]) (by rw [List.length_append, List.length_singleton]; omega)
        rw [show (pa ++ [(x : Int)]) ++ ints a = pa ++ ints (x :: a) by simp [ints], show (pb ++ [(x : Int)]) ++ ints b = pb ++ ints (x :: b) by simp [ints], List.length_append, List.length_singleton] at ih
        refine Ev.step (f := fun k => variorumlaw11_ahead.l0 k (pa ++ ints (x :: a)) (pb ++ ints (x :: b)) ((pa.length + 1 : Nat) : Int)) (fun k => ?_) (by simp only [ahead, if_true]; exact ih)
        simp only [variorumlaw11_ahead.j1]
        rw [if_pos trivial, if_pos (by omega), if_pos h1, if_pos h2, r1, r2, if_pos rfl, sw]
      · refine Ev.step (f := fun _ => some _) (fun k => ?_) (by simp only [ahead]; rw [if_neg e]; exact Ev.now _)
        simp only [variorumlaw11_ahead.j1]
        rw [if_pos trivial, if_pos (by omega), if_pos h1, if_pos h2, r1, r2, if_neg (by omega)]
        congr 1
        exact decide_eq_decide.2 ⟨fun h => by omega, fun h => by omega⟩
/-! ## All choices -/
theorem all_loop {l : List S47} (hm : mi l = true) (hl : l.length ≤ 60) (w tol : Int) (n : Nat) (hn : n ≤ 10) : ∀ (m i : Nat) (f : Bool), i + m = 2 ^ n →
    ((bv l w tol).2.2 = true → f = true ∨ ∃ j, i ≤ j ∧ j < 2 ^ n ∧ (to_ l (ints (chn l l.length 0 j)) w tol).2 = true) → ((bv l w tol).2.2 = false → f = false) →
      Ev (fun k => variorumlaw11_BreakerAll.l0 k l w tol (n : Int) (bv l w tol).1 (bv l w tol).2.1 (bv l w tol).2.2 f (i : Int)) true := by
  have hp : 2 ^ n ≤ 1024 := Nat.pow_le_pow_right (by decide) hn
  intro m
  induction m with
  | zero =>
    intro i f hi h1 h2
    have hb : ((bv l w tol).2.2 == f) = true := by
      cases hok : (bv l w tol).2.2 with
      | true =>
        rcases h1 hok with h | ⟨j, j1, j2, _⟩
        · rw [h]; rfl
        · omega
      | false => rw [h2 hok]; rfl
    by_cases c : n < 10
    · have hs := shl_is n c
      have hp2 : 2 ^ n ≤ 512 := (Nat.pow_le_pow_right (by decide) (show n ≤ 9 by omega) : 2 ^ n ≤ 2 ^ 9)
      refine Ev.step (f := fun k => variorumlaw11_BreakerAll.j2 k l w tol (n : Int) (bv l w tol).1 (bv l w tol).2.1 (bv l w tol).2.2 f (i : Int) true) (fun k => ?_) ?_
      · simp only [variorumlaw11_BreakerAll.l0]
        rw [if_pos (show (i : Int) < 1024 by omega), if_pos (show (n : Int) < 10 by omega), if_pos hs.2, hs.1, decide_eq_true (show (i : Int) ≥ ((2 ^ n : Nat) : Int) by omega)]
      · refine Ev.step (f := fun _ => some _) (fun k => ?_) (Ev.now _)
        simp only [variorumlaw11_BreakerAll.j2]
        rw [if_pos trivial, hb]
    · have : n = 10 := by omega
      subst this
      refine Ev.step (f := fun _ => some _) (fun k => ?_) (Ev.now _)
      simp only [variorumlaw11_BreakerAll.l0]
      rw [if_neg (show ¬ (i : Int) < 1024 by omega), hb]
  | succ m ih =>
    intro i f hi h1 h2
    have hl2 : l.length ≤ 2000 := by omega
    have sw : wrap64 ((i : Int) + 1) = ((i + 1 : Nat) : Int) := succ_w _ (by omega)
    have hcl := chn_len l l.length 0 i
    have hil : (ints (chn l l.length 0 i)).length ≤ 2000 := by simp only [ints, List.length_map]; omega
    have hch : Ev (fun k => variorumref11_Choice.f k l (i : Int)) (ints (chn l l.length 0 i)) := chn_ev hl2 l.length 0 i [] (by omega) (by simp) (by omega)
    have go : Ev (fun k => variorumlaw11_BreakerAll.j2 k l w tol (n : Int) (bv l w tol).1 (bv l w tol).2.1 (bv l w tol).2.2 f (i : Int) false) true := by
      refine Ev.step (f := fun k => (variorumref11_Choice.f k l (i : Int)).bind fun t374 => ((variorumref10_Total.f k l t374 w tol).bind fun bt377 => (if bt377.2 = true then (if (bv l w tol).2.2 = true then (if bt377.1 < (bv l w tol).2.1 then (none) else (if bt377.1 = (bv l w tol).2.1 then ((variorumlaw11_ahead.f k t374 (bv l w tol).1).bind fun t379 => (if t379 = true then (none) else (variorumlaw11_BreakerAll.l0 k l w tol (n : Int) (bv l w tol).1 (bv l w tol).2.1 (bv l w tol).2.2 true ((i + 1 : Nat) : Int)))) else (variorumlaw11_BreakerAll.l0 k l w tol (n : Int) (bv l w tol).1 (bv l w tol).2.1 (bv l w tol).2.2 true ((i + 1 : Nat) : Int)))) else (none)) else (variorumlaw11_BreakerAll.l0 k l w tol (n : Int) (bv l w tol).1 (bv l w tol).2.1 (bv l w tol).2.2 f ((i + 1 : Nat) : Int))))) (fun k => ?_) (Ev.bind hch (Ev.bind (rtotal_ev l _ w tol hl2 hil) ?_))
      · simp only [variorumlaw11_BreakerAll.j2]
        rw [if_neg (by decide), sw]
      · by_cases ht : (to_ l (ints (chn l l.length 0 i)) w tol).2 = true
        · simp only [if_pos ht]
          obtain ⟨r, hr, hne, htt⟩ := to_is hm ht
          have hz : 0 < l.length := by
            cases r with
            | nil => exact absurd rfl hne
            | cons b r =>
              obtain ⟨x, e', hx, _, -⟩ := tot_cons htt
              have := mb_in (cst_in hm hx).1
              omega
          obtain ⟨v, hv, hle⟩ := least (filled hm w tol) r 0 2 _ (.inl rfl) hz (by omega) htt
          have e : bv l w tol = (ints (told l w tol), v.1, true) := by unfold bv; rw [if_pos hm, hv]; rfl
          have ihT := ih (i + 1) true (by omega) (fun _ => .inl rfl) (fun h => by rw [e] at h; cases h)
          rw [e] at ihT ⊢
          simp only [if_true]
          simp only [if_neg (show ¬ (to_ l (ints (chn l l.length 0 i)) w tol).1 < v.1 by omega)]
          by_cases he : (to_ l (ints (chn l l.length 0 i)) w tol).1 = v.1
          · simp only [if_pos he]
            rw [he] at htt
            have hf := first (filled hm w tol) r l.length 0 2 v (by omega) (.inl rfl) hz (by omega) hv htt
            rw [hr]
            have hrl : r.length ≤ 1000000 := by
              have : (ints (chn l l.length 0 i)).length = (ints r).length := by rw [hr]
              simp only [ints, List.length_map] at this; omega
            have ha := ahead_ev r (told l w tol) [] [] rfl (by simp; omega)
            have ha2 : Ev (fun k => variorumlaw11_ahead.f k (ints r) (ints (told l w tol))) (ahead r (told l w tol)) := ha
            refine Ev.bind ha2 ?_
            have hf2 : ahead r (told l w tol) = false := hf
            rw [hf2]
            simp only [Bool.false_eq_true, if_false]
            exact ihT
          · simp only [if_neg he]
            exact ihT
        · simp only [if_neg ht]
          refine ih (i + 1) f (by omega) (fun hok => ?_) h2
          rcases h1 hok with h | ⟨j, j1, j2, j3⟩
          · exact .inl h
          · refine .inr ⟨j, ?_, j2, j3⟩
            rcases Nat.lt_or_ge i j with q | q
            · omega
            · have : j = i := by omega
              subst this; exact absurd j3 ht
    by_cases c : n < 10
    · have hs := shl_is n c
      refine Ev.step (f := fun k => variorumlaw11_BreakerAll.j2 k l w tol (n : Int) (bv l w tol).1 (bv l w tol).2.1 (bv l w tol).2.2 f (i : Int) false) (fun k => ?_) go
      simp only [variorumlaw11_BreakerAll.l0]
      rw [if_pos (show (i : Int) < 1024 by omega), if_pos (show (n : Int) < 10 by omega), if_pos hs.2, hs.1, decide_eq_false (show ¬ (i : Int) ≥ ((2 ^ n : Nat) : Int) by omega)]
    · refine Ev.step (f := fun k => variorumlaw11_BreakerAll.j2 k l w tol (n : Int) (bv l w tol).1 (bv l w tol).2.1 (bv l w tol).2.2 f (i : Int) false) (fun k => ?_) go
      simp only [variorumlaw11_BreakerAll.l0]
      rw [if_pos (show (i : Int) < 1024 by omega), if_neg (show ¬ (n : Int) < 10 by omega)]

theorem BreakerAll : variorumlaw11_BreakerAll.Pure := by
  intro x0 x1 x2 h0 h1 h2
  refine Ev.rounds (g := fun k => variorumlaw11_BreakerAll.f k x0 x1 x2) ?_
  have no : ∀ o, Ev (fun k => variorumlaw11_BreakerAll.j0 k x0 x1 x2 o true) true := fun o =>
    Ev.step (f := fun k => (variorumlaw11_fixed.f k).bind fun t => some t) (fun k => by simp only [variorumlaw11_BreakerAll.j0]; rw [if_pos trivial]) (Ev.bind fixed_ev (Ev.now _))
  have hlen : x0.length ≤ 100000000000000 := by have := h0.1; omega
  unfold variorumlaw11_BreakerAll.f
  have hmany : Ev (fun k => variorumref11_Many.f k x0) ((0 + cnt x0 x0.length 0 : Nat) : Int) := many_ev hlen x0.length 0 0 (by omega) (Nat.le_refl _)
  rw [Nat.zero_add] at hmany
  refine Ev.bind hmany (Ev.bind fixed_ev ?_)
  simp only [if_true]
  by_cases c : ((cnt x0 x0.length 0 : Nat) : Int) > 10
  · simp only [if_pos c]; exact no _
  · simp only [if_neg c]
    by_cases c2 : (x0.length : Int) > 60
    · simp only [if_pos c2]; exact no _
    · simp only [if_neg c2]
      refine Ev.bind (rmay9_ev x0 (by omega)) ?_
      by_cases hm : mi x0 = true
      · rw [hm]
        refine Ev.step (f := fun k => (breaker_Best.f k x0 x1 x2).bind fun bt369 => (variorumlaw11_BreakerAll.l0 k x0 x1 x2 ((cnt x0 x0.length 0 : Nat) : Int) bt369.1 bt369.2.1 bt369.2.2 false 0)) (fun k => by simp only [variorumlaw11_BreakerAll.j0]; rw [if_neg (by decide)]) ?_
        refine Ev.bind (best_ev x0 x1 x2) ?_
        refine all_loop hm (by omega) x1 x2 (cnt x0 x0.length 0) (by omega) (2 ^ cnt x0 x0.length 0) 0 false (by omega) (fun hok => ?_) (fun _ => rfl)
        cases hv : VF x0 x1 x2 0 2 with
        | none =>
          have e : bv x0 x1 x2 = ([], 0, false) := by unfold bv; rw [if_pos hm, hv]
          rw [e] at hok; cases hok
        | some v =>
          have hcost := told_cost hm hv
          obtain ⟨bits, b1, b2⟩ := good_bits x0.length 0 (told x0 x1 x2) (by omega) (tot_good hm _ 0 2 v.1 hcost)
          refine .inr ⟨bits, Nat.zero_le _, b1, ?_⟩
          rw [b2, to_of hm (told_ne hm hv) hcost]
      · rw [Bool.eq_false_iff.mpr hm]; exact no _

end Go.Proofs.Ytnkdopihaohimaa.Pure

/- ColumnFills: a filled column has room for what is in it, and none for the next one; with more room all is filled still. -/
import Derived.Test.YtgkpomeobaheiaaPAllx6
import Derived.Test.YtgkpomeobaheiaaPLeast
namespace Go.Proofs.Ytgkpomeobaheiaa.Pure
set_option linter.unusedVariables false
set_option linter.unusedSimpArgs false
open Go.RowKit Go.Proofs.Ytgkpomeobaheiaa.PAll Go.Proofs.YtgkpomeobaheiaaW.PrintWords Go.Proofs.YtgkpomeobaheiaaW.PrintLast Go.Proofs.YtgkpomeobaheiaaW.PrintMore

theorem wf_both {x : Int} (h : (Lit.int .i64 x).wf = true) : -9223372036854775808 ≤ x ∧ x ≤ 9223372036854775807 := by
  simp [Lit.wf] at h
  exact ⟨h.1, h.2⟩

def fillsRest (h : List Int) (cols room : Int) (c k : Nat) : Option Bool := if ((pos h room (c + 1) : Nat) : Int) < (h.length : Int) then (if ((pos h room c : Nat) : Int) ≤ ((pos h room (c + 1) + 1 : Nat) : Int) then (if ((pos h room (c + 1) + 1 : Nat) : Int) ≤ (h.length : Int) then ((variorumref19_Sum.f k ((h.take (pos h room (c + 1) + 1)).drop (pos h room c))).bind fun t => if t ≤ room then none else variorumlaw19_ColumnFills.l0 k h cols room (counts h room cols.toNat) (pos h room (c + 1) : Nat) ((c + 1 : Nat) : Int)) else none) else none) else variorumlaw19_ColumnFills.l0 k h cols room (counts h room cols.toNat) (pos h room (c + 1) : Nat) ((c + 1 : Nat) : Int)

theorem fills_l0 {h : List Int} {cols : Int} (o : Ok h cols) (room : Int) (hr : -9223372036854775808 ≤ room ∧ room ≤ 9223372036854775807) (hfull : h.length ≤ pos h room cols.toNat) (d : Nat) : ∀ c : Nat, c + d = cols.toNat →
    Ev (fun k => variorumlaw19_ColumnFills.l0 k h cols room (counts h room cols.toNat) (pos h room c : Nat) (c : Int)) true := by
  have hlen := o.len
  have h1 := o.c1
  have h2 := o.c2
  induction d with
  | zero =>
    intro c hc
    have e : c = cols.toNat := by omega
    have hp := pos_le h room c
    have g : ¬ (c : Int) < ((counts h room cols.toNat).length : Int) := by rw [counts_length]; omega
    have g1 : ((pos h room c : Nat) : Int) = (h.length : Int) := by rw [e] at hp ⊢; omega
    have g2 : ((counts h room cols.toNat).length : Int) = cols := by rw [counts_length]; omega
    by_cases b : room > 9000000000000000000
    · refine Ev.step (f := fun _ => some true) (fun k => ?_) (Ev.now _)
      simp only [variorumlaw19_ColumnFills.l0]
      rw [if_neg g, if_pos b]
    · have hf := fill_ev o (room + 1) (by omega)
      have hp2 := pos_more o.nn room (room + 1) (by omega) cols.toNat
      unfold filled at hf
      rw [if_pos (by omega)] at hf
      have ew : wrap64 (room + 1) = room + 1 := wrap_small (by omega)
      have hx : Ev (fun k => (column_Fill.f k h cols (room + 1)).bind fun bt => if ((pos h room c : Nat) : Int) = (h.length : Int) then (if ((counts h room cols.toNat).length : Int) = cols then some bt.2 else none) else none) true :=
        Ev.bind hf (by simp only [if_pos g1, if_pos g2]; exact Ev.now _)
      refine Ev.step (fun k => ?_) hx
      simp only [variorumlaw19_ColumnFills.l0]
      rw [if_neg g, if_neg b, ew]
  | succ d ih =>
    intro c hc
    have hn := ih (c + 1) (by omega)
    have hp := pos_le h room (c + 1)
    have hs := pos_step h room c
    have g : (c : Int) < ((counts h room cols.toNat).length : Int) := by rw [counts_length]; omega
    have g1 : (0 : Int) ≤ (c : Int) := by omega
    have g9 : c ≤ 1000000000000000 := by omega
    have er : rd (counts h room cols.toNat) (c : Int) = diff h room c := counts_rd h room _ c (by omega)
    have ed : diff h room c = ((pos h room (c + 1) - pos h room c : Nat) : Int) := rfl
    have g2 : ¬ diff h room c < 0 := by rw [ed]; omega
    have g3 : (0 : Int) ≤ ((pos h room c : Nat) : Int) := by omega
    have g4 : ¬ ((pos h room (c + 1) : Nat) : Int) > (h.length : Int) := by omega
    have g5 : ((pos h room c : Nat) : Int) ≤ ((pos h room (c + 1) : Nat) : Int) := by omega
    have g6 : ((pos h room (c + 1) : Nat) : Int) ≤ (h.length : Int) := by omega
    have g7 : pos h room (c + 1) ≤ 1000000000000000 := by omega
    have hd : pre h (pos h room (c + 1)) - pre h (pos h room c) > room → ¬ diff h room c > 0 := by
      intro b
      rcases pos_room h room c with e | e
      · rw [ed]; omega
      · omega
    have hsum := cut_sum o (pos h room c) (pos h room (c + 1)) hs hp
    have hrest : Ev (fun k => fillsRest h cols room c k) true := by
      unfold fillsRest
      by_cases b : pos h room (c + 1) < h.length
      · have b1 : ((pos h room (c + 1) : Nat) : Int) < (h.length : Int) := by omega
        have b2 : ((pos h room c : Nat) : Int) ≤ ((pos h room (c + 1) + 1 : Nat) : Int) := by omega
        have b3 : ((pos h room (c + 1) + 1 : Nat) : Int) ≤ (h.length : Int) := by omega
        have hf := pos_full h room c b
        simp only [if_pos b1, if_pos b2, if_pos b3]
        refine Ev.bind (cut_sum o (pos h room c) (pos h room (c + 1) + 1) (by omega) (by omega)) ?_
        simp only [if_neg hf]
        exact hn
      · have b1 : ¬ ((pos h room (c + 1) : Nat) : Int) < (h.length : Int) := by omega
        simp only [if_neg b1]
        exact hn
    have ew : wrap64 ((pos h room c : Nat) + diff h room c) = ((pos h room (c + 1) : Nat) : Int) := by rw [ed, wrap_small (by omega)]; omega
    by_cases b : pre h (pos h room (c + 1)) - pre h (pos h room c) > room
    · have b2 := hd b
      refine Ev.step (f := fun k => (variorumref19_Sum.f k ((h.take (pos h room (c + 1))).drop (pos h room c))).bind fun t => if t > room then (if diff h room c > 0 then none else fillsRest h cols room c k) else fillsRest h cols room c k) (fun k => ?_) (Ev.bind hsum (by simp only [if_pos b, if_neg b2]; exact hrest))
      simp only [variorumlaw19_ColumnFills.l0]
      rw [if_pos g, if_pos g1, er, if_neg g2, ew, if_neg g4, if_pos g3, if_pos g5, if_pos g6, succ_w _ g7, succ_w c g9, Int.toNat_natCast, Int.toNat_natCast, Int.toNat_natCast]
      rfl
    · refine Ev.step (f := fun k => (variorumref19_Sum.f k ((h.take (pos h room (c + 1))).drop (pos h room c))).bind fun t => if t > room then (if diff h room c > 0 then none else fillsRest h cols room c k) else fillsRest h cols room c k) (fun k => ?_) (Ev.bind hsum (by simp only [if_neg b]; exact hrest))
      simp only [variorumlaw19_ColumnFills.l0]
      rw [if_pos g, if_pos g1, er, if_neg g2, ew, if_neg g4, if_pos g3, if_pos g5, if_pos g6, succ_w _ g7, succ_w c g9, Int.toNat_natCast, Int.toNat_natCast, Int.toNat_natCast]
      rfl

theorem ColumnFills : variorumlaw19_ColumnFills.Pure := by
  intro h cols room hl hc hr
  have hr2 := wf_both hr
  refine Ev.rounds (g := fun k => variorumlaw19_ColumnFills.f k h cols room) ?_
  unfold variorumlaw19_ColumnFills.f
  have htrue : ∀ x7, Ev (fun k => variorumlaw19_ColumnFills.j0 k h cols room x7 true) true := by
    intro x7
    refine Ev.step (f := fun k => (variorumlaw19_fixed.f k).bind fun t => some t) (fun k => ?_) (Ev.bind fixed_ev (Ev.now _))
    simp [variorumlaw19_ColumnFills.j0]
  by_cases o : Ok h cols
  · refine Ev.bind (fill_ev o room hr2.2) (Ev.bind fixed_ev ?_)
    simp only [if_true]
    unfold filled
    by_cases b : h.length ≤ pos h room cols.toNat
    · simp only [if_pos b, if_true]
      by_cases h100 : (h.length : Int) > 100
      · rw [decide_eq_true h100]; exact htrue _
      · rw [decide_eq_false h100]
        refine Ev.step (fun k => ?_) (fills_l0 o room hr2 b cols.toNat 0 (by omega))
        simp only [variorumlaw19_ColumnFills.j0]
        rw [if_neg (by decide)]
        rfl
    · simp only [if_neg b]
      refine Ev.congr (fun k => ?_) (htrue [])
      simp
  · refine Ev.bind (fill_no hl.1 o room) (Ev.bind fixed_ev ?_)
    refine Ev.congr (fun k => ?_) (htrue [])
    simp

end Go.Proofs.Ytgkpomeobaheiaa.Pure

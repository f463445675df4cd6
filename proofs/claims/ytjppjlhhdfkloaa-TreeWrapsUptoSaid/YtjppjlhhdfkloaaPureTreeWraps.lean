/- TreeWraps: nodes behind one another, and nodes put into a command: their words, their depth, and whether they may be told. -/
import Derived.Test.YtjppjlhhdfkloaaPTpx17
import Derived.Test.YtjppjlhhdfkloaaTWalk
namespace Go.Proofs.Ytjppjlhhdfkloaa.Pure
set_option linter.unusedVariables false
set_option linter.unusedSimpArgs false
open Go.RowKit Go.Proofs.Ytjppjlhhdfkloaa.PTp Go.Proofs.YtjppjlhhdfkloaaW.PrintWords Go.Proofs.YtjppjlhhdfkloaaW.PrintLast Go.Proofs.YtjppjlhhdfkloaaW.PrintMore

theorem texts_loop (l : List ByteArray) (hl : l.length ≤ 1000000000) : ∀ (d i : Nat), i + d = l.length → Ev (fun k => variorumref06_Texts.l0 k l l (i : Int)) true
  | 0, i => fun hi => by
    refine Ev.step (f := fun _ => some true) (fun k => ?_) (Ev.now _)
    simp only [variorumref06_Texts.l0]
    rw [if_neg (by omega)]
  | d + 1, i => fun hi => by
    refine Ev.step (fun k => ?_) (texts_loop l hl d (i + 1) (by omega))
    simp only [variorumref06_Texts.l0]
    rw [if_pos (by omega), if_pos (by omega), if_pos (by omega), if_pos trivial, succ_w i (by omega)]
theorem texts_ev (l : List ByteArray) (hl : l.length ≤ 1000000000) : Ev (fun k => variorumref06_Texts.f k l l) true := by
  unfold variorumref06_Texts.f
  exact Ev.congr (fun k => if_pos rfl) (texts_loop l hl l.length 0 (by omega))
theorem bk_app : ∀ a b : List S38, bkN (a ++ b) + 1 = bkN a + bkN b
  | [], b => by simp only [List.nil_append, bkN]; omega
  | x :: r, b => by have := bk_app r b; simp only [List.cons_append, bkN]; omega
theorem wraps_no (a b : List S38) : Ev (fun k => variorumlaw06_TreeWraps.j0 k a b true) true := by
  refine Ev.step (f := fun k => (variorumlaw06_fixed.f k).bind fun t => some t) (fun k => ?_) (Ev.bind fixed_ev (Ev.now _))
  simp only [variorumlaw06_TreeWraps.j0]
  rw [if_pos trivial]
def Pn (a b : List S38) : List S38 := [⟨true, (⟨#[112]⟩ : ByteArray), [a, b], 0⟩]
theorem bk_p (a b : List S38) : bkN (Pn a b) = bkN a + bkN b + 3 := by
  unfold Pn
  simp only [bkN, bkS, bkG]; omega
theorem gt_p {a b : List S38} (ha : Dl 99 a) (hb : Dl 99 b) : GT EW 100 (Pn a b) = GT EW 100 a ++ GT EW 100 b := by
  rw [← gt_next EW ha, ← gt_next EW hb]
  unfold Pn
  rw [GT]
  simp [EW]
theorem dp_p {a b : List S38} (ha : Dl 100 a) (hb : Dl 100 b) : Dp 101 (Pn a b) = max (Dp 101 a) (Dp 101 b) + 1 := by
  have e1 : Dg 101 a = 1 + Dp 101 a := by rw [← dp_next ha]; rfl
  have e2 : Dg 101 b = 1 + Dp 101 b := by rw [← dp_next hb]; rfl
  have : Dp 101 (Pn a b) = max (max (Dg 101 a) (max (Dg 101 b) 0)) 0 := rfl
  omega
theorem dp_app (n : Nat) (a b : List S38) : Dp n (a ++ b) = max (Dp n a) (Dp n b) := by unfold Dp; rw [List.map_append, mxs_app]
theorem wraps_yes {a b : List S38} (ha : bkN a ≤ 1048576) (hb : bkN b ≤ 1048576) (m1 : mayB a = true) (m2 : mayB b = true) : Ev (fun k => variorumlaw06_TreeWraps.j0 k a b false) true := by
  obtain ⟨d1, w1⟩ := may_dl m1
  obtain ⟨d2, w2⟩ := may_dl m2
  have na := nbk_n a
  have nb := nbk_n b
  have nab := nbk_n (a ++ b)
  have np := nbk_n (Pn a b)
  have eab := bk_app a b
  have ep := bk_p a b
  have sa := nbk_sm na (by omega)
  have sb := nbk_sm nb (by omega)
  have sab := nbk_sm nab (by omega)
  have sp := nbk_sm np (by omega)
  dsimp only at sa sb sab sp
  have hE : ∀ K x, (EW K x).length ≤ 1 := fun K x => by unfold EW; split <;> simp
  have la := gt_len EW hE na 100
  have lb := gt_len EW hE nb 100
  have ew : GT EW 100 (a ++ b) = GT EW 100 a ++ GT EW 100 b := gt_app EW 100 a b
  have eq := gt_p (dl_to d1 (show 64 ≤ 99 by decide)) (dl_to d2 (show 64 ≤ 99 by decide))
  have Wab := Words_ev nab (by omega)
  have WP := Words_ev np (by omega)
  rw [ew] at Wab
  rw [eq] at WP
  have T := texts_ev (GT EW 100 a ++ GT EW 100 b) (by rw [List.length_append]; omega)
  have DP := Depth_ev sp.2
  have Dab := Depth_ev sab.2
  have MP := may_ev sp.2
  have dle1 := dp_le 101 a
  have dle2 := dp_le 101 b
  rw [dp_p (dl_to d1 (by decide)) (dl_to d2 (by decide))] at DP
  rw [dp_app] at Dab
  have mp : mayB (Pn a b) = decide (max (Dp 101 a) (Dp 101 b) < 64) := by
    unfold mayB
    rw [dp_p (dl_to d1 (by decide)) (dl_to d2 (by decide))]
    have : wN (Pn a b) = true := by
      unfold Pn
      simp only [wN, wS, wG, w1, w2, Bool.true_or, Bool.true_and]
    rw [this, Bool.and_true]
    congr 1
  refine Ev.step (f := fun k => (((some (([] : List (S38)) : List (S38))).bind fun y189 => (if y189.length + a.length < 2513169434916 then ((some (y189 ++ a : List (S38))).bind fun y192 => (if y192.length + b.length < 2513169434916 then ((some (y192 ++ b : List (S38))).bind fun y195 => ((some (([] : List ByteArray) : List ByteArray)).bind fun y198 => ((tree_Words.f k a).bind fun t201 => (if y198.length + t201.length < 8796093022208 then ((some (y198 ++ t201 : List ByteArray)).bind fun y204 => ((tree_Words.f k b).bind fun t207 => (if y204.length + t207.length < 8796093022208 then ((some (y204 ++ t207 : List ByteArray)).bind fun y210 => ((some (([(⟨true, (⟨#[112]⟩ : ByteArray), (([a, b] : List (List (S38)))), 0⟩ : S38)] : List (S38)) : List (S38))).bind fun y216 => ((tree_Depth.f k a).bind fun t219 => ((tree_Depth.f k b).bind fun t220 => ((tree_Words.f k y195).bind fun t221 => ((variorumref06_Texts.f k t221 y210).bind fun t224 => (if t224 = true then ((tree_Words.f k y216).bind fun t225 => ((variorumref06_Texts.f k t225 y210).bind fun t228 => (if t228 = true then ((tree_Depth.f k y216).bind fun t229 => (if t229 = (wrap64 ((mx t219 t220) + 1)) then ((tree_Depth.f k y195).bind fun t230 => (if t230 = (mx t219 t220) then ((tree_May.f k y216).bind fun t231 => (some (t231 == (decide ((mx t219 t220) < 64))))) else (none))) else (none))) else (none)))) else (none)))))))) else (none)))) else (none))))) else (none))) else (none))))) (fun k => ?_) ?_
  · simp only [variorumlaw06_TreeWraps.j0]
    rw [if_neg (by decide)]
  · refine Ev.bind (Ev.now _) (Ev.congr (fun k => if_pos ?c1) (Ev.bind (Ev.now _) (Ev.congr (fun k => if_pos ?c2) (Ev.bind (Ev.now _) (Ev.bind (Ev.now _) (Ev.bind (Words_ev na (by omega)) (Ev.congr (fun k => if_pos ?c3) (Ev.bind (Ev.now _) (Ev.bind (Words_ev nb (by omega)) (Ev.congr (fun k => if_pos ?c4) (Ev.bind (Ev.now _) (Ev.bind (Ev.now _) (Ev.bind (Depth_ev sa.2) (Ev.bind (Depth_ev sb.2) (Ev.bind Wab (Ev.bind T (Ev.congr (fun k => if_pos rfl) (Ev.bind WP (Ev.bind T (Ev.congr (fun k => if_pos rfl) (Ev.bind DP (Ev.congr (fun k => if_pos ?e1) (Ev.bind Dab (Ev.congr (fun k => if_pos ?e2) (Ev.bind MP (Ev.congr (fun k => ?fin) (Ev.now _)))))))))))))))))))))))))))
    case c1 => simp only [List.length_nil]; omega
    case c2 => simp only [List.nil_append]; omega
    case c3 => simp only [List.length_nil]; omega
    case c4 => simp only [List.nil_append]; omega
    case e1 => rw [mx_nat, wrap_small (by omega)]; omega
    case e2 => rw [mx_nat]
    case fin =>
      rw [mx_nat, mp]
      congr 1
      rw [beq_iff_eq, decide_eq_decide]
      omega
theorem TreeWraps : variorumlaw06_TreeWraps.Pure := by
  intro a b _ ha _ hb
  have sa := (nbk_sm (nbk_n a) (by omega)).2
  have sb := (nbk_sm (nbk_n b) (by omega)).2
  refine Ev.rounds (g := fun k => variorumlaw06_TreeWraps.f k a b) ?_
  unfold variorumlaw06_TreeWraps.f
  refine Ev.bind fixed_ev ?_
  simp only [if_true]
  refine Ev.bind (may_ev sa) ?_
  cases m1 : mayB a with
  | false =>
    simp only [Bool.false_eq_true, if_false]
    exact wraps_no a b
  | true =>
    simp only [if_true]
    refine Ev.bind (may_ev sb) ?_
    cases m2 : mayB b with
    | false => exact wraps_no a b
    | true => exact wraps_yes ha hb m1 m2
end Go.Proofs.Ytjppjlhhdfkloaa.Pure

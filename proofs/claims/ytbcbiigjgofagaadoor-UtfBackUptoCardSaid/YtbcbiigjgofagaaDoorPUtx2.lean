/- Written by a program of this session: functions of the given program as plain Lean functions, the walks that show it, and the row of each law, for every input that its statement speaks of. -/
import Derived.Test.YtbcbiigjgofagaaDoorPUtx0
import Derived.Test.YtbcbiigjgofagaaDoorPUtx1
namespace Go.Proofs.YtbcbiigjgofagaaDoor.PUt
open Go.RowKit Go.Proofs.YtbcbiigjgofagaaDoorW.PrintWords Go.Proofs.YtbcbiigjgofagaaDoorW.PrintLast Go.Proofs.YtbcbiigjgofagaaDoorW.PrintMore
attribute [local go_sem] max2_int min2_int max_two min_two max_three min_three max_four min_four   -- for this text's walks alone
set_option linter.unusedVariables false
set_option linter.unusedSimpArgs false

attribute [local go_sem high] eqA25
theorem utf_Decodeinfo : (Tryd.prog.info? 21).map (fun i => (i.zero, i.size, i.bytes)) = some (some (.int .i32 0), 1, 4) := by kernel_rfl
/-! ### the closure: function 20 -/
set_option maxHeartbeats 8000000 in
set_option maxRecDepth 100000 in
theorem utf_Decode.clo (w0 w : World) (gb : Nat) (a1 a2 : Int) (v : Value) (xs : List Int)
  (hb : w.heap[gb]? = some (.cells #[v] 22 (0, 0))) (hgb : w0.heap.size ≤ gb) (ho : Kd.R (Kd.int .i32) 21 w w0.heap.size (fun _ => True) v xs) (hB : Below w0.heap.size w0 w) (hl : xs.length < 17592186044416) :
  Calls Tryd.prog 20 #[.int .i64 a1, .int .i32 a2, .pointer (some ⟨gb, 0, none⟩)] w fun e w' => e = .returned (.tuple #[]) ∧ ∃ v', w'.heap[gb]? = some (.cells #[v'] 22 (0, 0)) ∧ Kd.R (Kd.int .i32) 21 w' w0.heap.size (fun _ => True) v' (xs ++ [a2]) ∧ Below w0.heap.size w0 w' := by
 have hu := Tryd.underlying22
 obtain ⟨A9, k9, e9⟩ := Kd.R_slice ho
 subst e9
 have BK := Aside0.mk hb
 have GE := Aside0.mk hgb
 have HO := Aside0.mk ho
 have HB := Aside0.mk hB
 have LM := Aside0.mk hl
 have hc0 : w.cell? ⟨gb, 0, none⟩ = some (.slice A9 xs.length k9) := (blk_cell hb 0).trans rfl
 have hf0 := blk_frozen hb 0
 clear hb hgb ho hB hl
 go_enter Tryd.func20, Tryd.ntmps20
 go_wp2_with (first | ((with_reducible refine gate_builtin (b := .append) (xs := #[.tmp 5, .tmp 7]) rfl ?_); at_builtin; refine Kd.R_append (Kd.int .i32) (w0 := w0) w0.heap.size rfl (.tmp 5) (.tmp 7) 22 21 (.int .i32 0) 4 rfl Tryd.underlying22 utf_Decodeinfo rfl (by decide) (by omega) (.slice A9 xs.length k9) xs a2 [.int .i32 a2] (fun _ => True) (fun _ => False) rfl rfl ?aP (fun _ hk => hk.elim) ?aF ?aO ?aB ?aS ?aL ?_; (case aP => exact rfl); (case aB => exact (by repeat (first | (with_reducible first | exact HB.out | apply below_alloc | apply pw_below_drewN | apply below_drew1) | exact HB.out))); (case aF => exact (fun _ _ => trivial)); (case aO => exact (by (with_reducible repeat (first | apply Kd.R_alloc | apply Kd.R_drewN | apply Kd.R_drew)); exact HO.out)); (case aS => exact (below_size (by repeat (first | (with_reducible first | exact HB.out | apply below_alloc | apply pw_below_drewN | apply below_drew1) | exact HB.out)))); (case aL => have := LM.out; omega); intro v1 w5 ho hb hg hat; have BK5 := Aside0.mk (blk_grown (g := gb) (o := .cells #[.slice A9 xs.length k9] 22 (0, 0)) (by (with_reducible repeat (first | refine blk_drewN ?_ _ | refine blk_drew ?_ | refine blk_alloc ?_ _)); exact BK.out) hg (Kd.R_ne HO.out BK.out (by decide))); have HO5 := Aside0.mk ho; have HB5 := Aside0.mk hb; clear ho hb hg hat; have hd0 : w5.cell? ⟨gb, 0, none⟩ = some (.slice A9 xs.length k9) := (blk_cell BK5.out 0).trans rfl; have hg0 := blk_frozen BK5.out 0; obtain ⟨A5, k5, e5⟩ := Kd.R_slice HO5.out; rw [List.length_append] at e5; subst e5))
 go_end0
 exact ⟨rfl, _, blk_put BK5.out 0 _ rfl, Kd.R_set HO5.out BK5.out (by decide) 0 _, Below.setCell HB5.out GE.out _⟩

/-! ### utf.walk with it: function 19 -/
def utf_Decode.l0 : Nat → ByteArray → List Int → Int → Option (List Int × Int)
 | 0, _, _, _ => none
 | k + 1, s, xs, at_ => if at_ < (s.size : Int) then (if 0 ≤ at_ then (if xs.length < 17592186044416 then (if ((Lib.decodeGo (s.extract at_.toNat s.size)).1 : Int) = 65533 then (if ((Lib.decodeGo (s.extract at_.toNat s.size)).2 : Int) = 1 then some (xs, at_) else utf_Decode.l0 k s (xs ++ [((Lib.decodeGo (s.extract at_.toNat s.size)).1 : Int)]) (wrap64 (at_ + ((Lib.decodeGo (s.extract at_.toNat s.size)).2 : Int)))) else utf_Decode.l0 k s (xs ++ [((Lib.decodeGo (s.extract at_.toNat s.size)).1 : Int)]) (wrap64 (at_ + ((Lib.decodeGo (s.extract at_.toNat s.size)).2 : Int)))) else none) else none) else some (xs, -1)
theorem utf_Decode.mono_l : ∀ k s xs i, LeO (utf_Decode.l0 k s xs i) (utf_Decode.l0 (k + 1) s xs i)
 | 0 => fun _ _ _ r h => by simp [utf_Decode.l0] at h
 | k + 1 => by
  intro s xs i
  have ih := utf_Decode.mono_l k
  unfold utf_Decode.l0
  exact LeO.ite (LeO.ite (LeO.ite (LeO.ite (LeO.ite (LeO.refl _) (ih _ _ _)) (ih _ _ _)) (LeO.refl _)) (LeO.refl _)) (LeO.refl _)
set_option maxHeartbeats 8000000 in
set_option maxRecDepth 100000 in
theorem utf_Decode.walk (k : Nat) (w0 w : World) (gb : Nat) (s : ByteArray) (v : Value) (xs r : List Int) (ri : Int) (hT : Lib.Utf8Tabs 0 1 w0)
  (hb : w.heap[gb]? = some (.cells #[v] 22 (0, 0))) (hgb : w0.heap.size ≤ gb) (ho : Kd.R (Kd.int .i32) 21 w w0.heap.size (fun _ => True) v xs) (hB : Below w0.heap.size w0 w) (h : utf_Decode.l0 k s xs 0 = some (r, ri)) :
  Calls Tryd.prog 19 #[.string s, .func (.func 20) #[] #[.pointer (some ⟨gb, 0, none⟩)]] w fun e w' => e = .returned (.int .i64 ri) ∧ ∃ v', w'.heap[gb]? = some (.cells #[v'] 22 (0, 0)) ∧ Kd.R (Kd.int .i32) 21 w' w0.heap.size (fun _ => True) v' r ∧ Below w0.heap.size w0 w' := by
 have BK := Aside0.mk hb
 have GE := Aside0.mk hgb
 have HO := Aside0.mk ho
 have HB := Aside0.mk hB
 have HT := Aside0.mk hT
 have H' := Aside0.mk h
 clear hb hgb ho hB hT h
 go_enter Tryd.func19, Tryd.ntmps19
 go_wp2
 go_loopg [5] k (fun kq v5 w' => ∃ (i : Int) (v : Value) (xs : List Int), v5 = .int .i64 i ∧ Aside0 (utf_Decode.l0 kq s xs i = some (r, ri)) ∧ Aside0 (kq ≤ k) ∧ Aside0 (w'.heap[gb]? = some (.cells #[v] 22 (0, 0))) ∧ Aside0 (Kd.R (Kd.int .i32) 21 w' w0.heap.size (fun _ => True) v xs) ∧ Aside0 (Below w0.heap.size w0 w'))
 case atStart => exact ⟨0, v, xs, rfl, H', ⟨Nat.le_refl _⟩, BK, HO, HB⟩
 case round =>
  clear H' BK HO HB
  obtain ⟨i, v, xs, rfl, HA, HK1, BK, HO, HB⟩ := hrel
  cases gk with
  | zero => exact absurd HA.out (by simp [utf_Decode.l0])
  | succ k1 =>
   have H := HA.out
   clear HA
   simp only [utf_Decode.l0] at H
   by_cases c5 : i < (s.size : Int)
   ·rw [if_pos c5] at H
    by_cases c6 : 0 ≤ i
    ·rw [if_pos c6] at H
     by_cases c7 : xs.length < 17592186044416
     ·rw [if_pos c7] at H
      have LM := Aside0.mk c7
      clear c7
      obtain ⟨C, hC⟩ : ∃ C : Int, C = ((Lib.decodeGo (s.extract i.toNat s.size)).1 : Int) := ⟨_, rfl⟩
      obtain ⟨W, hW⟩ : ∃ W : Int, W = ((Lib.decodeGo (s.extract i.toNat s.size)).2 : Int) := ⟨_, rfl⟩
      rw [← hC, ← hW] at H
      have hD : ∀ w1 : World, Below w0.heap.size w0 w1 → Calls Tryd.prog 26 #[.string (s.extract i.toNat s.size)] w1 fun e w' => e = .returned (.tuple #[.int .i32 C, .int .i64 W]) ∧ Below w1.heap.size w1 w' := by
       intro w1 hb1
       rw [hC, hW]
       exact Tryd.utf8_DecodeRuneInString _ w1 (Utf8Tabs_below HT.out hb1)
      have ND := Aside0.mk hD
      clear hD hC hW
      have c5b := decide_eq_true c5
      have c6c : decide (0 ≤ i) = true := decide_eq_true c6
      have c7a : i ≤ (s.size : Int) := by omega
      have c7b := decide_eq_true c7a
      replace c7a := eq_true c7a
      replace c6 := eq_true c6
      replace c5 := eq_true c5
      by_cases c8 : C = 65533
      ·rw [if_pos c8] at H
       by_cases c9 : W = 1
       ·rw [if_pos c9] at H
        simp only [Option.some.injEq, Prod.mk.injEq] at H
        obtain ⟨rfl, rfl⟩ := H
        have c8b : (C == 65533) = true := beq_iff_eq.mpr c8
        have c9b : (W == 1) = true := beq_iff_eq.mpr c9
        clear c8 c9
        go_wp2_with (go_at_call 26; refine (ND.out _ HB.out).mono ?_; rintro e w6 ⟨rfl, hb⟩; have BK6 := Aside0.mk (blk_below BK.out hb); have HO6 := Aside0.mk (Kd.R_below HO.out hb); have HB6 := Aside0.mk (below_then HB.out HB.out.size hb); clear hb)
        go_ret
        exact ⟨rfl, _, BK6.out, HO6.out, HB6.out⟩
       ·rw [if_neg c9] at H
        have H' := Aside0.mk H
        clear H
        have c8b : (C == 65533) = true := beq_iff_eq.mpr c8
        have c9b : (W == 1) = false := beq_eq_false_iff_ne.mpr c9
        clear c8 c9
        go_wp2_with (first
         | (go_at_call 26; refine (ND.out _ HB.out).mono ?_; rintro e w6 ⟨rfl, hb⟩; have BK6 := Aside0.mk (blk_below BK.out hb); have HO6 := Aside0.mk (Kd.R_below HO.out hb); have HB6 := Aside0.mk (below_then HB.out HB.out.size hb); clear hb)
         | (go_at_call 20; refine (utf_Decode.clo w0 _ gb i C v xs BK6.out GE.out HO6.out HB6.out LM.out).mono ?_; rintro e w7 ⟨rfl, v7, hb, ho, hB⟩; have BK7 := Aside0.mk hb; have HO7 := Aside0.mk ho; have HB7 := Aside0.mk hB; clear hb ho hB))
        go_roundg k1
        case measure => omega
        case rel => exact ⟨_, v7, _, rfl, H', ⟨by have := HK1.out; omega⟩, BK7, HO7, HB7⟩
      ·rw [if_neg c8] at H
       have H' := Aside0.mk H
       clear H
       have c8b : (C == 65533) = false := beq_eq_false_iff_ne.mpr c8
       clear c8
       go_wp2_with (first
        | (go_at_call 26; refine (ND.out _ HB.out).mono ?_; rintro e w6 ⟨rfl, hb⟩; have BK6 := Aside0.mk (blk_below BK.out hb); have HO6 := Aside0.mk (Kd.R_below HO.out hb); have HB6 := Aside0.mk (below_then HB.out HB.out.size hb); clear hb)
        | (go_at_call 20; refine (utf_Decode.clo w0 _ gb i C v xs BK6.out GE.out HO6.out HB6.out LM.out).mono ?_; rintro e w7 ⟨rfl, v7, hb, ho, hB⟩; have BK7 := Aside0.mk hb; have HO7 := Aside0.mk ho; have HB7 := Aside0.mk hB; clear hb ho hB))
       go_roundg k1
       case measure => omega
       case rel => exact ⟨_, v7, _, rfl, H', ⟨by have := HK1.out; omega⟩, BK7, HO7, HB7⟩
     ·rw [if_neg c7] at H
      exact absurd H (by simp)
    ·rw [if_neg c6] at H
     exact absurd H (by simp)
   ·rw [if_neg c5] at H
    simp only [Option.some.injEq, Prod.mk.injEq] at H
    obtain ⟨rfl, rfl⟩ := H
    have c5b := decide_eq_false c5
    replace c5 := eq_false c5
    go_wp2
    go_ret
    exact ⟨rfl, _, BK.out, HO.out, HB.out⟩

/-! ### utf_Decode: function 8 -/
def utf_Decode.f (k : Nat) (a0 : ByteArray) : Option (List Int × Int × Int) := (utf_Decode.l0 k a0 [] 0).bind fun b => if b.2 ≥ 0 then some ([], 40, b.2) else some (b.1, 0, 0)
theorem utf_Decode.mono : ∀ a0 k, LeO (utf_Decode.f k a0) (utf_Decode.f (k + 1) a0) := by
 intro a0 k
 unfold utf_Decode.f
 exact LeO.bind (utf_Decode.mono_l _ _ _ _) (fun _ => LeO.refl _)
set_option maxHeartbeats 8000000 in
set_option maxRecDepth 100000 in
theorem utf_Decode.calls (k : Nat) (a0 : ByteArray) (r1 : List Int) (r2 : Int) (r3 : Int) (w : World) (hT : Lib.Utf8Tabs 0 1 w) (h : utf_Decode.f k a0 = some (r1, r2, r3)) :
  Calls Tryd.prog 8 #[.string a0] w fun e w' => ∃ v0_ : Value, e = .returned (.tuple #[v0_, .agg #[.int .i64 r2, .int .i64 r3]]) ∧ Kd.R (Kd.int .i32) 21 w' w.heap.size (fun _ => True) v0_ r1 ∧ Below w.heap.size w w' := by
 have hu22 := Tryd.underlying22
 have hu25 := Tryd.underlying25
 have hmf : ∀ (fn : Fn) (first cap : Array Value) (w : World), (Instr.makeFunc fn first cap).run Tryd.prog w = .ok (.func fn first cap) w := fun _ _ _ _ => rfl
 have HT := Aside0.mk hT
 obtain ⟨⟨xs, p⟩, A20, H⟩ := Option.bind_eq_some_iff.mp (show ((utf_Decode.l0 k a0 [] 0).bind fun b => if b.2 ≥ 0 then some (([] : List Int), (40 : Int), b.2) else some (b.1, 0, 0)) = some (r1, r2, r3) from h)
 replace H : (if p ≥ 0 then some (([] : List Int), (40 : Int), p) else some (xs, 0, 0)) = some (r1, r2, r3) := H
 have A2 := Aside0.mk A20
 clear A20 hT h
 by_cases c3 : p ≥ 0
 ·rw [if_pos c3] at H
  have c3b : decide (0 ≤ p) = true := decide_eq_true c3
  clear c3
  simp only [Option.some.injEq, Prod.mk.injEq] at H
  obtain ⟨rfl, rfl, rfl⟩ := H
  go_enter Tryd.func8, Tryd.ntmps8
  go_wp2_with (first | ((with_reducible refine gate_dst (N := 3) rfl ?_); refine box_event ?hg (N := 3) ?hd (cs := #[.int .i64 0, .int .i64 0]) (t := 25) ?hr ?_; (case hd => rfl); (case hg => rfl); (case hr => first | (go_simp; done) | (go_simp; rfl)); intro g3 hg w1 hbox hb; have B1 := Aside0.mk hb; have R1 := Aside0.mk hbox; have G3 := Aside0.mk (show w.heap.size ≤ g3 by rw [hg]; exact Nat.le_refl _); clear hb hbox hg) | ((with_reducible refine gate_dst (N := 4) rfl ?_); refine box_event ?hg (N := 4) ?hd (cs := #[.slice none 0 0]) (t := 22) ?hr ?_; (case hd => rfl); (case hg => rfl); (case hr => first | (go_simp; done) | (go_simp; rfl)); intro g4 hg w2 hbox hb; have B2 := Aside0.mk (below_then B1.out B1.out.size hb); have R2 := Aside0.mk (blk_below R1.out hb); have K2 := Aside0.mk hbox; have G4 := Aside0.mk (show w1.heap.size ≤ g4 by rw [hg]; exact Nat.le_refl _); have B3 := Aside0.mk hb; clear hb hbox hg) | (go_at_call 19; refine (utf_Decode.walk k w1 _ g4 a0 (.slice none 0 0) [] xs p (Utf8Tabs_below HT.out B1.out) K2.out G4.out (Kd.R_nil _ _ _ _ _) B3.out A2.out).mono ?_; rintro e w6 ⟨rfl, v6, hb, ho, hB⟩; have HO := Aside0.mk ho; have BR := Aside0.mk (blk_below R1.out hB); have HB := Aside0.mk (below_then B1.out B1.out.size hB); have hk0 : w6.cell? ⟨g4, 0, none⟩ = some v6 := (blk_cell hb 0).trans rfl; have hk1 := blk_frozen hb 0; have hz0 : w6.cell? ⟨g3, 0, none⟩ = some (.int .i64 0) := (blk_cell BR.out 0).trans rfl; have hf0 := blk_frozen BR.out 0; have hz1 : w6.cell? ⟨g3, 1, none⟩ = some (.int .i64 0) := (blk_cell BR.out 1).trans rfl; have hf1 := blk_frozen BR.out 1; clear hb ho hB))
  refine bodyPost_ret (results_tc rfl _ _ g3 25 #[.int .i64 40, .int .i64 p] (0, 0) _ rfl (blk_put (cs := #[.int .i64 40, .int .i64 0]) (blk_put BR.out 0 _ rfl) 1 _ rfl) Tryd.underlying25 rfl (by kernel_rfl)) rfl ?_
  exact ⟨_, rfl, Kd.R_nil _ _ _ _ _, Below.setCell (Below.setCell HB.out G3.out _) G3.out _⟩
 ·rw [if_neg c3] at H
  have c3b : decide (0 ≤ p) = false := decide_eq_false c3
  clear c3
  simp only [Option.some.injEq, Prod.mk.injEq] at H
  obtain ⟨rfl, rfl, rfl⟩ := H
  go_enter Tryd.func8, Tryd.ntmps8
  go_wp2_with (first | ((with_reducible refine gate_dst (N := 3) rfl ?_); refine box_event ?hg (N := 3) ?hd (cs := #[.int .i64 0, .int .i64 0]) (t := 25) ?hr ?_; (case hd => rfl); (case hg => rfl); (case hr => first | (go_simp; done) | (go_simp; rfl)); intro g3 hg w1 hbox hb; have B1 := Aside0.mk hb; have R1 := Aside0.mk hbox; have G3 := Aside0.mk (show w.heap.size ≤ g3 by rw [hg]; exact Nat.le_refl _); clear hb hbox hg) | ((with_reducible refine gate_dst (N := 4) rfl ?_); refine box_event ?hg (N := 4) ?hd (cs := #[.slice none 0 0]) (t := 22) ?hr ?_; (case hd => rfl); (case hg => rfl); (case hr => first | (go_simp; done) | (go_simp; rfl)); intro g4 hg w2 hbox hb; have B2 := Aside0.mk (below_then B1.out B1.out.size hb); have R2 := Aside0.mk (blk_below R1.out hb); have K2 := Aside0.mk hbox; have G4 := Aside0.mk (show w1.heap.size ≤ g4 by rw [hg]; exact Nat.le_refl _); have B3 := Aside0.mk hb; clear hb hbox hg) | (go_at_call 19; refine (utf_Decode.walk k w1 _ g4 a0 (.slice none 0 0) [] xs p (Utf8Tabs_below HT.out B1.out) K2.out G4.out (Kd.R_nil _ _ _ _ _) B3.out A2.out).mono ?_; rintro e w6 ⟨rfl, v6, hb, ho, hB⟩; have HO := Aside0.mk ho; have BR := Aside0.mk (blk_below R1.out hB); have HB := Aside0.mk (below_then B1.out B1.out.size hB); have hk0 : w6.cell? ⟨g4, 0, none⟩ = some v6 := (blk_cell hb 0).trans rfl; have hk1 := blk_frozen hb 0; have hz0 : w6.cell? ⟨g3, 0, none⟩ = some (.int .i64 0) := (blk_cell BR.out 0).trans rfl; have hf0 := blk_frozen BR.out 0; have hz1 : w6.cell? ⟨g3, 1, none⟩ = some (.int .i64 0) := (blk_cell BR.out 1).trans rfl; have hf1 := blk_frozen BR.out 1; clear hb ho hB))
  refine bodyPost_ret (results_tc rfl _ _ g3 25 #[.int .i64 0, .int .i64 0] (0, 0) _ rfl (blk_put (cs := #[.int .i64 0, .int .i64 0]) (blk_put BR.out 0 _ rfl) 1 _ rfl) Tryd.underlying25 rfl (by kernel_rfl)) rfl ?_
  exact ⟨_, rfl, Kd.R_lower (Kd.R_set (Kd.R_set HO.out BR.out (by decide) 0 _) (blk_put (cs' := #[.int .i64 0, .int .i64 0]) BR.out 0 _ rfl) (by decide) 1 _) B1.out.size, Below.setCell (Below.setCell HB.out G3.out _) G3.out _⟩


/-! ### variorumref04_Runes: function 13 -/
def variorumref04_Runes.l0 : Nat → List Int → List Int → Int → Option (Bool)
 | 0, _, _, _ => none
 | k + 1, x0, x1, x5 => if x5 < (x0.length : Int) then (if 0 ≤ x5 then (if x5 < (x1.length : Int) then (if (rd x0 x5) = (rd x1 x5) then (variorumref04_Runes.l0 k x0 x1 (wrap64 (x5 + 1))) else (some false)) else (none)) else (none)) else (some true)
def variorumref04_Runes.f (k : Nat) (l0 : List Int) (l1 : List Int) : Option (Bool) := if (l0.length : Int) = (l1.length : Int) then (variorumref04_Runes.l0 k l0 l1 0) else (some false)
theorem variorumref04_Runes.mono_l : ∀ k, (∀ y0 y1 y2, LeO (variorumref04_Runes.l0 k y0 y1 y2) (variorumref04_Runes.l0 (k + 1) y0 y1 y2))
 | 0 => fun _ _ _ r h => by simp [variorumref04_Runes.l0] at h
 | k + 1 => by
  have ih0 := variorumref04_Runes.mono_l k
  ·intro y0 y1 y2
   unfold variorumref04_Runes.l0
   repeat' first
   | (with_reducible exact ih0 _ _ _)
   | (with_reducible exact LeO.refl _)
   | (with_reducible exact LeO.none _)
   | (with_reducible refine LeO.ite ?_ ?_)
   | (with_reducible refine LeO.bind ?_ (fun _ => ?_))
   | exact ih0 _ _ _
   | exact LeO.none _
   | refine LeO.ite ?_ ?_
   | refine LeO.bind ?_ (fun _ => ?_)
theorem variorumref04_Runes.mono : ∀ a0 a1 k, LeO (variorumref04_Runes.f k a0 a1) (variorumref04_Runes.f (k + 1) a0 a1) := by
 intro a0 a1 k
 have ih0 := variorumref04_Runes.mono_l k
 unfold variorumref04_Runes.f
 repeat' first
   | (with_reducible exact ih0 _ _ _)
   | (with_reducible exact LeO.refl _)
   | (with_reducible exact LeO.none _)
   | (with_reducible refine LeO.ite ?_ ?_)
   | (with_reducible refine LeO.bind ?_ (fun _ => ?_))
   | exact ih0 _ _ _
   | exact LeO.none _
   | refine LeO.ite ?_ ?_
   | refine LeO.bind ?_ (fun _ => ?_)
set_option maxHeartbeats 8000000 in
set_option maxRecDepth 100000 in
theorem variorumref04_Runes.calls (k : Nat) (A0 : Option Addr) (c0 : Nat) (l0 : List Int) (A1 : Option Addr) (c1 : Nat) (l1 : List Int) (r : Bool) (w : World) (hr0 : Kd.C (Kd.int .i32) w A0 l0.length l0) (hc0 : l0.length ≤ c0) (hr1 : Kd.C (Kd.int .i32) w A1 l1.length l1) (hc1 : l1.length ≤ c1) (h : variorumref04_Runes.f k l0 l1 = some r) :
  Calls Tryd.prog 13 #[.slice A0 l0.length c0, .slice A1 l1.length c1] w fun e w' => e = .returned (.bool r) ∧ Drawn0 w w' := by
 have HR0 := Aside0.mk hr0
 have HC0 := Aside0.mk hc0
 clear hr0 hc0
 have HR1 := Aside0.mk hr1
 have HC1 := Aside0.mk hc1
 clear hr1 hc1
 have H : (if (l0.length : Int) = (l1.length : Int) then (variorumref04_Runes.l0 k l0 l1 0) else (some false)) = some r := h
 clear h
 by_cases c3 : (l0.length : Int) = (l1.length : Int)
 ·rw [if_pos c3] at H
  have c3b0 : ((l0.length : Int) == (l1.length : Int)) = true := beq_iff_eq.mpr c3
  have c3b1 : ((l0.length : Int) != (l1.length : Int)) = false := bne_eq_false_iff_eq.mpr c3
  have c3b2 : (l0.length == l1.length) = true := by first | simpa using c3 | (simp at c3 ⊢; omega)
  clear c3
  have H' := Aside0.mk H
  clear H
  go_enter Tryd.func13, Tryd.ntmps13
  go_wp2
  repeat (go_quiet (fail); try go_wp2)
  go_loopg [5] k (fun kq v5 w' => ∃ (x5_1 : Int), v5 = .int .i64 x5_1 ∧ Aside0 (variorumref04_Runes.l0 kq l0 l1 x5_1 = some r) ∧ Aside0 (kq ≤ k) ∧ Drawn0 w w')
  case atStart => exact ⟨(0), (by first | rfl | (simp; done) | (simp [*]; done)), H', ⟨Nat.le_refl _⟩, by repeat (first | exact Drawn0.refl _ | apply Drawn0.step)⟩
  case round =>
   clear H'
   try clear c1
   try clear p2
   try clear c3
   try clear c3b0
   try clear c3b1
   try clear c3b2
   obtain ⟨x5_1, rfl, HA, HK1, ⟨m1, rfl⟩⟩ := hrel
   cases gk with
   | zero => exact absurd HA.out (by simp [variorumref04_Runes.l0])
   | succ k1 =>
    have H := HA.out
    clear HA
    simp only [variorumref04_Runes.l0] at H
    by_cases c4 : x5_1 < (l0.length : Int)
    ·rw [if_pos c4] at H
     have c4b0 : decide (x5_1 < (l0.length : Int)) = true := decide_eq_true c4
     clear c4
     by_cases c5 : 0 ≤ x5_1
     ·rw [if_pos c5] at H
      have c5b0 : decide (0 ≤ x5_1) = true := decide_eq_true c5
      clear c5
      by_cases c6 : x5_1 < (l1.length : Int)
      ·rw [if_pos c6] at H
       have c6b0 : decide (x5_1 < (l1.length : Int)) = true := decide_eq_true c6
       clear c6
       by_cases c7 : (rd l0 x5_1) = (rd l1 x5_1)
       ·rw [if_pos c7] at H
        have c7b0 : ((rd l0 x5_1) == (rd l1 x5_1)) = true := beq_iff_eq.mpr c7
        have c7b1 : ((rd l0 x5_1) != (rd l1 x5_1)) = false := bne_eq_false_iff_eq.mpr c7
        clear c7
        have H' := Aside0.mk H
        clear H
        have p101 : 0 ≤ (x5_1 : Int) := of_decide_eq_true (by first | (with_reducible assumption) | assumption)
        have q101 : x5_1 < (l0.length : Int) := of_decide_eq_true (by first | (with_reducible assumption) | assumption)
        obtain ⟨ad101, e101, hx101_0⟩ := Kd.at_int HR0.out x5_1 p101 q101
        cases e101
        replace p101 := eq_true p101
        replace q101 := eq_true q101
        have p102 : 0 ≤ (x5_1 : Int) := of_decide_eq_true (by first | (with_reducible assumption) | assumption)
        have q102 : x5_1 < (l1.length : Int) := of_decide_eq_true (by first | (with_reducible assumption) | assumption)
        obtain ⟨ad102, e102, hx102_0⟩ := Kd.at_int HR1.out x5_1 p102 q102
        cases e102
        replace p102 := eq_true p102
        replace q102 := eq_true q102
        go_wp2
        repeat (go_quiet (fail); try go_wp2)
        go_roundg k1
        case measure => have := HK1.out; omega
        case rel => exact ⟨(wrap64 (x5_1 + 1)), (by first | rfl | (simp; done) | (simp [*]; done)), H', ⟨by have := HK1.out; omega⟩, by repeat (first | exact Drawn0.refl _ | apply Drawn0.step)⟩
       ·rw [if_neg c7] at H
        have c7b0 : ((rd l0 x5_1) == (rd l1 x5_1)) = false := beq_eq_false_iff_ne.mpr c7
        have c7b1 : ((rd l0 x5_1) != (rd l1 x5_1)) = true := bne_iff_ne.mpr c7
        obtain rfl := Option.some.inj H
        have p101 : 0 ≤ (x5_1 : Int) := of_decide_eq_true (by first | (with_reducible assumption) | assumption)
        have q101 : x5_1 < (l0.length : Int) := of_decide_eq_true (by first | (with_reducible assumption) | assumption)
        obtain ⟨ad101, e101, hx101_0⟩ := Kd.at_int HR0.out x5_1 p101 q101
        cases e101
        replace p101 := eq_true p101
        replace q101 := eq_true q101
        have p102 : 0 ≤ (x5_1 : Int) := of_decide_eq_true (by first | (with_reducible assumption) | assumption)
        have q102 : x5_1 < (l1.length : Int) := of_decide_eq_true (by first | (with_reducible assumption) | assumption)
        obtain ⟨ad102, e102, hx102_0⟩ := Kd.at_int HR1.out x5_1 p102 q102
        cases e102
        replace p102 := eq_true p102
        replace q102 := eq_true q102
        go_wp2
        repeat (go_quiet (fail); try go_wp2)
        go_ret
        exact ⟨by first | rfl | (simp; done) | (simp [*]; done), by repeat (first | exact Drawn0.refl _ | apply Drawn0.step)⟩
      ·rw [if_neg c6] at H
       exact absurd H (by simp)
     ·rw [if_neg c5] at H
      exact absurd H (by simp)
    ·rw [if_neg c4] at H
     have c4b0 : decide (x5_1 < (l0.length : Int)) = false := decide_eq_false c4
     clear c4
     obtain rfl := Option.some.inj H
     go_wp2
     repeat (go_quiet (fail); try go_wp2)
     go_ret
     exact ⟨by first | rfl | (simp; done) | (simp [*]; done), by repeat (first | exact Drawn0.refl _ | apply Drawn0.step)⟩
 ·rw [if_neg c3] at H
  have c3b0 : ((l0.length : Int) == (l1.length : Int)) = false := beq_eq_false_iff_ne.mpr c3
  have c3b1 : ((l0.length : Int) != (l1.length : Int)) = true := bne_iff_ne.mpr c3
  have c3b2 : (l0.length == l1.length) = false := by first | simpa using c3 | (simp at c3 ⊢; omega)
  obtain rfl := Option.some.inj H
  go_enter Tryd.func13, Tryd.ntmps13
  go_wp2
  repeat (go_quiet (fail); try go_wp2)
  go_ret
  exact ⟨by first | rfl | (simp; done) | (simp [*]; done), by repeat (first | exact Drawn0.refl _ | apply Drawn0.step)⟩

/-! ### utf8_ValidRune: function 25 -/
def utf8_ValidRune.j0 : Nat → Int → Bool → Option (Bool)
 | 0, _, _ => none
 | k + 1, x0, x3 => if x3 = true then (some true) else (if 57343 < x0 then (if x0 ≤ 1114111 then (some true) else (some false)) else (some false))
def utf8_ValidRune.f (k : Nat) (a0 : Int) : Option (Bool) := if 0 ≤ a0 then (utf8_ValidRune.j0 k a0 (decide (a0 < 55296))) else (utf8_ValidRune.j0 k a0 false)
theorem utf8_ValidRune.mono_l : ∀ k, (∀ y0 y1, LeO (utf8_ValidRune.j0 k y0 y1) (utf8_ValidRune.j0 (k + 1) y0 y1))
 | 0 => fun _ _ r h => by simp [utf8_ValidRune.j0] at h
 | k + 1 => by
  have ih0 := utf8_ValidRune.mono_l k
  ·intro y0 y1
   unfold utf8_ValidRune.j0
   repeat' first
   | (with_reducible exact ih0 _ _)
   | (with_reducible exact LeO.refl _)
   | (with_reducible exact LeO.none _)
   | (with_reducible refine LeO.ite ?_ ?_)
   | (with_reducible refine LeO.bind ?_ (fun _ => ?_))
   | exact ih0 _ _
   | exact LeO.none _
   | refine LeO.ite ?_ ?_
   | refine LeO.bind ?_ (fun _ => ?_)
theorem utf8_ValidRune.mono : ∀ a0 k, LeO (utf8_ValidRune.f k a0) (utf8_ValidRune.f (k + 1) a0) := by
 intro a0 k
 have ih0 := utf8_ValidRune.mono_l k
 unfold utf8_ValidRune.f
 repeat' first
   | (with_reducible exact ih0 _ _)
   | (with_reducible exact LeO.refl _)
   | (with_reducible exact LeO.none _)
   | (with_reducible refine LeO.ite ?_ ?_)
   | (with_reducible refine LeO.bind ?_ (fun _ => ?_))
   | exact ih0 _ _
   | exact LeO.none _
   | refine LeO.ite ?_ ?_
   | refine LeO.bind ?_ (fun _ => ?_)
set_option maxHeartbeats 8000000 in
set_option maxRecDepth 100000 in
theorem utf8_ValidRune.calls (k : Nat) (a0 : Int) (r : Bool) (w : World) (h : utf8_ValidRune.f k a0 = some r) :
  Calls Tryd.prog 25 #[.int .i32 a0] w fun e w' => e = .returned (.bool r) ∧ Drawn0 w w' := by
 have H : (if 0 ≤ a0 then (utf8_ValidRune.j0 k a0 (decide (a0 < 55296))) else (utf8_ValidRune.j0 k a0 false)) = some r := h
 clear h
 have HC2 := Aside0.mk H
 clear H
 go_enter Tryd.func25, Tryd.ntmps25
 go_upto_region 1 with (fail)
 go_cut [3] (fun v3 wc => ∃ (kq : Nat) (x3_1 : Bool), v3 = .bool x3_1 ∧ Aside0 (utf8_ValidRune.j0 kq a0 x3_1 = some r) ∧ Aside0 (kq ≤ k) ∧ Drawn0 w wc)
 case first =>
  have H := HC2.out
  clear HC2
  by_cases c3 : 0 ≤ a0
  ·rw [if_pos c3] at H
   have c3b0 : decide (0 ≤ a0) = true := decide_eq_true c3
   clear c3
   (first | rw [c3b0] | (simp only [i64_w, i32_w]; rw [c3b0]) | skip)
   have H' := Aside0.mk H
   clear H
   go_wp2
   go_meet
   case rel => exact ⟨_, (decide (a0 < 55296)), (by first | rfl | (simp; done) | (simp [*]; done)), H', ⟨by first | omega | exact Nat.le_refl _⟩, by repeat (first | exact Drawn0.refl _ | apply Drawn0.step)⟩
  ·rw [if_neg c3] at H
   have c3b0 : decide (0 ≤ a0) = false := decide_eq_false c3
   clear c3
   (first | rw [c3b0] | (simp only [i64_w, i32_w]; rw [c3b0]) | skip)
   have H' := Aside0.mk H
   clear H
   go_wp2
   go_meet
   case rel => exact ⟨_, (false), (by first | rfl | (simp; done) | (simp [*]; done)), H', ⟨by first | omega | exact Nat.le_refl _⟩, by repeat (first | exact Drawn0.refl _ | apply Drawn0.step)⟩
 case rest =>
  clear HC2
  try clear c2
  try clear p2
  try clear c3
  try clear c3b0
  obtain ⟨kq, x3_1, rfl, HA, HJ1, ⟨mc1, rfl⟩⟩ := hcut
  cases kq with
  | zero => exact absurd HA.out (by simp [utf8_ValidRune.j0])
  | succ kj1 =>
   have H := HA.out
   clear HA
   simp only [utf8_ValidRune.j0] at H
   by_cases c4 : x3_1 = true
   ·subst c4
    have H1 : (some true) = some r := by rw [if_pos rfl] at H; exact H
    clear H
    have H := H1
    clear H1
    obtain rfl := Option.some.inj H
    go_wp2
    go_ret
    exact ⟨by first | rfl | (simp; done) | (simp [*]; done), by repeat (first | exact Drawn0.refl _ | apply Drawn0.step)⟩
   ·replace c4 := Bool.eq_false_iff.mpr c4
    subst c4
    have H1 : (if 57343 < a0 then (if a0 ≤ 1114111 then (some true) else (some false)) else (some false)) = some r := by rw [if_neg (show ¬ (false = true) by decide)] at H; exact H
    clear H
    have H := H1
    clear H1
    by_cases c5 : 57343 < a0
    ·rw [if_pos c5] at H
     have c5b0 : decide (57343 < a0) = true := decide_eq_true c5
     clear c5
     by_cases c6 : a0 ≤ 1114111
     ·rw [if_pos c6] at H
      have c6b0 : decide (a0 ≤ 1114111) = true := decide_eq_true c6
      clear c6
      obtain rfl := Option.some.inj H
      go_wp2
      go_ret
      exact ⟨by first | rfl | (simp; done) | (simp [*]; done), by repeat (first | exact Drawn0.refl _ | apply Drawn0.step)⟩
     ·rw [if_neg c6] at H
      have c6b0 : decide (a0 ≤ 1114111) = false := decide_eq_false c6
      clear c6
      obtain rfl := Option.some.inj H
      go_wp2
      go_ret
      exact ⟨by first | rfl | (simp; done) | (simp [*]; done), by repeat (first | exact Drawn0.refl _ | apply Drawn0.step)⟩
    ·rw [if_neg c5] at H
     have c5b0 : decide (57343 < a0) = false := decide_eq_false c5
     clear c5
     obtain rfl := Option.some.inj H
     go_wp2
     go_ret
     exact ⟨by first | rfl | (simp; done) | (simp [*]; done), by repeat (first | exact Drawn0.refl _ | apply Drawn0.step)⟩

/-! ### utf_Letter: function 17 -/
def utf_Letter.f (k : Nat) (a0 : Int) : Option (Bool) := (utf8_ValidRune.f k a0).bind fun t103 => (some t103)
theorem utf_Letter.mono : ∀ a0 k, LeO (utf_Letter.f k a0) (utf_Letter.f (k + 1) a0) := by
 intro a0 k
 unfold utf_Letter.f
 repeat' first
   | (with_reducible exact utf8_ValidRune.mono _ _)
   | (with_reducible exact LeO.refl _)
   | (with_reducible exact LeO.none _)
   | (with_reducible refine LeO.ite ?_ ?_)
   | (with_reducible refine LeO.bind ?_ (fun _ => ?_))
   | exact utf8_ValidRune.mono _ _
   | exact LeO.none _
   | refine LeO.ite ?_ ?_
   | refine LeO.bind ?_ (fun _ => ?_)
set_option maxHeartbeats 8000000 in
set_option maxRecDepth 100000 in
theorem utf_Letter.calls (k : Nat) (a0 : Int) (r : Bool) (w : World) (h : utf_Letter.f k a0 = some r) :
  Calls Tryd.prog 17 #[.int .i32 a0] w fun e w' => e = .returned (.bool r) ∧ Drawn0 w w' := by
 have H : ((utf8_ValidRune.f k a0).bind fun t103 => (some t103)) = some r := h
 clear h
 replace H := Option.bind_eq_some_iff.mp H
 obtain ⟨t103, A20, H⟩ := H
 replace H : (some t103) = some r := H
 have A2 := Aside0.mk A20
 clear A20
 obtain rfl := Option.some.inj H
 go_enter Tryd.func17, Tryd.ntmps17
 go_wp2_with (first | ((with_reducible refine gate_callee (f := 25) rfl ?_); refine goesL_ (some 4) rfl rfl Tryd.func25 (by kernel_rfl) rfl #[.int .i32 a0] rfl (by (try simp only [List.map_toArray, List.map_cons, List.map_nil]); first | done | rfl | (simp only [List.length_drop, List.length_take]; rfl) | (simp only [*]; first | done | rfl)) ?_; (with_reducible refine (utf8_ValidRune.calls k a0 t103 _ A2.out).mono ?_); rintro e w' ⟨rfl, ⟨nd, rfl⟩⟩; refine ⟨_, rfl, ?_⟩))
 go_ret
 exact ⟨by first | rfl | (simp; done) | (simp [*]; done), by repeat (first | exact Drawn0.refl _ | apply Drawn0.step)⟩

/-! ### variorumlaw04_fixed: function 9 -/
def variorumlaw04_fixed.f (k : Nat)  : Option (Bool) := (utf_Decode.f k (⟨#[228]⟩ : ByteArray)).bind fun bt104 => ((utf_Decode.f k (⟨#[195, 164]⟩ : ByteArray)).bind fun bt110 => ((utf_Decode.f k (⟨#[192, 128]⟩ : ByteArray)).bind fun bt116 => ((utf_Decode.f k (⟨#[97, 237, 160, 128]⟩ : ByteArray)).bind fun bt122 => (if (bt104.2.1 == 40 && (bt104.2.2 == 0)) = true then (if (bt110.2.1 == 0 && (bt110.2.2 == 0)) = true then ((variorumref04_Runes.f k bt110.1 (([228] : List Int))).bind fun t132 => (if t132 = true then (if (bt116.2.1 == 40 && (bt116.2.2 == 0)) = true then (if (bt122.2.1 == 40 && (bt122.2.2 == 1)) = true then ((utf_Letter.f k 1114111).bind fun t133 => (if t133 = true then ((utf_Letter.f k 55296).bind fun t134 => (some (!t134))) else (none))) else (none)) else (none)) else (none))) else (none)) else (none)))))
theorem variorumlaw04_fixed.mono : ∀ k, LeO (variorumlaw04_fixed.f k ) (variorumlaw04_fixed.f (k + 1) ) := by
 intro  k
 unfold variorumlaw04_fixed.f
 repeat' first
   | (with_reducible exact utf_Decode.mono _ _)
   | (with_reducible exact utf_Letter.mono _ _)
   | (with_reducible exact variorumref04_Runes.mono _ _ _)
   | (with_reducible exact LeO.refl _)
   | (with_reducible exact LeO.none _)
   | (with_reducible refine LeO.ite ?_ ?_)
   | (with_reducible refine LeO.bind ?_ (fun _ => ?_))
   | exact utf_Decode.mono _ _
   | exact utf_Letter.mono _ _
   | exact variorumref04_Runes.mono _ _ _
   | exact LeO.none _
   | refine LeO.ite ?_ ?_
   | refine LeO.bind ?_ (fun _ => ?_)
set_option maxHeartbeats 8000000 in
set_option maxRecDepth 100000 in
theorem variorumlaw04_fixed.calls (k : Nat)  (r : Bool) (w : World) (hT : Lib.Utf8Tabs 0 1 w) (h : variorumlaw04_fixed.f k  = some r) :
  Calls Tryd.prog 9 #[] w fun e w' => e = .returned (.bool r) ∧ Below w.heap.size w w' := by
 have HT := Aside0.mk hT
 clear hT
 have hu25 := Tryd.underlying25
 have HB := Aside0.mk (Below.refl w.heap.size w)
 have H : ((utf_Decode.f k (⟨#[228]⟩ : ByteArray)).bind fun bt104 => ((utf_Decode.f k (⟨#[195, 164]⟩ : ByteArray)).bind fun bt110 => ((utf_Decode.f k (⟨#[192, 128]⟩ : ByteArray)).bind fun bt116 => ((utf_Decode.f k (⟨#[97, 237, 160, 128]⟩ : ByteArray)).bind fun bt122 => (if (bt104.2.1 == 40 && (bt104.2.2 == 0)) = true then (if (bt110.2.1 == 0 && (bt110.2.2 == 0)) = true then ((variorumref04_Runes.f k bt110.1 (([228] : List Int))).bind fun t132 => (if t132 = true then (if (bt116.2.1 == 40 && (bt116.2.2 == 0)) = true then (if (bt122.2.1 == 40 && (bt122.2.2 == 1)) = true then ((utf_Letter.f k 1114111).bind fun t133 => (if t133 = true then ((utf_Letter.f k 55296).bind fun t134 => (some (!t134))) else (none))) else (none)) else (none)) else (none))) else (none)) else (none)))))) = some r := h
 clear h
 replace H := Option.bind_eq_some_iff.mp H
 obtain ⟨⟨t104, t107, t108⟩, A10, H⟩ := H
 replace H : ((utf_Decode.f k (⟨#[195, 164]⟩ : ByteArray)).bind fun bt110 => ((utf_Decode.f k (⟨#[192, 128]⟩ : ByteArray)).bind fun bt116 => ((utf_Decode.f k (⟨#[97, 237, 160, 128]⟩ : ByteArray)).bind fun bt122 => (if (t107 == 40 && (t108 == 0)) = true then (if (bt110.2.1 == 0 && (bt110.2.2 == 0)) = true then ((variorumref04_Runes.f k bt110.1 (([228] : List Int))).bind fun t132 => (if t132 = true then (if (bt116.2.1 == 40 && (bt116.2.2 == 0)) = true then (if (bt122.2.1 == 40 && (bt122.2.2 == 1)) = true then ((utf_Letter.f k 1114111).bind fun t133 => (if t133 = true then ((utf_Letter.f k 55296).bind fun t134 => (some (!t134))) else (none))) else (none)) else (none)) else (none))) else (none)) else (none))))) = some r := H
 have A1 := Aside0.mk A10
 clear A10
 replace H := Option.bind_eq_some_iff.mp H
 obtain ⟨⟨t110, t113, t114⟩, A20, H⟩ := H
 replace H : ((utf_Decode.f k (⟨#[192, 128]⟩ : ByteArray)).bind fun bt116 => ((utf_Decode.f k (⟨#[97, 237, 160, 128]⟩ : ByteArray)).bind fun bt122 => (if (t107 == 40 && (t108 == 0)) = true then (if (t113 == 0 && (t114 == 0)) = true then ((variorumref04_Runes.f k t110 (([228] : List Int))).bind fun t132 => (if t132 = true then (if (bt116.2.1 == 40 && (bt116.2.2 == 0)) = true then (if (bt122.2.1 == 40 && (bt122.2.2 == 1)) = true then ((utf_Letter.f k 1114111).bind fun t133 => (if t133 = true then ((utf_Letter.f k 55296).bind fun t134 => (some (!t134))) else (none))) else (none)) else (none)) else (none))) else (none)) else (none)))) = some r := H
 have A2 := Aside0.mk A20
 clear A20
 replace H := Option.bind_eq_some_iff.mp H
 obtain ⟨⟨t116, t119, t120⟩, A30, H⟩ := H
 replace H : ((utf_Decode.f k (⟨#[97, 237, 160, 128]⟩ : ByteArray)).bind fun bt122 => (if (t107 == 40 && (t108 == 0)) = true then (if (t113 == 0 && (t114 == 0)) = true then ((variorumref04_Runes.f k t110 (([228] : List Int))).bind fun t132 => (if t132 = true then (if (t119 == 40 && (t120 == 0)) = true then (if (bt122.2.1 == 40 && (bt122.2.2 == 1)) = true then ((utf_Letter.f k 1114111).bind fun t133 => (if t133 = true then ((utf_Letter.f k 55296).bind fun t134 => (some (!t134))) else (none))) else (none)) else (none)) else (none))) else (none)) else (none))) = some r := H
 have A3 := Aside0.mk A30
 clear A30
 replace H := Option.bind_eq_some_iff.mp H
 obtain ⟨⟨t122, t125, t126⟩, A40, H⟩ := H
 replace H : (if (t107 == 40 && (t108 == 0)) = true then (if (t113 == 0 && (t114 == 0)) = true then ((variorumref04_Runes.f k t110 (([228] : List Int))).bind fun t132 => (if t132 = true then (if (t119 == 40 && (t120 == 0)) = true then (if (t125 == 40 && (t126 == 1)) = true then ((utf_Letter.f k 1114111).bind fun t133 => (if t133 = true then ((utf_Letter.f k 55296).bind fun t134 => (some (!t134))) else (none))) else (none)) else (none)) else (none))) else (none)) else (none)) = some r := H
 have A4 := Aside0.mk A40
 clear A40
 by_cases c5 : (t107 == 40 && (t108 == 0)) = true
 ·rw [if_pos c5] at H
  have c5b0 : (t107 == 40 && (t108 == 0)) = true := c5
  (try (have c5b1 : decide (t107 = 40 && (t108 == 0)) = true := by simpa using c5))
  (try (have c5b2 : (t107 == 40 && (t108 == 0)) = true := by simpa using c5))
  clear c5
  by_cases c6 : (t113 == 0 && (t114 == 0)) = true
  ·rw [if_pos c6] at H
   have c6b0 : (t113 == 0 && (t114 == 0)) = true := c6
   (try (have c6b1 : decide (t113 = 0 && (t114 == 0)) = true := by simpa using c6))
   (try (have c6b2 : (t113 == 0 && (t114 == 0)) = true := by simpa using c6))
   clear c6
   obtain ⟨y129, hy129⟩ : ∃ y_ : List Int, y_ = (([228] : List Int)) := ⟨_, rfl⟩
   replace H : ((variorumref04_Runes.f k t110 y129).bind fun t132 => (if t132 = true then (if (t119 == 40 && (t120 == 0)) = true then (if (t125 == 40 && (t126 == 1)) = true then ((utf_Letter.f k 1114111).bind fun t133 => (if t133 = true then ((utf_Letter.f k 55296).bind fun t134 => (some (!t134))) else (none))) else (none)) else (none)) else (none))) = some r := by first | (rw [hy129]; with_reducible exact H) | (have H2_ := (Option.bind_some _ _).symm.trans H; rw [hy129]; with_reducible exact H2_) | (have H2_ := (Option.bind_some _ _).symm.trans H; with_reducible exact H2_) | with_reducible exact H | (rw [hy129]; exact H) | exact H
   have Ny129 := Aside0.mk hy129
   clear hy129
   replace H := Option.bind_eq_some_iff.mp H
   obtain ⟨t132, A70, H⟩ := H
   replace H : (if t132 = true then (if (t119 == 40 && (t120 == 0)) = true then (if (t125 == 40 && (t126 == 1)) = true then ((utf_Letter.f k 1114111).bind fun t133 => (if t133 = true then ((utf_Letter.f k 55296).bind fun t134 => (some (!t134))) else (none))) else (none)) else (none)) else (none)) = some r := H
   have A7 := Aside0.mk A70
   clear A70
   by_cases c8 : t132 = true
   ·subst c8
    have H1 : (if (t119 == 40 && (t120 == 0)) = true then (if (t125 == 40 && (t126 == 1)) = true then ((utf_Letter.f k 1114111).bind fun t133 => (if t133 = true then ((utf_Letter.f k 55296).bind fun t134 => (some (!t134))) else (none))) else (none)) else (none)) = some r := by rw [if_pos rfl] at H; exact H
    clear H
    have H := H1
    clear H1
    by_cases c9 : (t119 == 40 && (t120 == 0)) = true
    ·rw [if_pos c9] at H
     have c9b0 : (t119 == 40 && (t120 == 0)) = true := c9
     (try (have c9b1 : decide (t119 = 40 && (t120 == 0)) = true := by simpa using c9))
     (try (have c9b2 : (t119 == 40 && (t120 == 0)) = true := by simpa using c9))
     clear c9
     by_cases c10 : (t125 == 40 && (t126 == 1)) = true
     ·rw [if_pos c10] at H
      have c10b0 : (t125 == 40 && (t126 == 1)) = true := c10
      (try (have c10b1 : decide (t125 = 40 && (t126 == 1)) = true := by simpa using c10))
      (try (have c10b2 : (t125 == 40 && (t126 == 1)) = true := by simpa using c10))
      clear c10
      replace H := Option.bind_eq_some_iff.mp H
      obtain ⟨t133, A110, H⟩ := H
      replace H : (if t133 = true then ((utf_Letter.f k 55296).bind fun t134 => (some (!t134))) else (none)) = some r := H
      have A11 := Aside0.mk A110
      clear A110
      by_cases c12 : t133 = true
      ·subst c12
       have H1 : ((utf_Letter.f k 55296).bind fun t134 => (some (!t134))) = some r := by rw [if_pos rfl] at H; exact H
       clear H
       have H := H1
       clear H1
       replace H := Option.bind_eq_some_iff.mp H
       obtain ⟨t134, A130, H⟩ := H
       replace H : (some (!t134)) = some r := H
       have A13 := Aside0.mk A130
       clear A130
       obtain rfl := Option.some.inj H
       go_enter Tryd.func9, Tryd.ntmps9
       go_wp2_with (first | ((with_reducible refine gate_callee (f := 8) rfl ?_); refine goesL_ (some 11) rfl rfl Tryd.func8 (by kernel_rfl) rfl #[.string (⟨#[228]⟩ : ByteArray)] rfl (by (try simp only [List.map_toArray, List.map_cons, List.map_nil]); first | done | rfl | (simp only [List.length_drop, List.length_take]; rfl) | (simp only [*]; first | done | rfl)) ?_; (with_reducible refine (utf_Decode.calls k (⟨#[228]⟩ : ByteArray) t104 t107 t108 _ (by first | exact HT.out | exact Utf8Tabs_below HT.out (by repeat (first | (with_reducible first | exact HB.out | apply below_alloc | apply pw_below_drewN | apply below_drew1 | refine below_set ?_ GE109.out | refine below_set ?_ GE115.out | refine below_set ?_ GE121.out | refine below_set ?_ GE127.out | refine below_set ?_ GE128.out) | exact HB.out | exact Below.refl _ _))) A1.out).mono ?_); rintro e w14 ⟨v105, rfl, ho0, hb⟩; refine ⟨_, rfl, ?_⟩; have n0_ := Aside0.mk (Kd.R_lower ho0 (below_size (by repeat (first | (with_reducible first | exact HB.out | apply below_alloc | apply pw_below_drewN | apply below_drew1) | exact HB.out)))); have n1_ := Aside0.mk (below_step (by repeat (first | (with_reducible first | exact HB.out | apply below_alloc | apply pw_below_drewN | apply below_drew1) | exact HB.out)) hb); clear HB; have HO106 := n0_; have HB := n1_; clear n0_ n1_; (try clear hb); (try clear hb2); (try clear hk); (try clear hi); (try clear ho0)) | ((with_reducible refine gate_dst (N := 2) rfl ?_); (try (refine gate_guard (by rfl) ?_; dsimp only)); refine box_event ?hg (N := 2) ?hd (cs := #[.int .i64 0, .int .i64 0]) (t := 25) ?hr ?_; (case hd => rfl); (case hg => rfl); (case hr => first | (go_simp; done) | (go_simp; rfl)); intro gb109 hg w15 hbox hb; have n0_ := Aside0.mk (Kd.R_below (by (with_reducible repeat (first | apply Kd.R_alloc | apply Kd.R_drewN | apply Kd.R_drew)); exact HO106.out) hb); have n1_ := Aside0.mk (below_step (by repeat (first | (with_reducible first | exact HB.out | apply below_alloc | apply pw_below_drewN | apply below_drew1) | exact HB.out)) hb); have n2_ := Aside0.mk (hbox); have n3_ := Aside0.mk ((by rw [hg]; exact (below_size (by repeat (first | (with_reducible first | exact HB.out | apply below_alloc | apply pw_below_drewN | apply below_drew1) | exact HB.out))) : w.heap.size ≤ gb109)); have n4_ := Aside0.mk ((by rw [hg]; exact (below_size (by repeat (first | (with_reducible first | exact HB.out | apply below_alloc | apply pw_below_drewN | apply below_drew1) | exact HB.out))) : w.heap.size ≤ gb109)); clear HO106; clear HB; have HO106 := n0_; have HB := n1_; have BK109 := n2_; have GW109 := n3_; have GE109 := n4_; clear n0_ n1_ n2_ n3_ n4_; clear hb hbox hg; have hcz16_0 : w15.cell? ⟨gb109, 0, none⟩ = some (.int .i64 0) := (blk_cell BK109.out 0).trans rfl; have hcz16_1 : w15.cell? ⟨gb109, 1, none⟩ = some (.int .i64 0) := (blk_cell BK109.out 1).trans rfl; have hfz16_0 := blk_frozen BK109.out 0; have hfz16_1 := blk_frozen BK109.out 1) | ((with_reducible refine gate_callee (f := 8) rfl ?_); refine goesL_ (some 15) rfl rfl Tryd.func8 (by kernel_rfl) rfl #[.string (⟨#[195, 164]⟩ : ByteArray)] rfl (by (try simp only [List.map_toArray, List.map_cons, List.map_nil]); first | done | rfl | (simp only [List.length_drop, List.length_take]; rfl) | (simp only [*]; first | done | rfl)) ?_; (with_reducible refine (utf_Decode.calls k (⟨#[195, 164]⟩ : ByteArray) t110 t113 t114 _ (by first | exact HT.out | exact Utf8Tabs_below HT.out (by repeat (first | (with_reducible first | exact HB.out | apply below_alloc | apply pw_below_drewN | apply below_drew1 | refine below_set ?_ GE109.out | refine below_set ?_ GE115.out | refine below_set ?_ GE121.out | refine below_set ?_ GE127.out | refine below_set ?_ GE128.out) | exact HB.out | exact Below.refl _ _))) A2.out).mono ?_); rintro e w17 ⟨v111, rfl, ho0, hb⟩; refine ⟨_, rfl, ?_⟩; have n0_ := Aside0.mk (Kd.R_elder' (by (with_reducible repeat (first | apply Kd.R_alloc | apply Kd.R_drewN | apply Kd.R_drew)); exact (Kd.R_mono (Kd.R_far (p := ⟨gb109, 1, none⟩) (Kd.R_far (p := ⟨gb109, 0, none⟩) (Kd.R_types HO106.out BK109.out (by decide)) (fun _ hk => hk.2) (.int .i64 t107)) (fun _ hk => hk.2) (.int .i64 t108)) (fun _ h_ => h_.1))) (Kd.R_base ho0) hb); have n1_ := Aside0.mk (Kd.R_lower (Kd.R_new' ho0 (Kd.R_lt (by (with_reducible repeat (first | apply Kd.R_alloc | apply Kd.R_drewN | apply Kd.R_drew)); exact (Kd.R_mono (Kd.R_far (p := ⟨gb109, 1, none⟩) (Kd.R_far (p := ⟨gb109, 0, none⟩) (Kd.R_types HO106.out BK109.out (by decide)) (fun _ hk => hk.2) (.int .i64 t107)) (fun _ hk => hk.2) (.int .i64 t108)) (fun _ h_ => h_.1))))) (below_size (by repeat (first | (with_reducible first | exact HB.out | apply below_alloc | apply pw_below_drewN | apply below_drew1 | refine below_set ?_ GE109.out) | exact HB.out)))); have n2_ := Aside0.mk (blk_below (g := gb109) (o := .cells #[.int .i64 t107, .int .i64 t108] 25 (0, 0)) (by (with_reducible repeat (first | refine blk_drewN ?_ _ | refine blk_drew ?_ | refine blk_alloc ?_ _)); refine blk_put (cs := #[.int .i64 t107, .int .i64 0]) ?_ 1 _ rfl; (with_reducible repeat (first | refine blk_drewN ?_ _ | refine blk_drew ?_ | refine blk_alloc ?_ _)); refine blk_put (cs := #[.int .i64 0, .int .i64 0]) ?_ 0 _ rfl; (with_reducible repeat (first | refine blk_drewN ?_ _ | refine blk_drew ?_ | refine blk_alloc ?_ _)); exact BK109.out) hb); have n3_ := Aside0.mk (below_step (by repeat (first | (with_reducible first | exact HB.out | apply below_alloc | apply pw_below_drewN | apply below_drew1 | refine below_set ?_ GE109.out) | exact HB.out)) hb); clear HO106; clear BK109; clear HB; have HO106 := n0_; have HO112 := n1_; have BK109 := n2_; have HB := n3_; clear n0_ n1_ n2_ n3_; (try clear hb); (try clear hb2); (try clear hk); (try clear hi); (try clear ho0)) | ((with_reducible refine gate_dst (N := 4) rfl ?_); (try (refine gate_guard (by rfl) ?_; dsimp only)); refine box_event ?hg (N := 4) ?hd (cs := #[.int .i64 0, .int .i64 0]) (t := 25) ?hr ?_; (case hd => rfl); (case hg => rfl); (case hr => first | (go_simp; done) | (go_simp; rfl)); intro gb115 hg w18 hbox hb; have n0_ := Aside0.mk (Kd.R_below (by (with_reducible repeat (first | apply Kd.R_alloc | apply Kd.R_drewN | apply Kd.R_drew)); exact HO106.out) hb); have n1_ := Aside0.mk (Kd.R_below (by (with_reducible repeat (first | apply Kd.R_alloc | apply Kd.R_drewN | apply Kd.R_drew)); exact HO112.out) hb); have n2_ := Aside0.mk (blk_below (g := gb109) (o := .cells #[.int .i64 t107, .int .i64 t108] 25 (0, 0)) (by (with_reducible repeat (first | refine blk_drewN ?_ _ | refine blk_drew ?_ | refine blk_alloc ?_ _)); exact BK109.out) hb); have n3_ := Aside0.mk (below_step (by repeat (first | (with_reducible first | exact HB.out | apply below_alloc | apply pw_below_drewN | apply below_drew1 | refine below_set ?_ GE109.out) | exact HB.out)) hb); have n4_ := Aside0.mk (hbox); have n5_ := Aside0.mk ((by rw [hg]; exact (below_size (by repeat (first | (with_reducible first | exact HB.out | apply below_alloc | apply pw_below_drewN | apply below_drew1 | refine below_set ?_ GE109.out) | exact HB.out))) : w.heap.size ≤ gb115)); have n6_ := Aside0.mk ((by rw [hg]; exact (below_size (by repeat (first | (with_reducible first | exact HB.out | apply below_alloc | apply pw_below_drewN | apply below_drew1 | refine below_set ?_ GE109.out) | exact HB.out))) : w.heap.size ≤ gb115)); have n7_ := Aside0.mk ((by rw [hg]; exact Nat.ne_of_lt (blk_lt (g := gb109) (o := .cells #[.int .i64 t107, .int .i64 t108] 25 (0, 0)) (by (with_reducible repeat (first | refine blk_drewN ?_ _ | refine blk_drew ?_ | refine blk_alloc ?_ _)); exact BK109.out)) : gb109 ≠ gb115)); have n8_ := Aside0.mk ((by rw [hg]; exact Nat.ne_of_gt (blk_lt (g := gb109) (o := .cells #[.int .i64 t107, .int .i64 t108] 25 (0, 0)) (by (with_reducible repeat (first | refine blk_drewN ?_ _ | refine blk_drew ?_ | refine blk_alloc ?_ _)); exact BK109.out)) : gb115 ≠ gb109)); clear HO106; clear HO112; clear BK109; clear HB; have HO106 := n0_; have HO112 := n1_; have BK109 := n2_; have HB := n3_; have BK115 := n4_; have GW115 := n5_; have GE115 := n6_; have NB109_115 := n7_; have NB115_109 := n8_; clear n0_ n1_ n2_ n3_ n4_ n5_ n6_ n7_ n8_; clear hb hbox hg; have hnb19 := NB115_109.out; have hnc19 := NB109_115.out; have hcz20_0 : w18.cell? ⟨gb115, 0, none⟩ = some (.int .i64 0) := (blk_cell BK115.out 0).trans rfl; have hcz20_1 : w18.cell? ⟨gb115, 1, none⟩ = some (.int .i64 0) := (blk_cell BK115.out 1).trans rfl; have hfz20_0 := blk_frozen BK115.out 0; have hfz20_1 := blk_frozen BK115.out 1) | ((with_reducible refine gate_callee (f := 8) rfl ?_); refine goesL_ (some 19) rfl rfl Tryd.func8 (by kernel_rfl) rfl #[.string (⟨#[192, 128]⟩ : ByteArray)] rfl (by (try simp only [List.map_toArray, List.map_cons, List.map_nil]); first | done | rfl | (simp only [List.length_drop, List.length_take]; rfl) | (simp only [*]; first | done | rfl)) ?_; (with_reducible refine (utf_Decode.calls k (⟨#[192, 128]⟩ : ByteArray) t116 t119 t120 _ (by first | exact HT.out | exact Utf8Tabs_below HT.out (by repeat (first | (with_reducible first | exact HB.out | apply below_alloc | apply pw_below_drewN | apply below_drew1 | refine below_set ?_ GE109.out | refine below_set ?_ GE115.out | refine below_set ?_ GE121.out | refine below_set ?_ GE127.out | refine below_set ?_ GE128.out) | exact HB.out | exact Below.refl _ _))) A3.out).mono ?_); rintro e w21 ⟨v117, rfl, ho0, hb⟩; refine ⟨_, rfl, ?_⟩; have n0_ := Aside0.mk (Kd.R_elder' (by (with_reducible repeat (first | apply Kd.R_alloc | apply Kd.R_drewN | apply Kd.R_drew)); exact (Kd.R_mono (Kd.R_far (p := ⟨gb115, 1, none⟩) (Kd.R_far (p := ⟨gb115, 0, none⟩) (Kd.R_types HO106.out BK115.out (by decide)) (fun _ hk => hk.2) (.int .i64 t113)) (fun _ hk => hk.2) (.int .i64 t114)) (fun _ h_ => h_.1))) (Kd.R_base ho0) hb); have n1_ := Aside0.mk (Kd.R_elder' (by (with_reducible repeat (first | apply Kd.R_alloc | apply Kd.R_drewN | apply Kd.R_drew)); exact (Kd.R_mono (Kd.R_far (p := ⟨gb115, 1, none⟩) (Kd.R_far (p := ⟨gb115, 0, none⟩) (Kd.R_types HO112.out BK115.out (by decide)) (fun _ hk => hk.2) (.int .i64 t113)) (fun _ hk => hk.2) (.int .i64 t114)) (fun _ h_ => h_.1))) (Kd.R_base ho0) hb); have n2_ := Aside0.mk (Kd.R_lower (Kd.R_new' (Kd.R_new' ho0 (Kd.R_lt (by (with_reducible repeat (first | apply Kd.R_alloc | apply Kd.R_drewN | apply Kd.R_drew)); exact (Kd.R_mono (Kd.R_far (p := ⟨gb115, 1, none⟩) (Kd.R_far (p := ⟨gb115, 0, none⟩) (Kd.R_types HO106.out BK115.out (by decide)) (fun _ hk => hk.2) (.int .i64 t113)) (fun _ hk => hk.2) (.int .i64 t114)) (fun _ h_ => h_.1))))) (Kd.R_lt (by (with_reducible repeat (first | apply Kd.R_alloc | apply Kd.R_drewN | apply Kd.R_drew)); exact (Kd.R_mono (Kd.R_far (p := ⟨gb115, 1, none⟩) (Kd.R_far (p := ⟨gb115, 0, none⟩) (Kd.R_types HO112.out BK115.out (by decide)) (fun _ hk => hk.2) (.int .i64 t113)) (fun _ hk => hk.2) (.int .i64 t114)) (fun _ h_ => h_.1))))) (below_size (by repeat (first | (with_reducible first | exact HB.out | apply below_alloc | apply pw_below_drewN | apply below_drew1 | refine below_set ?_ GE109.out | refine below_set ?_ GE115.out) | exact HB.out)))); have n3_ := Aside0.mk (blk_below (g := gb109) (o := .cells #[.int .i64 t107, .int .i64 t108] 25 (0, 0)) (by (with_reducible repeat (first | refine blk_drewN ?_ _ | refine blk_drew ?_ | refine blk_alloc ?_ _)); refine blk_far ?_ NB109_115.out _; (with_reducible repeat (first | refine blk_drewN ?_ _ | refine blk_drew ?_ | refine blk_alloc ?_ _)); refine blk_far ?_ NB109_115.out _; (with_reducible repeat (first | refine blk_drewN ?_ _ | refine blk_drew ?_ | refine blk_alloc ?_ _)); exact BK109.out) hb); have n4_ := Aside0.mk (blk_below (g := gb115) (o := .cells #[.int .i64 t113, .int .i64 t114] 25 (0, 0)) (by (with_reducible repeat (first | refine blk_drewN ?_ _ | refine blk_drew ?_ | refine blk_alloc ?_ _)); refine blk_put (cs := #[.int .i64 t113, .int .i64 0]) ?_ 1 _ rfl; (with_reducible repeat (first | refine blk_drewN ?_ _ | refine blk_drew ?_ | refine blk_alloc ?_ _)); refine blk_put (cs := #[.int .i64 0, .int .i64 0]) ?_ 0 _ rfl; (with_reducible repeat (first | refine blk_drewN ?_ _ | refine blk_drew ?_ | refine blk_alloc ?_ _)); exact BK115.out) hb); have n5_ := Aside0.mk (below_step (by repeat (first | (with_reducible first | exact HB.out | apply below_alloc | apply pw_below_drewN | apply below_drew1 | refine below_set ?_ GE109.out | refine below_set ?_ GE115.out) | exact HB.out)) hb); clear HO106; clear HO112; clear BK109; clear BK115; clear HB; have HO106 := n0_; have HO112 := n1_; have HO118 := n2_; have BK109 := n3_; have BK115 := n4_; have HB := n5_; clear n0_ n1_ n2_ n3_ n4_ n5_; (try clear hb); (try clear hb2); (try clear hk); (try clear hi); (try clear ho0)) | ((with_reducible refine gate_dst (N := 6) rfl ?_); (try (refine gate_guard (by rfl) ?_; dsimp only)); refine box_event ?hg (N := 6) ?hd (cs := #[.int .i64 0, .int .i64 0]) (t := 25) ?hr ?_; (case hd => rfl); (case hg => rfl); (case hr => first | (go_simp; done) | (go_simp; rfl)); intro gb121 hg w22 hbox hb; have n0_ := Aside0.mk (Kd.R_below (by (with_reducible repeat (first | apply Kd.R_alloc | apply Kd.R_drewN | apply Kd.R_drew)); exact HO106.out) hb); have n1_ := Aside0.mk (Kd.R_below (by (with_reducible repeat (first | apply Kd.R_alloc | apply Kd.R_drewN | apply Kd.R_drew)); exact HO112.out) hb); have n2_ := Aside0.mk (Kd.R_below (by (with_reducible repeat (first | apply Kd.R_alloc | apply Kd.R_drewN | apply Kd.R_drew)); exact HO118.out) hb); have n3_ := Aside0.mk (blk_below (g := gb109) (o := .cells #[.int .i64 t107, .int .i64 t108] 25 (0, 0)) (by (with_reducible repeat (first | refine blk_drewN ?_ _ | refine blk_drew ?_ | refine blk_alloc ?_ _)); exact BK109.out) hb); have n4_ := Aside0.mk (blk_below (g := gb115) (o := .cells #[.int .i64 t113, .int .i64 t114] 25 (0, 0)) (by (with_reducible repeat (first | refine blk_drewN ?_ _ | refine blk_drew ?_ | refine blk_alloc ?_ _)); exact BK115.out) hb); have n5_ := Aside0.mk (below_step (by repeat (first | (with_reducible first | exact HB.out | apply below_alloc | apply pw_below_drewN | apply below_drew1 | refine below_set ?_ GE109.out | refine below_set ?_ GE115.out) | exact HB.out)) hb); have n6_ := Aside0.mk (hbox); have n7_ := Aside0.mk ((by rw [hg]; exact (below_size (by repeat (first | (with_reducible first | exact HB.out | apply below_alloc | apply pw_below_drewN | apply below_drew1 | refine below_set ?_ GE109.out | refine below_set ?_ GE115.out) | exact HB.out))) : w.heap.size ≤ gb121)); have n8_ := Aside0.mk ((by rw [hg]; exact (below_size (by repeat (first | (with_reducible first | exact HB.out | apply below_alloc | apply pw_below_drewN | apply below_drew1 | refine below_set ?_ GE109.out | refine below_set ?_ GE115.out) | exact HB.out))) : w.heap.size ≤ gb121)); have n9_ := Aside0.mk ((by rw [hg]; exact Nat.ne_of_lt (blk_lt (g := gb109) (o := .cells #[.int .i64 t107, .int .i64 t108] 25 (0, 0)) (by (with_reducible repeat (first | refine blk_drewN ?_ _ | refine blk_drew ?_ | refine blk_alloc ?_ _)); exact BK109.out)) : gb109 ≠ gb121)); have n10_ := Aside0.mk ((by rw [hg]; exact Nat.ne_of_gt (blk_lt (g := gb109) (o := .cells #[.int .i64 t107, .int .i64 t108] 25 (0, 0)) (by (with_reducible repeat (first | refine blk_drewN ?_ _ | refine blk_drew ?_ | refine blk_alloc ?_ _)); exact BK109.out)) : gb121 ≠ gb109)); have n11_ := Aside0.mk ((by rw [hg]; exact Nat.ne_of_lt (blk_lt (g := gb115) (o := .cells #[.int .i64 t113, .int .i64 t114] 25 (0, 0)) (by (with_reducible repeat (first | refine blk_drewN ?_ _ | refine blk_drew ?_ | refine blk_alloc ?_ _)); exact BK115.out)) : gb115 ≠ gb121)); have n12_ := Aside0.mk ((by rw [hg]; exact Nat.ne_of_gt (blk_lt (g := gb115) (o := .cells #[.int .i64 t113, .int .i64 t114] 25 (0, 0)) (by (with_reducible repeat (first | refine blk_drewN ?_ _ | refine blk_drew ?_ | refine blk_alloc ?_ _)); exact BK115.out)) : gb121 ≠ gb115)); clear HO106; clear HO112; clear HO118; clear BK109; clear BK115; clear HB; have HO106 := n0_; have HO112 := n1_; have HO118 := n2_; have BK109 := n3_; have BK115 := n4_; have HB := n5_; have BK121 := n6_; have GW121 := n7_; have GE121 := n8_; have NB109_121 := n9_; have NB121_109 := n10_; have NB115_121 := n11_; have NB121_115 := n12_; clear n0_ n1_ n2_ n3_ n4_ n5_ n6_ n7_ n8_ n9_ n10_ n11_ n12_; clear hb hbox hg; have hnb23 := NB121_109.out; have hnc23 := NB109_121.out; have hnb24 := NB121_115.out; have hnc24 := NB115_121.out; have hcz25_0 : w22.cell? ⟨gb121, 0, none⟩ = some (.int .i64 0) := (blk_cell BK121.out 0).trans rfl; have hcz25_1 : w22.cell? ⟨gb121, 1, none⟩ = some (.int .i64 0) := (blk_cell BK121.out 1).trans rfl; have hfz25_0 := blk_frozen BK121.out 0; have hfz25_1 := blk_frozen BK121.out 1) | ((with_reducible refine gate_callee (f := 8) rfl ?_); refine goesL_ (some 23) rfl rfl Tryd.func8 (by kernel_rfl) rfl #[.string (⟨#[97, 237, 160, 128]⟩ : ByteArray)] rfl (by (try simp only [List.map_toArray, List.map_cons, List.map_nil]); first | done | rfl | (simp only [List.length_drop, List.length_take]; rfl) | (simp only [*]; first | done | rfl)) ?_; (with_reducible refine (utf_Decode.calls k (⟨#[97, 237, 160, 128]⟩ : ByteArray) t122 t125 t126 _ (by first | exact HT.out | exact Utf8Tabs_below HT.out (by repeat (first | (with_reducible first | exact HB.out | apply below_alloc | apply pw_below_drewN | apply below_drew1 | refine below_set ?_ GE109.out | refine below_set ?_ GE115.out | refine below_set ?_ GE121.out | refine below_set ?_ GE127.out | refine below_set ?_ GE128.out) | exact HB.out | exact Below.refl _ _))) A4.out).mono ?_); rintro e w26 ⟨v123, rfl, ho0, hb⟩; refine ⟨_, rfl, ?_⟩; have n0_ := Aside0.mk (Kd.R_elder' (by (with_reducible repeat (first | apply Kd.R_alloc | apply Kd.R_drewN | apply Kd.R_drew)); exact (Kd.R_mono (Kd.R_far (p := ⟨gb121, 1, none⟩) (Kd.R_far (p := ⟨gb121, 0, none⟩) (Kd.R_types HO106.out BK121.out (by decide)) (fun _ hk => hk.2) (.int .i64 t119)) (fun _ hk => hk.2) (.int .i64 t120)) (fun _ h_ => h_.1))) (Kd.R_base ho0) hb); have n1_ := Aside0.mk (Kd.R_elder' (by (with_reducible repeat (first | apply Kd.R_alloc | apply Kd.R_drewN | apply Kd.R_drew)); exact (Kd.R_mono (Kd.R_far (p := ⟨gb121, 1, none⟩) (Kd.R_far (p := ⟨gb121, 0, none⟩) (Kd.R_types HO112.out BK121.out (by decide)) (fun _ hk => hk.2) (.int .i64 t119)) (fun _ hk => hk.2) (.int .i64 t120)) (fun _ h_ => h_.1))) (Kd.R_base ho0) hb); have n2_ := Aside0.mk (Kd.R_elder' (by (with_reducible repeat (first | apply Kd.R_alloc | apply Kd.R_drewN | apply Kd.R_drew)); exact (Kd.R_mono (Kd.R_far (p := ⟨gb121, 1, none⟩) (Kd.R_far (p := ⟨gb121, 0, none⟩) (Kd.R_types HO118.out BK121.out (by decide)) (fun _ hk => hk.2) (.int .i64 t119)) (fun _ hk => hk.2) (.int .i64 t120)) (fun _ h_ => h_.1))) (Kd.R_base ho0) hb); have n3_ := Aside0.mk (Kd.R_lower (Kd.R_new' (Kd.R_new' (Kd.R_new' ho0 (Kd.R_lt (by (with_reducible repeat (first | apply Kd.R_alloc | apply Kd.R_drewN | apply Kd.R_drew)); exact (Kd.R_mono (Kd.R_far (p := ⟨gb121, 1, none⟩) (Kd.R_far (p := ⟨gb121, 0, none⟩) (Kd.R_types HO106.out BK121.out (by decide)) (fun _ hk => hk.2) (.int .i64 t119)) (fun _ hk => hk.2) (.int .i64 t120)) (fun _ h_ => h_.1))))) (Kd.R_lt (by (with_reducible repeat (first | apply Kd.R_alloc | apply Kd.R_drewN | apply Kd.R_drew)); exact (Kd.R_mono (Kd.R_far (p := ⟨gb121, 1, none⟩) (Kd.R_far (p := ⟨gb121, 0, none⟩) (Kd.R_types HO112.out BK121.out (by decide)) (fun _ hk => hk.2) (.int .i64 t119)) (fun _ hk => hk.2) (.int .i64 t120)) (fun _ h_ => h_.1))))) (Kd.R_lt (by (with_reducible repeat (first | apply Kd.R_alloc | apply Kd.R_drewN | apply Kd.R_drew)); exact (Kd.R_mono (Kd.R_far (p := ⟨gb121, 1, none⟩) (Kd.R_far (p := ⟨gb121, 0, none⟩) (Kd.R_types HO118.out BK121.out (by decide)) (fun _ hk => hk.2) (.int .i64 t119)) (fun _ hk => hk.2) (.int .i64 t120)) (fun _ h_ => h_.1))))) (below_size (by repeat (first | (with_reducible first | exact HB.out | apply below_alloc | apply pw_below_drewN | apply below_drew1 | refine below_set ?_ GE109.out | refine below_set ?_ GE115.out | refine below_set ?_ GE121.out) | exact HB.out)))); have n4_ := Aside0.mk (blk_below (g := gb109) (o := .cells #[.int .i64 t107, .int .i64 t108] 25 (0, 0)) (by (with_reducible repeat (first | refine blk_drewN ?_ _ | refine blk_drew ?_ | refine blk_alloc ?_ _)); refine blk_far ?_ NB109_121.out _; (with_reducible repeat (first | refine blk_drewN ?_ _ | refine blk_drew ?_ | refine blk_alloc ?_ _)); refine blk_far ?_ NB109_121.out _; (with_reducible repeat (first | refine blk_drewN ?_ _ | refine blk_drew ?_ | refine blk_alloc ?_ _)); exact BK109.out) hb); have n5_ := Aside0.mk (blk_below (g := gb115) (o := .cells #[.int .i64 t113, .int .i64 t114] 25 (0, 0)) (by (with_reducible repeat (first | refine blk_drewN ?_ _ | refine blk_drew ?_ | refine blk_alloc ?_ _)); refine blk_far ?_ NB115_121.out _; (with_reducible repeat (first | refine blk_drewN ?_ _ | refine blk_drew ?_ | refine blk_alloc ?_ _)); refine blk_far ?_ NB115_121.out _; (with_reducible repeat (first | refine blk_drewN ?_ _ | refine blk_drew ?_ | refine blk_alloc ?_ _)); exact BK115.out) hb); have n6_ := Aside0.mk (blk_below (g := gb121) (o := .cells #[.int .i64 t119, .int .i64 t120] 25 (0, 0)) (by (with_reducible repeat (first | refine blk_drewN ?_ _ | refine blk_drew ?_ | refine blk_alloc ?_ _)); refine blk_put (cs := #[.int .i64 t119, .int .i64 0]) ?_ 1 _ rfl; (with_reducible repeat (first | refine blk_drewN ?_ _ | refine blk_drew ?_ | refine blk_alloc ?_ _)); refine blk_put (cs := #[.int .i64 0, .int .i64 0]) ?_ 0 _ rfl; (with_reducible repeat (first | refine blk_drewN ?_ _ | refine blk_drew ?_ | refine blk_alloc ?_ _)); exact BK121.out) hb); have n7_ := Aside0.mk (below_step (by repeat (first | (with_reducible first | exact HB.out | apply below_alloc | apply pw_below_drewN | apply below_drew1 | refine below_set ?_ GE109.out | refine below_set ?_ GE115.out | refine below_set ?_ GE121.out) | exact HB.out)) hb); clear HO106; clear HO112; clear HO118; clear BK109; clear BK115; clear BK121; clear HB; have HO106 := n0_; have HO112 := n1_; have HO118 := n2_; have HO124 := n3_; have BK109 := n4_; have BK115 := n5_; have BK121 := n6_; have HB := n7_; clear n0_ n1_ n2_ n3_ n4_ n5_ n6_ n7_; (try clear hb); (try clear hb2); (try clear hk); (try clear hi); (try clear ho0)) | ((with_reducible refine gate_dst (N := 8) rfl ?_); (try (refine gate_guard (by rfl) ?_; dsimp only)); refine box_event ?hg (N := 8) ?hd (cs := #[.int .i64 0, .int .i64 0]) (t := 25) ?hr ?_; (case hd => rfl); (case hg => rfl); (case hr => first | (go_simp; done) | (go_simp; rfl)); intro gb127 hg w27 hbox hb; have n0_ := Aside0.mk (Kd.R_below (by (with_reducible repeat (first | apply Kd.R_alloc | apply Kd.R_drewN | apply Kd.R_drew)); exact HO106.out) hb); have n1_ := Aside0.mk (Kd.R_below (by (with_reducible repeat (first | apply Kd.R_alloc | apply Kd.R_drewN | apply Kd.R_drew)); exact HO112.out) hb); have n2_ := Aside0.mk (Kd.R_below (by (with_reducible repeat (first | apply Kd.R_alloc | apply Kd.R_drewN | apply Kd.R_drew)); exact HO118.out) hb); have n3_ := Aside0.mk (Kd.R_below (by (with_reducible repeat (first | apply Kd.R_alloc | apply Kd.R_drewN | apply Kd.R_drew)); exact HO124.out) hb); have n4_ := Aside0.mk (blk_below (g := gb109) (o := .cells #[.int .i64 t107, .int .i64 t108] 25 (0, 0)) (by (with_reducible repeat (first | refine blk_drewN ?_ _ | refine blk_drew ?_ | refine blk_alloc ?_ _)); exact BK109.out) hb); have n5_ := Aside0.mk (blk_below (g := gb115) (o := .cells #[.int .i64 t113, .int .i64 t114] 25 (0, 0)) (by (with_reducible repeat (first | refine blk_drewN ?_ _ | refine blk_drew ?_ | refine blk_alloc ?_ _)); exact BK115.out) hb); have n6_ := Aside0.mk (blk_below (g := gb121) (o := .cells #[.int .i64 t119, .int .i64 t120] 25 (0, 0)) (by (with_reducible repeat (first | refine blk_drewN ?_ _ | refine blk_drew ?_ | refine blk_alloc ?_ _)); exact BK121.out) hb); have n7_ := Aside0.mk (below_step (by repeat (first | (with_reducible first | exact HB.out | apply below_alloc | apply pw_below_drewN | apply below_drew1 | refine below_set ?_ GE109.out | refine below_set ?_ GE115.out | refine below_set ?_ GE121.out) | exact HB.out)) hb); have n8_ := Aside0.mk (hbox); have n9_ := Aside0.mk ((by rw [hg]; exact (below_size (by repeat (first | (with_reducible first | exact HB.out | apply below_alloc | apply pw_below_drewN | apply below_drew1 | refine below_set ?_ GE109.out | refine below_set ?_ GE115.out | refine below_set ?_ GE121.out) | exact HB.out))) : w.heap.size ≤ gb127)); have n10_ := Aside0.mk ((by rw [hg]; exact (below_size (by repeat (first | (with_reducible first | exact HB.out | apply below_alloc | apply pw_below_drewN | apply below_drew1 | refine below_set ?_ GE109.out | refine below_set ?_ GE115.out | refine below_set ?_ GE121.out) | exact HB.out))) : w.heap.size ≤ gb127)); have n11_ := Aside0.mk ((by rw [hg]; exact Nat.ne_of_lt (blk_lt (g := gb109) (o := .cells #[.int .i64 t107, .int .i64 t108] 25 (0, 0)) (by (with_reducible repeat (first | refine blk_drewN ?_ _ | refine blk_drew ?_ | refine blk_alloc ?_ _)); exact BK109.out)) : gb109 ≠ gb127)); have n12_ := Aside0.mk ((by rw [hg]; exact Nat.ne_of_gt (blk_lt (g := gb109) (o := .cells #[.int .i64 t107, .int .i64 t108] 25 (0, 0)) (by (with_reducible repeat (first | refine blk_drewN ?_ _ | refine blk_drew ?_ | refine blk_alloc ?_ _)); exact BK109.out)) : gb127 ≠ gb109)); have n13_ := Aside0.mk ((by rw [hg]; exact Nat.ne_of_lt (blk_lt (g := gb115) (o := .cells #[.int .i64 t113, .int .i64 t114] 25 (0, 0)) (by (with_reducible repeat (first | refine blk_drewN ?_ _ | refine blk_drew ?_ | refine blk_alloc ?_ _)); exact BK115.out)) : gb115 ≠ gb127)); have n14_ := Aside0.mk ((by rw [hg]; exact Nat.ne_of_gt (blk_lt (g := gb115) (o := .cells #[.int .i64 t113, .int .i64 t114] 25 (0, 0)) (by (with_reducible repeat (first | refine blk_drewN ?_ _ | refine blk_drew ?_ | refine blk_alloc ?_ _)); exact BK115.out)) : gb127 ≠ gb115)); have n15_ := Aside0.mk ((by rw [hg]; exact Nat.ne_of_lt (blk_lt (g := gb121) (o := .cells #[.int .i64 t119, .int .i64 t120] 25 (0, 0)) (by (with_reducible repeat (first | refine blk_drewN ?_ _ | refine blk_drew ?_ | refine blk_alloc ?_ _)); exact BK121.out)) : gb121 ≠ gb127)); have n16_ := Aside0.mk ((by rw [hg]; exact Nat.ne_of_gt (blk_lt (g := gb121) (o := .cells #[.int .i64 t119, .int .i64 t120] 25 (0, 0)) (by (with_reducible repeat (first | refine blk_drewN ?_ _ | refine blk_drew ?_ | refine blk_alloc ?_ _)); exact BK121.out)) : gb127 ≠ gb121)); clear HO106; clear HO112; clear HO118; clear HO124; clear BK109; clear BK115; clear BK121; clear HB; have HO106 := n0_; have HO112 := n1_; have HO118 := n2_; have HO124 := n3_; have BK109 := n4_; have BK115 := n5_; have BK121 := n6_; have HB := n7_; have BK127 := n8_; have GW127 := n9_; have GE127 := n10_; have NB109_127 := n11_; have NB127_109 := n12_; have NB115_127 := n13_; have NB127_115 := n14_; have NB121_127 := n15_; have NB127_121 := n16_; clear n0_ n1_ n2_ n3_ n4_ n5_ n6_ n7_ n8_ n9_ n10_ n11_ n12_ n13_ n14_ n15_ n16_; clear hb hbox hg; have hnb28 := NB127_109.out; have hnc28 := NB109_127.out; have hnb29 := NB127_115.out; have hnc29 := NB115_127.out; have hnb30 := NB127_121.out; have hnc30 := NB121_127.out; have hcz31_0 : w27.cell? ⟨gb127, 0, none⟩ = some (.int .i64 0) := (blk_cell BK127.out 0).trans rfl; have hcz31_1 : w27.cell? ⟨gb127, 1, none⟩ = some (.int .i64 0) := (blk_cell BK127.out 1).trans rfl; have hfz31_0 := blk_frozen BK127.out 0; have hfz31_1 := blk_frozen BK127.out 1) | ((with_reducible refine gate_dst (N := 9) rfl ?_); (try (refine gate_guard (by rfl) ?_; dsimp only)); refine box_event ?hg (N := 9) ?hd (cs := #[.int .i64 0, .int .i64 0]) (t := 25) ?hr ?_; (case hd => rfl); (case hg => rfl); (case hr => first | (go_simp; done) | (go_simp; rfl)); intro gb128 hg w32 hbox hb; have n0_ := Aside0.mk (Kd.R_below (by (with_reducible repeat (first | apply Kd.R_alloc | apply Kd.R_drewN | apply Kd.R_drew)); exact (Kd.R_mono (Kd.R_far (p := ⟨gb127, 1, none⟩) (Kd.R_far (p := ⟨gb127, 0, none⟩) (Kd.R_types HO106.out BK127.out (by decide)) (fun _ hk => hk.2) (.int .i64 t125)) (fun _ hk => hk.2) (.int .i64 t126)) (fun _ h_ => h_.1))) hb); have n1_ := Aside0.mk (Kd.R_below (by (with_reducible repeat (first | apply Kd.R_alloc | apply Kd.R_drewN | apply Kd.R_drew)); exact (Kd.R_mono (Kd.R_far (p := ⟨gb127, 1, none⟩) (Kd.R_far (p := ⟨gb127, 0, none⟩) (Kd.R_types HO112.out BK127.out (by decide)) (fun _ hk => hk.2) (.int .i64 t125)) (fun _ hk => hk.2) (.int .i64 t126)) (fun _ h_ => h_.1))) hb); have n2_ := Aside0.mk (Kd.R_below (by (with_reducible repeat (first | apply Kd.R_alloc | apply Kd.R_drewN | apply Kd.R_drew)); exact (Kd.R_mono (Kd.R_far (p := ⟨gb127, 1, none⟩) (Kd.R_far (p := ⟨gb127, 0, none⟩) (Kd.R_types HO118.out BK127.out (by decide)) (fun _ hk => hk.2) (.int .i64 t125)) (fun _ hk => hk.2) (.int .i64 t126)) (fun _ h_ => h_.1))) hb); have n3_ := Aside0.mk (Kd.R_below (by (with_reducible repeat (first | apply Kd.R_alloc | apply Kd.R_drewN | apply Kd.R_drew)); exact (Kd.R_mono (Kd.R_far (p := ⟨gb127, 1, none⟩) (Kd.R_far (p := ⟨gb127, 0, none⟩) (Kd.R_types HO124.out BK127.out (by decide)) (fun _ hk => hk.2) (.int .i64 t125)) (fun _ hk => hk.2) (.int .i64 t126)) (fun _ h_ => h_.1))) hb); have n4_ := Aside0.mk (blk_below (g := gb109) (o := .cells #[.int .i64 t107, .int .i64 t108] 25 (0, 0)) (by (with_reducible repeat (first | refine blk_drewN ?_ _ | refine blk_drew ?_ | refine blk_alloc ?_ _)); refine blk_far ?_ NB109_127.out _; (with_reducible repeat (first | refine blk_drewN ?_ _ | refine blk_drew ?_ | refine blk_alloc ?_ _)); refine blk_far ?_ NB109_127.out _; (with_reducible repeat (first | refine blk_drewN ?_ _ | refine blk_drew ?_ | refine blk_alloc ?_ _)); exact BK109.out) hb); have n5_ := Aside0.mk (blk_below (g := gb115) (o := .cells #[.int .i64 t113, .int .i64 t114] 25 (0, 0)) (by (with_reducible repeat (first | refine blk_drewN ?_ _ | refine blk_drew ?_ | refine blk_alloc ?_ _)); refine blk_far ?_ NB115_127.out _; (with_reducible repeat (first | refine blk_drewN ?_ _ | refine blk_drew ?_ | refine blk_alloc ?_ _)); refine blk_far ?_ NB115_127.out _; (with_reducible repeat (first | refine blk_drewN ?_ _ | refine blk_drew ?_ | refine blk_alloc ?_ _)); exact BK115.out) hb); have n6_ := Aside0.mk (blk_below (g := gb121) (o := .cells #[.int .i64 t119, .int .i64 t120] 25 (0, 0)) (by (with_reducible repeat (first | refine blk_drewN ?_ _ | refine blk_drew ?_ | refine blk_alloc ?_ _)); refine blk_far ?_ NB121_127.out _; (with_reducible repeat (first | refine blk_drewN ?_ _ | refine blk_drew ?_ | refine blk_alloc ?_ _)); refine blk_far ?_ NB121_127.out _; (with_reducible repeat (first | refine blk_drewN ?_ _ | refine blk_drew ?_ | refine blk_alloc ?_ _)); exact BK121.out) hb); have n7_ := Aside0.mk (blk_below (g := gb127) (o := .cells #[.int .i64 t125, .int .i64 t126] 25 (0, 0)) (by (with_reducible repeat (first | refine blk_drewN ?_ _ | refine blk_drew ?_ | refine blk_alloc ?_ _)); refine blk_put (cs := #[.int .i64 t125, .int .i64 0]) ?_ 1 _ rfl; (with_reducible repeat (first | refine blk_drewN ?_ _ | refine blk_drew ?_ | refine blk_alloc ?_ _)); refine blk_put (cs := #[.int .i64 0, .int .i64 0]) ?_ 0 _ rfl; (with_reducible repeat (first | refine blk_drewN ?_ _ | refine blk_drew ?_ | refine blk_alloc ?_ _)); exact BK127.out) hb); have n8_ := Aside0.mk (below_step (by repeat (first | (with_reducible first | exact HB.out | apply below_alloc | apply pw_below_drewN | apply below_drew1 | refine below_set ?_ GE109.out | refine below_set ?_ GE115.out | refine below_set ?_ GE121.out | refine below_set ?_ GE127.out) | exact HB.out)) hb); have n9_ := Aside0.mk (hbox); have n10_ := Aside0.mk ((by rw [hg]; exact (below_size (by repeat (first | (with_reducible first | exact HB.out | apply below_alloc | apply pw_below_drewN | apply below_drew1 | refine below_set ?_ GE109.out | refine below_set ?_ GE115.out | refine below_set ?_ GE121.out | refine below_set ?_ GE127.out) | exact HB.out))) : w.heap.size ≤ gb128)); have n11_ := Aside0.mk ((by rw [hg]; exact (below_size (by repeat (first | (with_reducible first | exact HB.out | apply below_alloc | apply pw_below_drewN | apply below_drew1 | refine below_set ?_ GE109.out | refine below_set ?_ GE115.out | refine below_set ?_ GE121.out | refine below_set ?_ GE127.out) | exact HB.out))) : w.heap.size ≤ gb128)); have n12_ := Aside0.mk ((by rw [hg]; exact Nat.ne_of_lt (blk_lt (g := gb109) (o := .cells #[.int .i64 t107, .int .i64 t108] 25 (0, 0)) (by (with_reducible repeat (first | refine blk_drewN ?_ _ | refine blk_drew ?_ | refine blk_alloc ?_ _)); refine blk_far ?_ NB109_127.out _; (with_reducible repeat (first | refine blk_drewN ?_ _ | refine blk_drew ?_ | refine blk_alloc ?_ _)); refine blk_far ?_ NB109_127.out _; (with_reducible repeat (first | refine blk_drewN ?_ _ | refine blk_drew ?_ | refine blk_alloc ?_ _)); exact BK109.out)) : gb109 ≠ gb128)); have n13_ := Aside0.mk ((by rw [hg]; exact Nat.ne_of_gt (blk_lt (g := gb109) (o := .cells #[.int .i64 t107, .int .i64 t108] 25 (0, 0)) (by (with_reducible repeat (first | refine blk_drewN ?_ _ | refine blk_drew ?_ | refine blk_alloc ?_ _)); refine blk_far ?_ NB109_127.out _; (with_reducible repeat (first | refine blk_drewN ?_ _ | refine blk_drew ?_ | refine blk_alloc ?_ _)); refine blk_far ?_ NB109_127.out _; (with_reducible repeat (first | refine blk_drewN ?_ _ | refine blk_drew ?_ | refine blk_alloc ?_ _)); exact BK109.out)) : gb128 ≠ gb109)); have n14_ := Aside0.mk ((by rw [hg]; exact Nat.ne_of_lt (blk_lt (g := gb115) (o := .cells #[.int .i64 t113, .int .i64 t114] 25 (0, 0)) (by (with_reducible repeat (first | refine blk_drewN ?_ _ | refine blk_drew ?_ | refine blk_alloc ?_ _)); refine blk_far ?_ NB115_127.out _; (with_reducible repeat (first | refine blk_drewN ?_ _ | refine blk_drew ?_ | refine blk_alloc ?_ _)); refine blk_far ?_ NB115_127.out _; (with_reducible repeat (first | refine blk_drewN ?_ _ | refine blk_drew ?_ | refine blk_alloc ?_ _)); exact BK115.out)) : gb115 ≠ gb128)); have n15_ := Aside0.mk ((by rw [hg]; exact Nat.ne_of_gt (blk_lt (g := gb115) (o := .cells #[.int .i64 t113, .int .i64 t114] 25 (0, 0)) (by (with_reducible repeat (first | refine blk_drewN ?_ _ | refine blk_drew ?_ | refine blk_alloc ?_ _)); refine blk_far ?_ NB115_127.out _; (with_reducible repeat (first | refine blk_drewN ?_ _ | refine blk_drew ?_ | refine blk_alloc ?_ _)); refine blk_far ?_ NB115_127.out _; (with_reducible repeat (first | refine blk_drewN ?_ _ | refine blk_drew ?_ | refine blk_alloc ?_ _)); exact BK115.out)) : gb128 ≠ gb115)); have n16_ := Aside0.mk ((by rw [hg]; exact Nat.ne_of_lt (blk_lt (g := gb121) (o := .cells #[.int .i64 t119, .int .i64 t120] 25 (0, 0)) (by (with_reducible repeat (first | refine blk_drewN ?_ _ | refine blk_drew ?_ | refine blk_alloc ?_ _)); refine blk_far ?_ NB121_127.out _; (with_reducible repeat (first | refine blk_drewN ?_ _ | refine blk_drew ?_ | refine blk_alloc ?_ _)); refine blk_far ?_ NB121_127.out _; (with_reducible repeat (first | refine blk_drewN ?_ _ | refine blk_drew ?_ | refine blk_alloc ?_ _)); exact BK121.out)) : gb121 ≠ gb128)); have n17_ := Aside0.mk ((by rw [hg]; exact Nat.ne_of_gt (blk_lt (g := gb121) (o := .cells #[.int .i64 t119, .int .i64 t120] 25 (0, 0)) (by (with_reducible repeat (first | refine blk_drewN ?_ _ | refine blk_drew ?_ | refine blk_alloc ?_ _)); refine blk_far ?_ NB121_127.out _; (with_reducible repeat (first | refine blk_drewN ?_ _ | refine blk_drew ?_ | refine blk_alloc ?_ _)); refine blk_far ?_ NB121_127.out _; (with_reducible repeat (first | refine blk_drewN ?_ _ | refine blk_drew ?_ | refine blk_alloc ?_ _)); exact BK121.out)) : gb128 ≠ gb121)); have n18_ := Aside0.mk ((by rw [hg]; exact Nat.ne_of_lt (blk_lt (g := gb127) (o := .cells #[.int .i64 t125, .int .i64 t126] 25 (0, 0)) (by (with_reducible repeat (first | refine blk_drewN ?_ _ | refine blk_drew ?_ | refine blk_alloc ?_ _)); refine blk_put (cs := #[.int .i64 t125, .int .i64 0]) ?_ 1 _ rfl; (with_reducible repeat (first | refine blk_drewN ?_ _ | refine blk_drew ?_ | refine blk_alloc ?_ _)); refine blk_put (cs := #[.int .i64 0, .int .i64 0]) ?_ 0 _ rfl; (with_reducible repeat (first | refine blk_drewN ?_ _ | refine blk_drew ?_ | refine blk_alloc ?_ _)); exact BK127.out)) : gb127 ≠ gb128)); have n19_ := Aside0.mk ((by rw [hg]; exact Nat.ne_of_gt (blk_lt (g := gb127) (o := .cells #[.int .i64 t125, .int .i64 t126] 25 (0, 0)) (by (with_reducible repeat (first | refine blk_drewN ?_ _ | refine blk_drew ?_ | refine blk_alloc ?_ _)); refine blk_put (cs := #[.int .i64 t125, .int .i64 0]) ?_ 1 _ rfl; (with_reducible repeat (first | refine blk_drewN ?_ _ | refine blk_drew ?_ | refine blk_alloc ?_ _)); refine blk_put (cs := #[.int .i64 0, .int .i64 0]) ?_ 0 _ rfl; (with_reducible repeat (first | refine blk_drewN ?_ _ | refine blk_drew ?_ | refine blk_alloc ?_ _)); exact BK127.out)) : gb128 ≠ gb127)); clear HO106; clear HO112; clear HO118; clear HO124; clear BK109; clear BK115; clear BK121; clear BK127; clear HB; have HO106 := n0_; have HO112 := n1_; have HO118 := n2_; have HO124 := n3_; have BK109 := n4_; have BK115 := n5_; have BK121 := n6_; have BK127 := n7_; have HB := n8_; have BK128 := n9_; have GW128 := n10_; have GE128 := n11_; have NB109_128 := n12_; have NB128_109 := n13_; have NB115_128 := n14_; have NB128_115 := n15_; have NB121_128 := n16_; have NB128_121 := n17_; have NB127_128 := n18_; have NB128_127 := n19_; clear n0_ n1_ n2_ n3_ n4_ n5_ n6_ n7_ n8_ n9_ n10_ n11_ n12_ n13_ n14_ n15_ n16_ n17_ n18_ n19_; clear hb hbox hg; have hnb33 := NB128_109.out; have hnc33 := NB109_128.out; have hnb34 := NB128_115.out; have hnc34 := NB115_128.out; have hnb35 := NB128_121.out; have hnc35 := NB121_128.out; have hnb36 := NB128_127.out; have hnc36 := NB127_128.out; have hcz37_0 : w32.cell? ⟨gb128, 0, none⟩ = some (.int .i64 0) := (blk_cell BK128.out 0).trans rfl; have hcz37_1 : w32.cell? ⟨gb128, 1, none⟩ = some (.int .i64 0) := (blk_cell BK128.out 1).trans rfl; have hfz37_0 := blk_frozen BK128.out 0; have hfz37_1 := blk_frozen BK128.out 1; have hcz38_0 : w32.cell? ⟨gb109, 0, none⟩ = some (.int .i64 t107) := (blk_cell BK109.out 0).trans rfl; have hcz38_1 : w32.cell? ⟨gb109, 1, none⟩ = some (.int .i64 t108) := (blk_cell BK109.out 1).trans rfl; have hfz38_0 := blk_frozen BK109.out 0; have hfz38_1 := blk_frozen BK109.out 1; have hcz39_0 : w32.cell? ⟨gb115, 0, none⟩ = some (.int .i64 t113) := (blk_cell BK115.out 0).trans rfl; have hcz39_1 : w32.cell? ⟨gb115, 1, none⟩ = some (.int .i64 t114) := (blk_cell BK115.out 1).trans rfl; have hfz39_0 := blk_frozen BK115.out 0; have hfz39_1 := blk_frozen BK115.out 1) | ((with_reducible refine gate_dst (N := 37) rfl ?_); (try (refine gate_guard (by rfl) ?_; dsimp only)); refine Kd.R_lit (Kd.int .i32) _ 21 ?hg (N := 37) ?hd (xs := ([228] : List Int)) (inner := [.int .i32 228]) (ok := fun _ => True) (okp := fun _ => True) ?hr ?hp (fun _ hk => hk) trivial (Below.refl _ _) (Nat.le_refl _) (by simp) ?_; (case hd => rfl); (case hg => rfl); (case hr => first | (go_simp; done) | (go_simp; rfl)); (case hp => exact (Reps.one (show Kd.M (Kd.int .i32) _ _ _ 228 [.int .i32 228] from rfl) (Reps.none _ _))); intro v130 w40 ho41 hb hg_ hnew_; clear hg_ hnew_; (first | rw [← Ny129.out] at ho41 | (simp only [Int.reduceToNat] at ho41; rw [← Ny129.out] at ho41)); have n0_ := Aside0.mk (Kd.R_elder' (by (with_reducible repeat (first | apply Kd.R_alloc | apply Kd.R_drewN | apply Kd.R_drew)); exact (Kd.R_mono (Kd.R_far (p := ⟨gb128, 1, none⟩) (Kd.R_far (p := ⟨gb128, 0, none⟩) (Kd.R_types HO106.out BK128.out (by decide)) (fun _ hk => hk.2) (.int .i64 40)) (fun _ hk => hk.2) (.int .i64 0)) (fun _ h_ => h_.1))) (Kd.R_base ho41) hb); have n1_ := Aside0.mk (Kd.R_elder' (by (with_reducible repeat (first | apply Kd.R_alloc | apply Kd.R_drewN | apply Kd.R_drew)); exact (Kd.R_mono (Kd.R_far (p := ⟨gb128, 1, none⟩) (Kd.R_far (p := ⟨gb128, 0, none⟩) (Kd.R_types HO112.out BK128.out (by decide)) (fun _ hk => hk.2) (.int .i64 40)) (fun _ hk => hk.2) (.int .i64 0)) (fun _ h_ => h_.1))) (Kd.R_base ho41) hb); have n2_ := Aside0.mk (Kd.R_elder' (by (with_reducible repeat (first | apply Kd.R_alloc | apply Kd.R_drewN | apply Kd.R_drew)); exact (Kd.R_mono (Kd.R_far (p := ⟨gb128, 1, none⟩) (Kd.R_far (p := ⟨gb128, 0, none⟩) (Kd.R_types HO118.out BK128.out (by decide)) (fun _ hk => hk.2) (.int .i64 40)) (fun _ hk => hk.2) (.int .i64 0)) (fun _ h_ => h_.1))) (Kd.R_base ho41) hb); have n3_ := Aside0.mk (Kd.R_elder' (by (with_reducible repeat (first | apply Kd.R_alloc | apply Kd.R_drewN | apply Kd.R_drew)); exact (Kd.R_mono (Kd.R_far (p := ⟨gb128, 1, none⟩) (Kd.R_far (p := ⟨gb128, 0, none⟩) (Kd.R_types HO124.out BK128.out (by decide)) (fun _ hk => hk.2) (.int .i64 40)) (fun _ hk => hk.2) (.int .i64 0)) (fun _ h_ => h_.1))) (Kd.R_base ho41) hb); have n4_ := Aside0.mk (Kd.R_lower (Kd.R_new' (Kd.R_new' (Kd.R_new' (Kd.R_new' ho41 (Kd.R_lt (by (with_reducible repeat (first | apply Kd.R_alloc | apply Kd.R_drewN | apply Kd.R_drew)); exact (Kd.R_mono (Kd.R_far (p := ⟨gb128, 1, none⟩) (Kd.R_far (p := ⟨gb128, 0, none⟩) (Kd.R_types HO106.out BK128.out (by decide)) (fun _ hk => hk.2) (.int .i64 40)) (fun _ hk => hk.2) (.int .i64 0)) (fun _ h_ => h_.1))))) (Kd.R_lt (by (with_reducible repeat (first | apply Kd.R_alloc | apply Kd.R_drewN | apply Kd.R_drew)); exact (Kd.R_mono (Kd.R_far (p := ⟨gb128, 1, none⟩) (Kd.R_far (p := ⟨gb128, 0, none⟩) (Kd.R_types HO112.out BK128.out (by decide)) (fun _ hk => hk.2) (.int .i64 40)) (fun _ hk => hk.2) (.int .i64 0)) (fun _ h_ => h_.1))))) (Kd.R_lt (by (with_reducible repeat (first | apply Kd.R_alloc | apply Kd.R_drewN | apply Kd.R_drew)); exact (Kd.R_mono (Kd.R_far (p := ⟨gb128, 1, none⟩) (Kd.R_far (p := ⟨gb128, 0, none⟩) (Kd.R_types HO118.out BK128.out (by decide)) (fun _ hk => hk.2) (.int .i64 40)) (fun _ hk => hk.2) (.int .i64 0)) (fun _ h_ => h_.1))))) (Kd.R_lt (by (with_reducible repeat (first | apply Kd.R_alloc | apply Kd.R_drewN | apply Kd.R_drew)); exact (Kd.R_mono (Kd.R_far (p := ⟨gb128, 1, none⟩) (Kd.R_far (p := ⟨gb128, 0, none⟩) (Kd.R_types HO124.out BK128.out (by decide)) (fun _ hk => hk.2) (.int .i64 40)) (fun _ hk => hk.2) (.int .i64 0)) (fun _ h_ => h_.1))))) (below_size (by repeat (first | (with_reducible first | exact HB.out | apply below_alloc | apply pw_below_drewN | apply below_drew1 | refine below_set ?_ GE109.out | refine below_set ?_ GE115.out | refine below_set ?_ GE121.out | refine below_set ?_ GE127.out | refine below_set ?_ GE128.out) | exact HB.out)))); have n5_ := Aside0.mk (blk_below (g := gb109) (o := .cells #[.int .i64 t107, .int .i64 t108] 25 (0, 0)) (by (with_reducible repeat (first | refine blk_drewN ?_ _ | refine blk_drew ?_ | refine blk_alloc ?_ _)); refine blk_far ?_ NB109_128.out _; (with_reducible repeat (first | refine blk_drewN ?_ _ | refine blk_drew ?_ | refine blk_alloc ?_ _)); refine blk_far ?_ NB109_128.out _; (with_reducible repeat (first | refine blk_drewN ?_ _ | refine blk_drew ?_ | refine blk_alloc ?_ _)); exact BK109.out) hb); have n6_ := Aside0.mk (blk_below (g := gb115) (o := .cells #[.int .i64 t113, .int .i64 t114] 25 (0, 0)) (by (with_reducible repeat (first | refine blk_drewN ?_ _ | refine blk_drew ?_ | refine blk_alloc ?_ _)); refine blk_far ?_ NB115_128.out _; (with_reducible repeat (first | refine blk_drewN ?_ _ | refine blk_drew ?_ | refine blk_alloc ?_ _)); refine blk_far ?_ NB115_128.out _; (with_reducible repeat (first | refine blk_drewN ?_ _ | refine blk_drew ?_ | refine blk_alloc ?_ _)); exact BK115.out) hb); have n7_ := Aside0.mk (blk_below (g := gb121) (o := .cells #[.int .i64 t119, .int .i64 t120] 25 (0, 0)) (by (with_reducible repeat (first | refine blk_drewN ?_ _ | refine blk_drew ?_ | refine blk_alloc ?_ _)); refine blk_far ?_ NB121_128.out _; (with_reducible repeat (first | refine blk_drewN ?_ _ | refine blk_drew ?_ | refine blk_alloc ?_ _)); refine blk_far ?_ NB121_128.out _; (with_reducible repeat (first | refine blk_drewN ?_ _ | refine blk_drew ?_ | refine blk_alloc ?_ _)); exact BK121.out) hb); have n8_ := Aside0.mk (blk_below (g := gb127) (o := .cells #[.int .i64 t125, .int .i64 t126] 25 (0, 0)) (by (with_reducible repeat (first | refine blk_drewN ?_ _ | refine blk_drew ?_ | refine blk_alloc ?_ _)); refine blk_far ?_ NB127_128.out _; (with_reducible repeat (first | refine blk_drewN ?_ _ | refine blk_drew ?_ | refine blk_alloc ?_ _)); refine blk_far ?_ NB127_128.out _; (with_reducible repeat (first | refine blk_drewN ?_ _ | refine blk_drew ?_ | refine blk_alloc ?_ _)); exact BK127.out) hb); have n9_ := Aside0.mk (blk_below (g := gb128) (o := .cells #[.int .i64 40, .int .i64 0] 25 (0, 0)) (by (with_reducible repeat (first | refine blk_drewN ?_ _ | refine blk_drew ?_ | refine blk_alloc ?_ _)); refine blk_put (cs := #[.int .i64 40, .int .i64 0]) ?_ 1 _ rfl; (with_reducible repeat (first | refine blk_drewN ?_ _ | refine blk_drew ?_ | refine blk_alloc ?_ _)); refine blk_put (cs := #[.int .i64 0, .int .i64 0]) ?_ 0 _ rfl; (with_reducible repeat (first | refine blk_drewN ?_ _ | refine blk_drew ?_ | refine blk_alloc ?_ _)); exact BK128.out) hb); have n10_ := Aside0.mk (below_step (by repeat (first | (with_reducible first | exact HB.out | apply below_alloc | apply pw_below_drewN | apply below_drew1 | refine below_set ?_ GE109.out | refine below_set ?_ GE115.out | refine below_set ?_ GE121.out | refine below_set ?_ GE127.out | refine below_set ?_ GE128.out) | exact HB.out)) hb); clear HO106; clear HO112; clear HO118; clear HO124; clear BK109; clear BK115; clear BK121; clear BK127; clear BK128; clear HB; have HO106 := n0_; have HO112 := n1_; have HO118 := n2_; have HO124 := n3_; have HO131 := n4_; have BK109 := n5_; have BK115 := n6_; have BK121 := n7_; have BK127 := n8_; have BK128 := n9_; have HB := n10_; clear n0_ n1_ n2_ n3_ n4_ n5_ n6_ n7_ n8_ n9_ n10_; clear hb ho41; obtain ⟨Ao42, co42, eo42⟩ := Kd.R_slice HO112.out; subst eo42; obtain ⟨Ao43, co43, eo43⟩ := Kd.R_slice HO131.out; subst eo43) | (go_at_call 13; (with_reducible refine (variorumref04_Runes.calls k _ _ t110 _ _ y129 true _ ?side1 ?side2 ?side3 ?side4 A7.out).mono ?_); (case side1 => repeat (first | exact (Kd.R_reads' HO112.out).2.2 | (with_reducible refine Kd.C_alloc ?_ _) | (with_reducible refine Kd.C_drewN ?_ _) | (with_reducible refine Kd.C_drew ?_))); (case side2 => exact (Kd.R_reads' HO112.out).2.1); (case side3 => repeat (first | exact (Kd.R_reads' HO131.out).2.2 | (with_reducible refine Kd.C_alloc ?_ _) | (with_reducible refine Kd.C_drewN ?_ _) | (with_reducible refine Kd.C_drew ?_))); (case side4 => exact (Kd.R_reads' HO131.out).2.1); rintro e w' ⟨rfl, ⟨nd, rfl⟩⟩; have hcz44_0 : w40.cell? ⟨gb121, 0, none⟩ = some (.int .i64 t119) := (blk_cell BK121.out 0).trans rfl; have hcz44_1 : w40.cell? ⟨gb121, 1, none⟩ = some (.int .i64 t120) := (blk_cell BK121.out 1).trans rfl; have hfz44_0 := blk_frozen BK121.out 0; have hfz44_1 := blk_frozen BK121.out 1; have hcz45_0 : w40.cell? ⟨gb128, 0, none⟩ = some (.int .i64 40) := (blk_cell BK128.out 0).trans rfl; have hcz45_1 : w40.cell? ⟨gb128, 1, none⟩ = some (.int .i64 0) := (blk_cell BK128.out 1).trans rfl; have hfz45_0 := blk_frozen BK128.out 0; have hfz45_1 := blk_frozen BK128.out 1; have hcz46_0 : w40.cell? ⟨gb127, 0, none⟩ = some (.int .i64 t125) := (blk_cell BK127.out 0).trans rfl; have hcz46_1 : w40.cell? ⟨gb127, 1, none⟩ = some (.int .i64 t126) := (blk_cell BK127.out 1).trans rfl; have hfz46_0 := blk_frozen BK127.out 0; have hfz46_1 := blk_frozen BK127.out 1) | (go_at_call 17; (with_reducible refine (utf_Letter.calls k 1114111 true _ A11.out).mono ?_); rintro e w' ⟨rfl, ⟨nd, rfl⟩⟩) | (go_at_call 17; (with_reducible refine (utf_Letter.calls k 55296 t134 _ A13.out).mono ?_); rintro e w' ⟨rfl, ⟨nd, rfl⟩⟩))
       go_ret
       exact ⟨by first | rfl | (simp [errW_none, errW_some] <;> rfl) | (simp [*, errW_none, errW_some] <;> rfl), by repeat (first | (with_reducible first | exact HB.out | apply below_alloc | apply pw_below_drewN | apply below_drew1 | refine below_set ?_ GE109.out | refine below_set ?_ GE115.out | refine below_set ?_ GE121.out | refine below_set ?_ GE127.out | refine below_set ?_ GE128.out) | exact HB.out)⟩
      ·replace c12 := Bool.eq_false_iff.mpr c12
       subst c12
       have H1 : (none) = some r := by rw [if_neg (show ¬ (false = true) by decide)] at H; exact H
       clear H
       have H := H1
       clear H1
       exact absurd H (by simp)
     ·rw [if_neg c10] at H
      exact absurd H (by simp)
    ·rw [if_neg c9] at H
     exact absurd H (by simp)
   ·replace c8 := Bool.eq_false_iff.mpr c8
    subst c8
    have H1 : (none) = some r := by rw [if_neg (show ¬ (false = true) by decide)] at H; exact H
    clear H
    have H := H1
    clear H1
    exact absurd H (by simp)
  ·rw [if_neg c6] at H
   exact absurd H (by simp)
 ·rw [if_neg c5] at H
  exact absurd H (by simp)

end Go.Proofs.YtbcbiigjgofagaaDoor.PUt

/- Written by a program of this session: functions of the given program as plain Lean functions, the walks that show it, and the row of each law, for every input that its statement speaks of. -/
import Derived.Test.YtjiljpddkfcdbaaGreatDoorPLxx0
namespace Go.Proofs.YtjiljpddkfcdbaaGreatDoor.PLx
open Go.RowKit Go.Proofs.YtjiljpddkfcdbaaGreatDoorW.PrintWords Go.Proofs.YtjiljpddkfcdbaaGreatDoorW.PrintLast Go.Proofs.YtjiljpddkfcdbaaGreatDoorW.PrintMore
attribute [local go_sem] max2_int min2_int max_two min_two max_three min_three max_four min_four   -- for this text's walks alone
set_option linter.unusedVariables false
set_option linter.unusedSimpArgs false

theorem utf_Decodeinfo : (Tryz.prog.info? 21).map (fun i => (i.zero, i.size, i.bytes)) = some (some (.int .i32 0), 1, 4) := by kernel_rfl
/-! ### the closure: function 41 -/
set_option maxHeartbeats 8000000 in
set_option maxRecDepth 100000 in
theorem utf_Decode.clo (w0 w : World) (gb : Nat) (a1 a2 : Int) (v : Value) (xs : List Int)
  (hb : w.heap[gb]? = some (.cells #[v] 42 (0, 0))) (hgb : w0.heap.size ≤ gb) (ho : Kd.R (Kd.int .i32) 21 w w0.heap.size (fun _ => True) v xs) (hB : Below w0.heap.size w0 w) (hl : xs.length < 17592186044416) :
  Calls Tryz.prog 41 #[.int .i64 a1, .int .i32 a2, .pointer (some ⟨gb, 0, none⟩)] w fun e w' => e = .returned (.tuple #[]) ∧ ∃ v', w'.heap[gb]? = some (.cells #[v'] 42 (0, 0)) ∧ Kd.R (Kd.int .i32) 21 w' w0.heap.size (fun _ => True) v' (xs ++ [a2]) ∧ Below w0.heap.size w0 w' := by
 have hu := Tryz.underlying42
 obtain ⟨A9, k9, e9⟩ := Kd.R_slice ho
 subst e9
 have BK := Aside0.mk hb
 have GE := Aside0.mk hgb
 have HO := Aside0.mk ho
 have HB := Aside0.mk hB
 have LM := Aside0.mk hl
 have hc0 : w.cell? ⟨gb, 0, none⟩ = some (.slice A9 xs.length k9) := (blk_cell hb 0).trans rfl
 have hf0 := blk_frozen hb 0
 clear hb hgb ho hB hl
 go_enter Tryz.func41, Tryz.ntmps41
 go_wp2_with (first | ((with_reducible refine gate_builtin (b := .append) (xs := #[.tmp 5, .tmp 7]) rfl ?_); at_builtin; refine Kd.R_append (Kd.int .i32) (w0 := w0) w0.heap.size rfl (.tmp 5) (.tmp 7) 42 21 (.int .i32 0) 4 rfl Tryz.underlying42 utf_Decodeinfo rfl (by decide) (by omega) (.slice A9 xs.length k9) xs a2 [.int .i32 a2] (fun _ => True) (fun _ => False) rfl rfl ?aP (fun _ hk => hk.elim) ?aF ?aO ?aB ?aS ?aL ?_; (case aP => exact rfl); (case aB => exact (by repeat (first | (with_reducible first | exact HB.out | apply below_alloc | apply pw_below_drewN | apply below_drew1) | exact HB.out))); (case aF => exact (fun _ _ => trivial)); (case aO => exact (by (with_reducible repeat (first | apply Kd.R_alloc | apply Kd.R_drewN | apply Kd.R_drew)); exact HO.out)); (case aS => exact (below_size (by repeat (first | (with_reducible first | exact HB.out | apply below_alloc | apply pw_below_drewN | apply below_drew1) | exact HB.out)))); (case aL => have := LM.out; omega); intro v1 w5 ho hb hg hat; have BK5 := Aside0.mk (blk_grown (g := gb) (o := .cells #[.slice A9 xs.length k9] 42 (0, 0)) (by (with_reducible repeat (first | refine blk_drewN ?_ _ | refine blk_drew ?_ | refine blk_alloc ?_ _)); exact BK.out) hg (Kd.R_ne HO.out BK.out (by decide))); have HO5 := Aside0.mk ho; have HB5 := Aside0.mk hb; clear ho hb hg hat; have hd0 : w5.cell? ⟨gb, 0, none⟩ = some (.slice A9 xs.length k9) := (blk_cell BK5.out 0).trans rfl; have hg0 := blk_frozen BK5.out 0; obtain ⟨A5, k5, e5⟩ := Kd.R_slice HO5.out; rw [List.length_append] at e5; subst e5))
 go_end0
 exact ⟨rfl, _, blk_put BK5.out 0 _ rfl, Kd.R_set HO5.out BK5.out (by decide) 0 _, Below.setCell HB5.out GE.out _⟩

/-! ### utf.walk with it: function 40 -/
def utf_Decode.l0 : Nat → ByteArray → List Int → Int → Option (List Int × Int)
 | 0, _, _, _ => none
 | k + 1, s, xs, at_ => if at_ < (s.size : Int) then (if 0 ≤ at_ then (if xs.length < 17592186044416 then (if ((Lib.decodeGo (s.extract at_.toNat s.size)).1 : Int) = 65533 then (if ((Lib.decodeGo (s.extract at_.toNat s.size)).2 : Int) = 1 then some (xs, at_) else utf_Decode.l0 k s (xs ++ [((Lib.decodeGo (s.extract at_.toNat s.size)).1 : Int)]) (wrap64 (at_ + ((Lib.decodeGo (s.extract at_.toNat s.size)).2 : Int)))) else utf_Decode.l0 k s (xs ++ [((Lib.decodeGo (s.extract at_.toNat s.size)).1 : Int)]) (wrap64 (at_ + ((Lib.decodeGo (s.extract at_.toNat s.size)).2 : Int)))) else none) else none) else some (xs, -1)
theorem utf_Decode.mono_l : ∀ k s xs i, LeO (utf_Decode.l0 k s xs i) (utf_Decode.l0 (k + 1) s xs i)
 | 0 => fun _ _ _ r h => by simp [utf_Decode.l0] at h
 | k + 1 => by
  intro s xs i
  have ih := utf_Decode.mono_l k
  unfold utf_Decode.l0
  exact LeO.ite (LeO.ite (LeO.ite (LeO.ite (LeO.ite (LeO.refl _) (ih _ _ _)) (ih _ _ _)) (LeO.refl _)) (LeO.refl _)) (LeO.refl _)
set_option maxHeartbeats 8000000 in
set_option maxRecDepth 100000 in
theorem utf_Decode.walk (k : Nat) (w0 w : World) (gb : Nat) (s : ByteArray) (v : Value) (xs r : List Int) (ri : Int) (hT : Lib.Utf8Tabs 0 1 w0)
  (hb : w.heap[gb]? = some (.cells #[v] 42 (0, 0))) (hgb : w0.heap.size ≤ gb) (ho : Kd.R (Kd.int .i32) 21 w w0.heap.size (fun _ => True) v xs) (hB : Below w0.heap.size w0 w) (h : utf_Decode.l0 k s xs 0 = some (r, ri)) :
  Calls Tryz.prog 40 #[.string s, .func (.func 41) #[] #[.pointer (some ⟨gb, 0, none⟩)]] w fun e w' => e = .returned (.int .i64 ri) ∧ ∃ v', w'.heap[gb]? = some (.cells #[v'] 42 (0, 0)) ∧ Kd.R (Kd.int .i32) 21 w' w0.heap.size (fun _ => True) v' r ∧ Below w0.heap.size w0 w' := by
 have BK := Aside0.mk hb
 have GE := Aside0.mk hgb
 have HO := Aside0.mk ho
 have HB := Aside0.mk hB
 have HT := Aside0.mk hT
 have H' := Aside0.mk h
 clear hb hgb ho hB hT h
 go_enter Tryz.func40, Tryz.ntmps40
 go_wp2
 go_loopg [5] k (fun kq v5 w' => ∃ (i : Int) (v : Value) (xs : List Int), v5 = .int .i64 i ∧ Aside0 (utf_Decode.l0 kq s xs i = some (r, ri)) ∧ Aside0 (kq ≤ k) ∧ Aside0 (w'.heap[gb]? = some (.cells #[v] 42 (0, 0))) ∧ Aside0 (Kd.R (Kd.int .i32) 21 w' w0.heap.size (fun _ => True) v xs) ∧ Aside0 (Below w0.heap.size w0 w'))
 case atStart => exact ⟨0, v, xs, rfl, H', ⟨Nat.le_refl _⟩, BK, HO, HB⟩
 case round =>
  clear H' BK HO HB
  obtain ⟨i, v, xs, rfl, HA, HK1, BK, HO, HB⟩ := hrel
  cases gk with
  | zero => exact absurd HA.out (by simp [utf_Decode.l0])
  | succ k1 =>
   have H := HA.out
   clear HA
   simp only [utf_Decode.l0] at H
   by_cases c5 : i < (s.size : Int)
   ·rw [if_pos c5] at H
    by_cases c6 : 0 ≤ i
    ·rw [if_pos c6] at H
     by_cases c7 : xs.length < 17592186044416
     ·rw [if_pos c7] at H
      have LM := Aside0.mk c7
      clear c7
      obtain ⟨C, hC⟩ : ∃ C : Int, C = ((Lib.decodeGo (s.extract i.toNat s.size)).1 : Int) := ⟨_, rfl⟩
      obtain ⟨W, hW⟩ : ∃ W : Int, W = ((Lib.decodeGo (s.extract i.toNat s.size)).2 : Int) := ⟨_, rfl⟩
      rw [← hC, ← hW] at H
      have hD : ∀ w1 : World, Below w0.heap.size w0 w1 → Calls Tryz.prog 52 #[.string (s.extract i.toNat s.size)] w1 fun e w' => e = .returned (.tuple #[.int .i32 C, .int .i64 W]) ∧ Below w1.heap.size w1 w' := by
       intro w1 hb1
       rw [hC, hW]
       exact Tryz.utf8_DecodeRuneInString _ w1 (Utf8Tabs_below HT.out hb1)
      have ND := Aside0.mk hD
      clear hD hC hW
      have c5b := decide_eq_true c5
      have c6c : decide (0 ≤ i) = true := decide_eq_true c6
      have c7a : i ≤ (s.size : Int) := by omega
      have c7b := decide_eq_true c7a
      replace c7a := eq_true c7a
      replace c6 := eq_true c6
      replace c5 := eq_true c5
      by_cases c8 : C = 65533
      ·rw [if_pos c8] at H
       by_cases c9 : W = 1
       ·rw [if_pos c9] at H
        simp only [Option.some.injEq, Prod.mk.injEq] at H
        obtain ⟨rfl, rfl⟩ := H
        have c8b : (C == 65533) = true := beq_iff_eq.mpr c8
        have c9b : (W == 1) = true := beq_iff_eq.mpr c9
        clear c8 c9
        go_wp2_with (go_at_call 52; refine (ND.out _ HB.out).mono ?_; rintro e w6 ⟨rfl, hb⟩; have BK6 := Aside0.mk (blk_below BK.out hb); have HO6 := Aside0.mk (Kd.R_below HO.out hb); have HB6 := Aside0.mk (below_then HB.out HB.out.size hb); clear hb)
        go_ret
        exact ⟨rfl, _, BK6.out, HO6.out, HB6.out⟩
       ·rw [if_neg c9] at H
        have H' := Aside0.mk H
        clear H
        have c8b : (C == 65533) = true := beq_iff_eq.mpr c8
        have c9b : (W == 1) = false := beq_eq_false_iff_ne.mpr c9
        clear c8 c9
        go_wp2_with (first
         | (go_at_call 52; refine (ND.out _ HB.out).mono ?_; rintro e w6 ⟨rfl, hb⟩; have BK6 := Aside0.mk (blk_below BK.out hb); have HO6 := Aside0.mk (Kd.R_below HO.out hb); have HB6 := Aside0.mk (below_then HB.out HB.out.size hb); clear hb)
         | (go_at_call 41; refine (utf_Decode.clo w0 _ gb i C v xs BK6.out GE.out HO6.out HB6.out LM.out).mono ?_; rintro e w7 ⟨rfl, v7, hb, ho, hB⟩; have BK7 := Aside0.mk hb; have HO7 := Aside0.mk ho; have HB7 := Aside0.mk hB; clear hb ho hB))
        go_roundg k1
        case measure => omega
        case rel => exact ⟨_, v7, _, rfl, H', ⟨by have := HK1.out; omega⟩, BK7, HO7, HB7⟩
      ·rw [if_neg c8] at H
       have H' := Aside0.mk H
       clear H
       have c8b : (C == 65533) = false := beq_eq_false_iff_ne.mpr c8
       clear c8
       go_wp2_with (first
        | (go_at_call 52; refine (ND.out _ HB.out).mono ?_; rintro e w6 ⟨rfl, hb⟩; have BK6 := Aside0.mk (blk_below BK.out hb); have HO6 := Aside0.mk (Kd.R_below HO.out hb); have HB6 := Aside0.mk (below_then HB.out HB.out.size hb); clear hb)
        | (go_at_call 41; refine (utf_Decode.clo w0 _ gb i C v xs BK6.out GE.out HO6.out HB6.out LM.out).mono ?_; rintro e w7 ⟨rfl, v7, hb, ho, hB⟩; have BK7 := Aside0.mk hb; have HO7 := Aside0.mk ho; have HB7 := Aside0.mk hB; clear hb ho hB))
       go_roundg k1
       case measure => omega
       case rel => exact ⟨_, v7, _, rfl, H', ⟨by have := HK1.out; omega⟩, BK7, HO7, HB7⟩
     ·rw [if_neg c7] at H
      exact absurd H (by simp)
    ·rw [if_neg c6] at H
     exact absurd H (by simp)
   ·rw [if_neg c5] at H
    simp only [Option.some.injEq, Prod.mk.injEq] at H
    obtain ⟨rfl, rfl⟩ := H
    have c5b := decide_eq_false c5
    replace c5 := eq_false c5
    go_wp2
    go_ret
    exact ⟨rfl, _, BK.out, HO.out, HB.out⟩

/-! ### utf_Decode: function 23 -/
def utf_Decode.f (k : Nat) (a0 : ByteArray) : Option (List Int × Int × Int) := (utf_Decode.l0 k a0 [] 0).bind fun b => if b.2 ≥ 0 then some ([], 40, b.2) else some (b.1, 0, 0)
theorem utf_Decode.mono : ∀ a0 k, LeO (utf_Decode.f k a0) (utf_Decode.f (k + 1) a0) := by
 intro a0 k
 unfold utf_Decode.f
 exact LeO.bind (utf_Decode.mono_l _ _ _ _) (fun _ => LeO.refl _)
set_option maxHeartbeats 8000000 in
set_option maxRecDepth 100000 in
theorem utf_Decode.calls (k : Nat) (a0 : ByteArray) (r1 : List Int) (r2 : Int) (r3 : Int) (w : World) (hT : Lib.Utf8Tabs 0 1 w) (h : utf_Decode.f k a0 = some (r1, r2, r3)) :
  Calls Tryz.prog 23 #[.string a0] w fun e w' => ∃ v0_ : Value, e = .returned (.tuple #[v0_, .agg #[.int .i64 r2, .int .i64 r3]]) ∧ Kd.R (Kd.int .i32) 21 w' w.heap.size (fun _ => True) v0_ r1 ∧ Below w.heap.size w w' := by
 have hu42 := Tryz.underlying42
 have hu25 := Tryz.underlying25
 have hmf : ∀ (fn : Fn) (first cap : Array Value) (w : World), (Instr.makeFunc fn first cap).run Tryz.prog w = .ok (.func fn first cap) w := fun _ _ _ _ => rfl
 have HT := Aside0.mk hT
 obtain ⟨⟨xs, p⟩, A20, H⟩ := Option.bind_eq_some_iff.mp (show ((utf_Decode.l0 k a0 [] 0).bind fun b => if b.2 ≥ 0 then some (([] : List Int), (40 : Int), b.2) else some (b.1, 0, 0)) = some (r1, r2, r3) from h)
 replace H : (if p ≥ 0 then some (([] : List Int), (40 : Int), p) else some (xs, 0, 0)) = some (r1, r2, r3) := H
 have A2 := Aside0.mk A20
 clear A20 hT h
 by_cases c3 : p ≥ 0
 ·rw [if_pos c3] at H
  have c3b : decide (0 ≤ p) = true := decide_eq_true c3
  clear c3
  simp only [Option.some.injEq, Prod.mk.injEq] at H
  obtain ⟨rfl, rfl, rfl⟩ := H
  go_enter Tryz.func23, Tryz.ntmps23
  go_wp2_with (first | ((with_reducible refine gate_dst (N := 3) rfl ?_); refine box_event ?hg (N := 3) ?hd (cs := #[.int .i64 0, .int .i64 0]) (t := 25) ?hr ?_; (case hd => rfl); (case hg => rfl); (case hr => first | (go_simp; done) | (go_simp; rfl)); intro g3 hg w1 hbox hb; have B1 := Aside0.mk hb; have R1 := Aside0.mk hbox; have G3 := Aside0.mk (show w.heap.size ≤ g3 by rw [hg]; exact Nat.le_refl _); clear hb hbox hg) | ((with_reducible refine gate_dst (N := 4) rfl ?_); refine box_event ?hg (N := 4) ?hd (cs := #[.slice none 0 0]) (t := 42) ?hr ?_; (case hd => rfl); (case hg => rfl); (case hr => first | (go_simp; done) | (go_simp; rfl)); intro g4 hg w2 hbox hb; have B2 := Aside0.mk (below_then B1.out B1.out.size hb); have R2 := Aside0.mk (blk_below R1.out hb); have K2 := Aside0.mk hbox; have G4 := Aside0.mk (show w1.heap.size ≤ g4 by rw [hg]; exact Nat.le_refl _); have B3 := Aside0.mk hb; clear hb hbox hg) | (go_at_call 40; refine (utf_Decode.walk k w1 _ g4 a0 (.slice none 0 0) [] xs p (Utf8Tabs_below HT.out B1.out) K2.out G4.out (Kd.R_nil _ _ _ _ _) B3.out A2.out).mono ?_; rintro e w6 ⟨rfl, v6, hb, ho, hB⟩; have HO := Aside0.mk ho; have BR := Aside0.mk (blk_below R1.out hB); have HB := Aside0.mk (below_then B1.out B1.out.size hB); have hk0 : w6.cell? ⟨g4, 0, none⟩ = some v6 := (blk_cell hb 0).trans rfl; have hk1 := blk_frozen hb 0; have hz0 : w6.cell? ⟨g3, 0, none⟩ = some (.int .i64 0) := (blk_cell BR.out 0).trans rfl; have hf0 := blk_frozen BR.out 0; have hz1 : w6.cell? ⟨g3, 1, none⟩ = some (.int .i64 0) := (blk_cell BR.out 1).trans rfl; have hf1 := blk_frozen BR.out 1; clear hb ho hB))
  refine bodyPost_ret (results_tc rfl _ _ g3 25 #[.int .i64 40, .int .i64 p] (0, 0) _ rfl (blk_put (cs := #[.int .i64 40, .int .i64 0]) (blk_put BR.out 0 _ rfl) 1 _ rfl) Tryz.underlying25 rfl (by kernel_rfl)) rfl ?_
  exact ⟨_, rfl, Kd.R_nil _ _ _ _ _, Below.setCell (Below.setCell HB.out G3.out _) G3.out _⟩
 ·rw [if_neg c3] at H
  have c3b : decide (0 ≤ p) = false := decide_eq_false c3
  clear c3
  simp only [Option.some.injEq, Prod.mk.injEq] at H
  obtain ⟨rfl, rfl, rfl⟩ := H
  go_enter Tryz.func23, Tryz.ntmps23
  go_wp2_with (first | ((with_reducible refine gate_dst (N := 3) rfl ?_); refine box_event ?hg (N := 3) ?hd (cs := #[.int .i64 0, .int .i64 0]) (t := 25) ?hr ?_; (case hd => rfl); (case hg => rfl); (case hr => first | (go_simp; done) | (go_simp; rfl)); intro g3 hg w1 hbox hb; have B1 := Aside0.mk hb; have R1 := Aside0.mk hbox; have G3 := Aside0.mk (show w.heap.size ≤ g3 by rw [hg]; exact Nat.le_refl _); clear hb hbox hg) | ((with_reducible refine gate_dst (N := 4) rfl ?_); refine box_event ?hg (N := 4) ?hd (cs := #[.slice none 0 0]) (t := 42) ?hr ?_; (case hd => rfl); (case hg => rfl); (case hr => first | (go_simp; done) | (go_simp; rfl)); intro g4 hg w2 hbox hb; have B2 := Aside0.mk (below_then B1.out B1.out.size hb); have R2 := Aside0.mk (blk_below R1.out hb); have K2 := Aside0.mk hbox; have G4 := Aside0.mk (show w1.heap.size ≤ g4 by rw [hg]; exact Nat.le_refl _); have B3 := Aside0.mk hb; clear hb hbox hg) | (go_at_call 40; refine (utf_Decode.walk k w1 _ g4 a0 (.slice none 0 0) [] xs p (Utf8Tabs_below HT.out B1.out) K2.out G4.out (Kd.R_nil _ _ _ _ _) B3.out A2.out).mono ?_; rintro e w6 ⟨rfl, v6, hb, ho, hB⟩; have HO := Aside0.mk ho; have BR := Aside0.mk (blk_below R1.out hB); have HB := Aside0.mk (below_then B1.out B1.out.size hB); have hk0 : w6.cell? ⟨g4, 0, none⟩ = some v6 := (blk_cell hb 0).trans rfl; have hk1 := blk_frozen hb 0; have hz0 : w6.cell? ⟨g3, 0, none⟩ = some (.int .i64 0) := (blk_cell BR.out 0).trans rfl; have hf0 := blk_frozen BR.out 0; have hz1 : w6.cell? ⟨g3, 1, none⟩ = some (.int .i64 0) := (blk_cell BR.out 1).trans rfl; have hf1 := blk_frozen BR.out 1; clear hb ho hB))
  refine bodyPost_ret (results_tc rfl _ _ g3 25 #[.int .i64 0, .int .i64 0] (0, 0) _ rfl (blk_put (cs := #[.int .i64 0, .int .i64 0]) (blk_put BR.out 0 _ rfl) 1 _ rfl) Tryz.underlying25 rfl (by kernel_rfl)) rfl ?_
  exact ⟨_, rfl, Kd.R_lower (Kd.R_set (Kd.R_set HO.out BR.out (by decide) 0 _) (blk_put (cs' := #[.int .i64 0, .int .i64 0]) BR.out 0 _ rfl) (by decide) 1 _) B1.out.size, Below.setCell (Below.setCell HB.out G3.out _) G3.out _⟩


/-! ### lexer_Lex: function 10, by hand -/
def tokS (t : Tok) : S38 := ⟨(t.1 : Int), ⟨t.2.1.toArray⟩, (t.2.2 : Int)⟩
def lexer_Lex.out (s : ByteArray) : List S38 × Int × Int := match (lexK (s.size + 1) 0 s.data.toList).2 with
 | none => ((lexK (s.size + 1) 0 s.data.toList).1.map tokS, 0, 0)
 | some p => ([], 50, (p : Int))
def lexer_Lex.f (k : Nat) (a0 : ByteArray) : Option (List S38 × Int × Int) := if a0.size ≤ 4000000000000 then (utf_Decode.f k a0).bind fun d => if d.2.1 = 0 then some (lexer_Lex.out a0) else some ([], d.2.1, d.2.2) else none
theorem lexer_Lex.mono : ∀ a0 k, LeO (lexer_Lex.f k a0) (lexer_Lex.f (k + 1) a0) := by
 intro a0 k
 unfold lexer_Lex.f
 exact LeO.ite (LeO.bind (utf_Decode.mono _ _) (fun _ => LeO.refl _)) (LeO.refl _)
theorem Kd_turns {e : Nat} {α : Type} {d : Kd α} {base : Nat} {ok : Nat → Prop} {v : Value} {xs : List α} {w w1 : World} (h : d.R e w base ok v xs) {rb t : Nat} {cells : Array Value} (tn : Turns (fun k => k = rb) w w1) (hb : w.heap[rb]? = some (.cells cells t (0, 0))) (ht : ∀ q, q ∈ e :: d.E → q ≠ t) : d.R e w1 base ok v xs :=
 Kd.R_mono (Kd.R_step (Kd.R_types h hb ht) (fun k ho hk => tn.block k hk ho.2)) (fun _ hk => hk.1)
theorem far_blk {w : World} {g : Nat} {o : Obj} (h : w.heap[g]? = some o) {p : Addr} (hne : ¬ g = p.block) (u : Value) : (w.setCell p u).heap[g]? = some o := (Below.heap_setCell w p u g hne).trans h
theorem ext_str (s : ByteArray) (a b : Nat) : s.extract a b = ⟨((s.data.toList.drop a).take (b - a)).toArray⟩ := by
 rw [← Lib.extract_data]
theorem head_next (s : ByteArray) (i : Nat) : (s.data.toList.drop (i + 1)).headD 0 = nextb s i := by
 unfold nextb
 rw [List.headD_eq_head?_getD, List.head?_drop]
set_option maxHeartbeats 8000000 in
set_option maxRecDepth 100000 in
theorem lexer_Lex.calls (k : Nat) (a0 : ByteArray) (r1 : List S38) (r2 : Int) (r3 : Int) (w : World) (hT : Lib.Utf8Tabs 0 1 w) (h : lexer_Lex.f k a0 = some (r1, r2, r3)) :
  Calls Tryz.prog 10 #[.string a0] w fun e w' => ∃ v0_ : Value, e = .returned (.tuple #[v0_, .agg #[.int .i64 r2, .int .i64 r3]]) ∧ Kd.R k38 38 w' w.heap.size (fun _ => True) v0_ r1 ∧ Below w.heap.size w w' := by
 unfold lexer_Lex.f at h
 by_cases hs : a0.size ≤ 4000000000000
 case neg => rw [if_neg hs] at h; cases h
 rw [if_pos hs] at h
 obtain ⟨⟨d1, d2, d3⟩, hd, h'⟩ := Option.bind_eq_some_iff.mp h
 clear h
 have h : (if d2 = 0 then some (lexer_Lex.out a0) else some ([], d2, d3)) = some (r1, r2, r3) := h'
 clear h'
 have hu25 := Tryz.underlying25
 have hu38 := Tryz.underlying38
 have HD := Aside0.mk hd
 have HT := Aside0.mk hT
 have HH := Aside0.mk h
 clear hd hT
 clear h
 go_enter Tryz.func10, Tryz.ntmps10
 go_wp2_with fail
 obtain ⟨q, hq⟩ : ∃ q, q = w.heap.size := ⟨_, rfl⟩
 obtain ⟨w1, hw1⟩ : ∃ w1, w1 = w.alloc (.cells #[.int .i64 0, .int .i64 0] 25 (0, 0)) := ⟨_, rfl⟩
 have K1 : w1.heap[q]? = some (.cells #[.int .i64 0, .int .i64 0] 25 (0, 0)) := by rw [hw1, hq]; exact blk_new _ _
 have B1 : Below w.heap.size w w1 := by rw [hw1]; exact below_alloc (Below.refl _ _) _
 rw [← hw1, ← hq]
 clear hw1
 refine (utf_Decode.calls k a0 d1 d2 d3 w1 (Utf8Tabs_below HT.out B1) HD.out).mono ?_
 rintro e w2 ⟨v0, rfl, _, hb2⟩
 have K2 := (hb2.block q (blk_lt K1)).trans K1
 have B2 := B1.trans (hb2.mono B1.size)
 have hqz : w.heap.size ≤ q := by omega
 have HQ := Aside0.mk hq
 clear K1 B1 hb2 HD hq
 by_cases h2 : ¬ d2 = 0
 ·have HH2 := HH.out
  rw [if_neg h2] at HH2
  obtain ⟨rfl, rfl, rfl⟩ : r1 = [] ∧ r2 = d2 ∧ r3 = d3 := by injection HH2 with h; injection h with a b; injection b with b c; exact ⟨a.symm, b.symm, c.symm⟩
  have h2b : (r2 != 0) = true := by simpa using h2
  have P := Aside0.mk (And.intro (blk_alloc K2 (.cells #[.int .i64 r2, .int .i64 r3] 25 (0, 0))) (And.intro (blk_new w2 (.cells #[.int .i64 r2, .int .i64 r3] 25 (0, 0))) (below_alloc B2 (.cells #[.int .i64 r2, .int .i64 r3] 25 (0, 0)))))
  clear HH HH2 K2 B2 HT h2
  go_wp2
  generalize w2.alloc (.cells #[.int .i64 r2, .int .i64 r3] 25 (0, 0)) = w3 at *
  have hqlt := blk_lt P.out.1
  have hflt := blk_lt P.out.2.1
  have e0 : w3.cell? ⟨q, 0, none⟩ = some (.int .i64 0) := by rw [blk_cell P.out.1]; rfl
  have e1 : w3.cell? ⟨q, 1, none⟩ = some (.int .i64 0) := by rw [blk_cell P.out.1]; rfl
  have z0 := blk_frozen P.out.1 0
  have z1 := blk_frozen P.out.1 1
  have f0 : w3.cell? ⟨w2.heap.size, 0, none⟩ = some (.int .i64 r2) := by rw [blk_cell P.out.2.1]; rfl
  have f1 : w3.cell? ⟨w2.heap.size, 1, none⟩ = some (.int .i64 r3) := by rw [blk_cell P.out.2.1]; rfl
  go_region
  all_goals go_wp2
  all_goals refine bodyPost_ret (results_tc rfl _ _ q 25 #[.int .i64 r2, .int .i64 r3] (0, 0) _ rfl (blk_put (cs := #[.int .i64 r2, .int .i64 0]) (blk_put (blk_drew P.out.1) 0 _ rfl) 1 _ rfl) Tryz.underlying25 rfl (by kernel_rfl)) rfl ?_
  all_goals exact ⟨_, rfl, Kd.R_nil _ _ _ _ _, Below.setCell (Below.setCell P.out.2.2.drew hqz _) hqz _⟩
 ·have h2 : d2 = 0 := by simpa using h2
  subst h2
  have HH2 := HH.out
  rw [if_pos rfl] at HH2
  have hout : lexer_Lex.out a0 = (r1, r2, r3) := Option.some.inj HH2
  obtain ⟨X, hX⟩ : ∃ X, lexK (a0.size + 1) 0 a0.data.toList = X := ⟨_, rfl⟩
  unfold lexer_Lex.out at hout
  rw [hX] at hout
  have HO := Aside0.mk hout
  have HX := Aside0.mk hX
  clear HH HH2 hout hX HT
  go_wp2
  obtain ⟨rb, hrb⟩ : ∃ rb, rb = w2.heap.size + 1 := ⟨_, rfl⟩
  rw [← hrb]
  have hsz : (w2.alloc (.cells #[.int .i64 0, .int .i64 d3] 25 (0, 0))).heap.size = rb := by rw [size_alloc, hrb]
  have P : Aside0 (((w2.alloc (.cells #[.int .i64 0, .int .i64 d3] 25 (0, 0))).alloc (.cells #[.string a0, .int .i64 0] 47 (0, 0))).heap[q]? = some (.cells #[.int .i64 0, .int .i64 0] 25 (0, 0)) ∧ Rdr rb a0 0 ((w2.alloc (.cells #[.int .i64 0, .int .i64 d3] 25 (0, 0))).alloc (.cells #[.string a0, .int .i64 0] 47 (0, 0))) ∧ Below w.heap.size w ((w2.alloc (.cells #[.int .i64 0, .int .i64 d3] 25 (0, 0))).alloc (.cells #[.string a0, .int .i64 0] 47 (0, 0)))) := ⟨blk_alloc (blk_alloc K2 _) _, new_at hsz _, below_alloc (below_alloc B2 _) _⟩
  have hrbz : w.heap.size ≤ rb := by have := B2.size; omega
  have hqrb : ¬ q = rb := by have := blk_lt K2; omega
  clear K2 B2 hsz hrb
  generalize (w2.alloc (.cells #[.int .i64 0, .int .i64 d3] 25 (0, 0))).alloc (.cells #[.string a0, .int .i64 0] 47 (0, 0)) = w3 at *
  go_loopg [7] (a0.size + 1) (fun gk u7 w' => ∃ (i : Nat) (toks : List Tok), Aside0 (i ≤ a0.size ∧ a0.size < gk + i ∧ toks.length ≤ i ∧ (toks ++ (lexK gk i (a0.data.toList.drop i)).1, (lexK gk i (a0.data.toList.drop i)).2) = X) ∧ Aside0 (w'.heap[q]? = some (.cells #[.int .i64 0, .int .i64 0] 25 (0, 0))) ∧ Aside0 (Rdr rb a0 i w') ∧ Aside0 (Kd.R k38 38 w' w.heap.size (fun _ => True) u7 (toks.map tokS)) ∧ Aside0 (Below w.heap.size w w'))
  case atStart => exact ⟨0, [], ⟨Nat.zero_le _, by omega, by simp, by rw [← HX.out]; rfl⟩, ⟨P.out.1⟩, ⟨P.out.2.1⟩, ⟨Kd.R_nil _ _ _ _ _⟩, ⟨P.out.2.2⟩⟩
  case round =>
   clear HX P
   obtain ⟨i, toks, HI, K, R, O, B⟩ := hrel
   cases gk with
   | zero => exact absurd HI.out.2.1 (by have := HI.out.1; omega)
   | succ g =>
    by_cases hi : i < a0.size
    ·obtain ⟨c, hc⟩ : ∃ c : UInt8, a0[i]'hi = c := ⟨_, rfl⟩
     have hcd : Aside0 (a0.data.toList[i]? = some c) := ⟨by rw [Lib.data_getElem? a0 i hi, hc]⟩
     have hdr : Aside0 (a0.data.toList.drop i = c :: a0.data.toList.drop (i + 1)) := ⟨drop_one hcd.out⟩
     have hln : Aside0 ((a0.data.toList.drop i).length = a0.size - i) := ⟨by rw [List.length_drop, ← Lib.size_eq]⟩
     have hil : (i : Int) < (a0.size : Int) := by omega
     have HILT := Aside0.mk hi
     have hmr := more_q rb a0 i true (by simpa using hi) wr R.out
     have d1' : wr.cell? ⟨rb, 1, none⟩ = some (.int .i64 (i : Int)) := by rw [blk_cell R.out]; rfl
     have dlt := blk_lt R.out
     go_wp2_with fail
     refine hmr.mono ?_
     rintro e w4 ⟨rfl, m, rfl⟩
     have K4 : Aside0 ((wr.drewN m).heap[q]? = some (.cells #[.int .i64 0, .int .i64 0] 25 (0, 0))) := ⟨blk_drewN K.out m⟩
     have R4 : Aside0 (Rdr rb a0 i (wr.drewN m)) := ⟨blk_drewN R.out m⟩
     have O4 : Aside0 (Kd.R k38 38 (wr.drewN m) w.heap.size (fun _ => True) u7 (toks.map tokS)) := ⟨Kd.R_drewN O.out m⟩
     have B4 : Aside0 (Below w.heap.size w (wr.drewN m)) := ⟨pw_below_drewN B.out m⟩
     have d1' : (wr.drewN m).cell? ⟨rb, 1, none⟩ = some (.int .i64 (i : Int)) := d1'
     have dlt : rb < (wr.drewN m).heap.size := dlt
     generalize wr.drewN m = w4 at *
     clear K R O B hmr
     go_wp2_with fail
     obtain ⟨tb, htb⟩ : ∃ tb, tb = w4.heap.size := ⟨_, rfl⟩
     rw [← htb]
     have T5 : Aside0 ((w4.alloc (.cells #[.int .i64 0, .string ⟨#[]⟩, .int .i64 (i : Int)] 38 (0, 0))).heap[tb]? = some (.cells #[.int .i64 0, .string ⟨#[]⟩, .int .i64 (i : Int)] 38 (0, 0))) := ⟨new_at htb.symm _⟩
     have K5 : Aside0 ((w4.alloc (.cells #[.int .i64 0, .string ⟨#[]⟩, .int .i64 (i : Int)] 38 (0, 0))).heap[q]? = some (.cells #[.int .i64 0, .int .i64 0] 25 (0, 0))) := ⟨blk_alloc K4.out _⟩
     have R5 : Aside0 (Rdr rb a0 i (w4.alloc (.cells #[.int .i64 0, .string ⟨#[]⟩, .int .i64 (i : Int)] 38 (0, 0)))) := ⟨blk_alloc R4.out _⟩
     have O5 : Aside0 (Kd.R k38 38 (w4.alloc (.cells #[.int .i64 0, .string ⟨#[]⟩, .int .i64 (i : Int)] 38 (0, 0))) w.heap.size (fun k => ¬ k = tb) u7 (toks.map tokS)) := ⟨Kd.R_mono (Kd.R_alloc (Kd.R_bound O4.out) _) (fun k hk => by have h := hk.2.2.1; omega)⟩
     have B5 : Aside0 (Below w.heap.size w (w4.alloc (.cells #[.int .i64 0, .string ⟨#[]⟩, .int .i64 (i : Int)] 38 (0, 0)))) := ⟨below_alloc B4.out _⟩
     have htz : Aside0 (w.heap.size ≤ tb ∧ ¬ q = tb ∧ ¬ rb = tb) := ⟨by have := B4.out.size; omega, by have := blk_lt K4.out; omega, by omega⟩
     clear K4 R4 O4 B4 d1' dlt htb
     generalize w4.alloc (.cells #[.int .i64 0, .string ⟨#[]⟩, .int .i64 (i : Int)] 38 (0, 0)) = w5 at *
     have K6 := K5
     have R6 := R5
     have O6 : Aside0 (Kd.R k38 38 w5 w.heap.size (fun _ => True) u7 (toks.map tokS)) := ⟨Kd.R_mono O5.out (fun _ _ => trivial)⟩
     have B6 := B5
     by_cases k1 : cls c = 1
     ·have hof := of_q c 1 k1 w5
      have HX : Aside0 ((toks ++ (lexK g (i + 1) (a0.data.toList.drop (i + 1))).1, (lexK g (i + 1) (a0.data.toList.drop (i + 1))).2) = X) := ⟨by have h := HI.out.2.2.2; rw [hdr.out, lx_blank k1] at h; exact h⟩
      clear k1 K5 O5 B5 T5
      refine hof.mono ?_
      rintro e w6 ⟨rfl, hw6⟩
      subst w6
      clear hof
      have d1' : w5.cell? ⟨rb, 1, none⟩ = some (.int .i64 (i : Int)) := by rw [blk_cell R5.out]; rfl
      have zr := blk_frozen R5.out 1
      have dlt := blk_lt R5.out
      go_wp2
      go_roundg g
      case measure => omega
      case rel => exact ⟨i + 1, toks, ⟨by have := HILT.out; omega, by have := HI.out; omega, by have := HI.out; omega, HX.out⟩, ⟨far_blk K6.out hqrb _⟩, ⟨R6.out.put (i + 1) _ rfl⟩, ⟨Kd.R_set O6.out R6.out (by decide) 1 _⟩, ⟨Below.setCell B6.out hrbz _⟩⟩
     by_cases k2 : cls c = 2
     ·have hof := of_q c 2 k2 w5
      have hm0 := rem_pos (r := a0.data.toList.drop (i + 1)) k2
      have hmle := rem_le (a0.data.toList.drop i)
      rw [hln.out] at hmle
      have HX : Aside0 ((toks ++ (lexK g (i + rem_ (a0.data.toList.drop i)) (a0.data.toList.drop (i + rem_ (a0.data.toList.drop i)))).1, (lexK g (i + rem_ (a0.data.toList.drop i)) (a0.data.toList.drop (i + rem_ (a0.data.toList.drop i)))).2) = X) := ⟨by have h := HI.out.2.2.2; rw [hdr.out, lx_rem k2, ← hdr.out, List.drop_drop] at h; exact h⟩
      have HIN : Aside0 (∀ j, i ≤ j → j < i + rem_ (a0.data.toList.drop i) → ∃ c : UInt8, a0.data.toList[j]? = some c ∧ c ≠ 10) := ⟨fun j h1 h2 => by
       obtain ⟨c, hc, hl⟩ := rem_in (S := a0.data.toList.drop i) (j := j - i) (by omega)
       rw [List.getElem?_drop, show i + (j - i) = j by omega] at hc
       exact ⟨c, hc, hl⟩⟩
      have HEND : Aside0 (∀ c : UInt8, a0.data.toList[i + rem_ (a0.data.toList.drop i)]? = some c → c = 10) := ⟨fun c hc => rem_end (S := a0.data.toList.drop i) (by rw [List.getElem?_drop]; exact hc)⟩
      rw [← hdr.out] at hm0
      obtain ⟨m, hm⟩ : ∃ m, rem_ (a0.data.toList.drop i) = m := ⟨_, rfl⟩
      rw [hm] at HX HIN HEND hm0 hmle
      clear k2 K5 O5 B5 T5 hm
      refine hof.mono ?_
      rintro e w6 ⟨rfl, hw6⟩
      subst w6
      clear hof
      go_wp2
      go_loopg [] m (fun gm w' => ∃ j : Nat, Aside0 (i ≤ j ∧ j + gm = i + m) ∧ Aside0 (w'.heap[q]? = some (.cells #[.int .i64 0, .int .i64 0] 25 (0, 0))) ∧ Aside0 (Rdr rb a0 j w') ∧ Aside0 (Kd.R k38 38 w' w.heap.size (fun _ => True) u7 (toks.map tokS)) ∧ Aside0 (Below w.heap.size w w'))
      case atStart => exact ⟨i, ⟨Nat.le_refl _, rfl⟩, K6, R6, O6, B6⟩
      case round =>
       clear K6 R6 O6 B6 R5
       obtain ⟨j, HJ, K6, R6, O6, B6⟩ := hrel
       cases gk with
       | zero =>
        have hj : j = i + m := by have := HJ.out; omega
        have HXJ : Aside0 ((toks ++ (lexK g j (a0.data.toList.drop j)).1, (lexK g j (a0.data.toList.drop j)).2) = X) := ⟨by rw [hj]; exact HX.out⟩
        by_cases hjs : j < a0.size
        ·have hjl : (j : Int) < (a0.size : Int) := by omega
         have hcx : a0[j]'hjs = 10 := HEND.out _ (by rw [← hj, Lib.data_getElem? a0 j hjs])
         have HJS := Aside0.mk hjs
         have HE := Aside0.mk hj
         have hmr := more_q rb a0 j true (by simpa using hjs) wr R6.out
         clear hj
         go_wp2_with fail
         refine hmr.mono ?_
         rintro e w7 ⟨rfl, m7, rfl⟩
         have d1' : (wr.drewN m7).cell? ⟨rb, 1, none⟩ = some (.int .i64 (j : Int)) := by rw [show (wr.drewN m7).cell? ⟨rb, 1, none⟩ = wr.cell? ⟨rb, 1, none⟩ from rfl, blk_cell R6.out]; rfl
         have dlt : rb < (wr.drewN m7).heap.size := blk_lt R6.out
         go_wp2
         go_roundg g
         case measure => omega
         case rel => exact ⟨j, toks, ⟨by have := HJS.out; omega, by have := HI.out; have := HE.out; omega, by have := HI.out; have := HE.out; omega, HXJ.out⟩, ⟨blk_drewN K6.out _⟩, ⟨blk_drewN R6.out _⟩, ⟨Kd.R_drewN O6.out _⟩, ⟨pw_below_drewN B6.out _⟩⟩
        ·have HE := Aside0.mk hj
         have HJS := Aside0.mk hjs
         have hmr := more_q rb a0 j false (by simpa using hjs) wr R6.out
         clear hj hjs
         go_wp2_with fail
         refine hmr.mono ?_
         rintro e w7 ⟨rfl, m7, rfl⟩
         go_wp2
         go_roundg g
         case measure => omega
         case rel => exact ⟨j, toks, ⟨by have := HE.out; omega, by have := HI.out; have := HE.out; omega, by have := HI.out; have := HE.out; omega, HXJ.out⟩, ⟨blk_drewN K6.out _⟩, ⟨blk_drewN R6.out _⟩, ⟨Kd.R_drewN O6.out _⟩, ⟨pw_below_drewN B6.out _⟩⟩
       | succ gm =>
        have hjs : j < a0.size := by have := HJ.out; omega
        have hjl : (j : Int) < (a0.size : Int) := by omega
        obtain ⟨x, hx, hx10⟩ := HIN.out j HJ.out.1 (by have := HJ.out; omega)
        have hcx : a0[j]'hjs = x := by rw [Lib.data_getElem? a0 j hjs] at hx; exact Option.some.inj hx
        have hxn := ne_int (n := 10) 10 rfl hx10
        have hmr := more_q rb a0 j true (by simpa using hjs) wr R6.out
        clear hx hx10
        go_wp2_with fail
        refine hmr.mono ?_
        rintro e w7 ⟨rfl, m7, rfl⟩
        have R7 : Aside0 (Rdr rb a0 j (wr.drewN m7)) := ⟨blk_drewN R6.out _⟩
        have d1' : (wr.drewN m7).cell? ⟨rb, 1, none⟩ = some (.int .i64 (j : Int)) := by rw [blk_cell R7.out]; rfl
        have zr := blk_frozen R7.out 1
        have dlt := blk_lt R7.out
        go_wp2
        go_roundg gm
        case measure => omega
        case rel => exact ⟨j + 1, ⟨by have := HJ.out; omega, by have := HJ.out; omega⟩, ⟨far_blk (blk_drewN K6.out m7) hqrb _⟩, ⟨R7.out.put (j + 1) _ rfl⟩, ⟨Kd.R_set (Kd.R_drewN O6.out m7) R7.out (by decide) 1 _⟩, ⟨Below.setCell (pw_below_drewN B6.out m7) hrbz _⟩⟩
     have HT5 : Aside0 (w5.cell? ⟨tb, 0, none⟩ = some (.int .i64 0) ∧ w5.cell? ⟨tb, 1, none⟩ = some (.string ⟨#[]⟩) ∧ w5.cell? ⟨tb, 2, none⟩ = some (.int .i64 (i : Int))) := ⟨by rw [blk_cell T5.out]; rfl, by rw [blk_cell T5.out]; rfl, by rw [blk_cell T5.out]; rfl⟩
     by_cases k3 : cls c = 3
     ·have hof := of_q c 3 k3 w5
      have hx125 : Aside0 (c = 123 ∨ c = 125) := ⟨by
       unfold cls at k3
       repeat' split at k3
       all_goals first | assumption | omega⟩
      have HX : Aside0 ((toks ++ ((if c = 125 then 3 else 2, [], i) :: (lexK g (i + 1) (a0.data.toList.drop (i + 1))).1), (lexK g (i + 1) (a0.data.toList.drop (i + 1))).2) = X) := ⟨by have h := HI.out.2.2.2; rw [hdr.out, lx_brace k3] at h; exact h⟩
      clear k1 k2 k3 K5 B5 O6
      have tc0 := HT5.out.1
      have tz0 := blk_frozen T5.out 0
      have d1' : w5.cell? ⟨rb, 1, none⟩ = some (.int .i64 (i : Int)) := by rw [blk_cell R5.out]; rfl
      have zr := blk_frozen R5.out 1
      have dlt := blk_lt R5.out
      have tlt := blk_lt T5.out
      have htr : ¬ rb = tb := htz.out.2.2
      have htr' : ¬ tb = rb := fun e => htr e.symm
      refine hof.mono ?_
      rintro e w6 ⟨rfl, hw6⟩
      subst w6
      clear hof hcd hdr
      rcases hx125.out with rfl | rfl
      ·go_upto_region 27 with (fail)
       have T6 : Aside0 (((w5.setCell ⟨tb, 0, none⟩ (.int .i64 2)).setCell ⟨rb, 1, none⟩ (.int .i64 ((i : Int) + 1))).heap[tb]? = some (.cells #[.int .i64 2, .string ⟨#[]⟩, .int .i64 (i : Int)] 38 (0, 0))) := ⟨far_blk (blk_put T5.out 0 _ rfl) htr' _⟩
       have K6' : Aside0 (((w5.setCell ⟨tb, 0, none⟩ (.int .i64 2)).setCell ⟨rb, 1, none⟩ (.int .i64 ((i : Int) + 1))).heap[q]? = some (.cells #[.int .i64 0, .int .i64 0] 25 (0, 0))) := ⟨far_blk (far_blk K6.out htz.out.2.1 _) hqrb _⟩
       have R6' : Aside0 (Rdr rb a0 (i + 1) ((w5.setCell ⟨tb, 0, none⟩ (.int .i64 2)).setCell ⟨rb, 1, none⟩ (.int .i64 ((i : Int) + 1)))) := ⟨Rdr.put (i := i) (far_blk R6.out htr _) (i + 1) _ rfl⟩
       have O6' : Aside0 (Kd.R k38 38 ((w5.setCell ⟨tb, 0, none⟩ (.int .i64 2)).setCell ⟨rb, 1, none⟩ (.int .i64 ((i : Int) + 1))) w.heap.size (fun _ => True) u7 (toks.map tokS)) := ⟨Kd.R_set (Kd.R_mono (Kd.R_far O5.out (p := ⟨tb, 0, none⟩) (fun k hk => hk) _) (fun _ _ => trivial)) (far_blk R6.out htr _) (by decide) 1 _⟩
       have B6' : Aside0 (Below w.heap.size w ((w5.setCell ⟨tb, 0, none⟩ (.int .i64 2)).setCell ⟨rb, 1, none⟩ (.int .i64 ((i : Int) + 1)))) := ⟨Below.setCell (Below.setCell B6.out htz.out.1 _) hrbz _⟩
       generalize (w5.setCell ⟨tb, 0, none⟩ (.int .i64 2)).setCell ⟨rb, 1, none⟩ (.int .i64 ((i : Int) + 1)) = w6 at *
       clear K6 R6 B6 T5 O5 R5 HT5 tc0 tz0 d1' zr dlt tlt
       have K6 := K6'
       have R6 := R6'
       have O6 := O6'
       have B6 := B6'
       clear K6' R6' O6' B6'
       have t0 : w6.cell? ⟨tb, 0, none⟩ = some (.int .i64 2) := by rw [blk_cell T6.out]; rfl
       have t1 : w6.cell? ⟨tb, 1, none⟩ = some (.string ⟨#[]⟩) := by rw [blk_cell T6.out]; rfl
       have t2 : w6.cell? ⟨tb, 2, none⟩ = some (.int .i64 (i : Int)) := by rw [blk_cell T6.out]; rfl
       go_wp2_with (first | ((with_reducible refine gate_builtin (b := .append) (xs := #[.tmp 104, .tmp 106]) rfl ?_); at_builtin; refine Kd.R_append k38 (w0 := w) (W := w6) w.heap.size rfl (.tmp 104) (.tmp 106) 22 38 (.agg #[(.int .i64 0), (.string ⟨#[]⟩), (.int .i64 0)]) 32 rfl Tryz.underlying22 info38 rfl (by decide) (by omega) u7 (toks.map tokS) (tokS (2, [], i)) [.int .i64 2, .string ⟨#[]⟩, .int .i64 (i : Int)] (fun _ => True) (fun _ => False) rfl rfl ?aP (fun _ hk => hk.elim) ?aF ?aO ?aB ?aS ?aL ?_; (case aP => exact k38_mkM _ _ _ (tokS (2, [], i))); (case aB => exact B6.out); (case aF => exact (fun _ _ => trivial)); (case aO => exact O6.out); (case aS => exact B6.out.size); (case aL => (have h1 := HI.out.2.2.1; have h2 := hs; rw [List.length_map]; omega)); intro v8 w8 ho hb hg hat; have K8 := Aside0.mk (blk_grown (g := q) K6.out hg (Kd.R_ne O6.out K6.out (by decide))); have R8 : Aside0 (Rdr rb a0 (i + 1) w8) := ⟨blk_grown (g := rb) R6.out hg (Kd.R_ne O6.out R6.out (by decide))⟩; have O8 := Aside0.mk ho; have B8 := Aside0.mk hb; clear ho hb hg hat))
       go_roundg g
       case measure => omega
       case rel => exact ⟨i + 1, toks ++ [(2, [], i)], ⟨by have := HILT.out; omega, by have := HI.out; omega, by have := HI.out; rw [List.length_append]; simp; omega, by have h := HX.out; rw [if_neg (by decide)] at h; rw [List.append_assoc]; exact h⟩, K8, R8, by rw [List.map_append]; exact O8, B8⟩
      ·go_upto_region 27 with (fail)
       have T6 : Aside0 ((((w5.setCell ⟨tb, 0, none⟩ (.int .i64 2)).setCell ⟨tb, 0, none⟩ (.int .i64 3)).setCell ⟨rb, 1, none⟩ (.int .i64 ((i : Int) + 1))).heap[tb]? = some (.cells #[.int .i64 3, .string ⟨#[]⟩, .int .i64 (i : Int)] 38 (0, 0))) := ⟨far_blk (blk_put (blk_put (cs' := #[.int .i64 2, .string ⟨#[]⟩, .int .i64 (i : Int)]) T5.out 0 _ rfl) 0 _ rfl) htr' _⟩
       have K6' : Aside0 ((((w5.setCell ⟨tb, 0, none⟩ (.int .i64 2)).setCell ⟨tb, 0, none⟩ (.int .i64 3)).setCell ⟨rb, 1, none⟩ (.int .i64 ((i : Int) + 1))).heap[q]? = some (.cells #[.int .i64 0, .int .i64 0] 25 (0, 0))) := ⟨far_blk (far_blk (far_blk K6.out htz.out.2.1 _) htz.out.2.1 _) hqrb _⟩
       have R6' : Aside0 (Rdr rb a0 (i + 1) (((w5.setCell ⟨tb, 0, none⟩ (.int .i64 2)).setCell ⟨tb, 0, none⟩ (.int .i64 3)).setCell ⟨rb, 1, none⟩ (.int .i64 ((i : Int) + 1)))) := ⟨Rdr.put (i := i) (far_blk (far_blk R6.out htr _) htr _) (i + 1) _ rfl⟩
       have O6' : Aside0 (Kd.R k38 38 (((w5.setCell ⟨tb, 0, none⟩ (.int .i64 2)).setCell ⟨tb, 0, none⟩ (.int .i64 3)).setCell ⟨rb, 1, none⟩ (.int .i64 ((i : Int) + 1))) w.heap.size (fun _ => True) u7 (toks.map tokS)) := ⟨Kd.R_set (Kd.R_mono (Kd.R_far (Kd.R_far O5.out (p := ⟨tb, 0, none⟩) (fun k hk => hk) _) (p := ⟨tb, 0, none⟩) (fun k hk => hk) _) (fun _ _ => trivial)) (far_blk (far_blk R6.out htr _) htr _) (by decide) 1 _⟩
       have B6' : Aside0 (Below w.heap.size w (((w5.setCell ⟨tb, 0, none⟩ (.int .i64 2)).setCell ⟨tb, 0, none⟩ (.int .i64 3)).setCell ⟨rb, 1, none⟩ (.int .i64 ((i : Int) + 1)))) := ⟨Below.setCell (Below.setCell (Below.setCell B6.out htz.out.1 _) htz.out.1 _) hrbz _⟩
       generalize ((w5.setCell ⟨tb, 0, none⟩ (.int .i64 2)).setCell ⟨tb, 0, none⟩ (.int .i64 3)).setCell ⟨rb, 1, none⟩ (.int .i64 ((i : Int) + 1)) = w6 at *
       clear K6 R6 B6 T5 O5 R5 HT5 tc0 tz0 d1' zr dlt tlt
       have K6 := K6'
       have R6 := R6'
       have O6 := O6'
       have B6 := B6'
       clear K6' R6' O6' B6'
       have t0 : w6.cell? ⟨tb, 0, none⟩ = some (.int .i64 3) := by rw [blk_cell T6.out]; rfl
       have t1 : w6.cell? ⟨tb, 1, none⟩ = some (.string ⟨#[]⟩) := by rw [blk_cell T6.out]; rfl
       have t2 : w6.cell? ⟨tb, 2, none⟩ = some (.int .i64 (i : Int)) := by rw [blk_cell T6.out]; rfl
       go_wp2_with (first | ((with_reducible refine gate_builtin (b := .append) (xs := #[.tmp 104, .tmp 106]) rfl ?_); at_builtin; refine Kd.R_append k38 (w0 := w) (W := w6) w.heap.size rfl (.tmp 104) (.tmp 106) 22 38 (.agg #[(.int .i64 0), (.string ⟨#[]⟩), (.int .i64 0)]) 32 rfl Tryz.underlying22 info38 rfl (by decide) (by omega) u7 (toks.map tokS) (tokS (3, [], i)) [.int .i64 3, .string ⟨#[]⟩, .int .i64 (i : Int)] (fun _ => True) (fun _ => False) rfl rfl ?aP (fun _ hk => hk.elim) ?aF ?aO ?aB ?aS ?aL ?_; (case aP => exact k38_mkM _ _ _ (tokS (3, [], i))); (case aB => exact B6.out); (case aF => exact (fun _ _ => trivial)); (case aO => exact O6.out); (case aS => exact B6.out.size); (case aL => (have h1 := HI.out.2.2.1; have h2 := hs; rw [List.length_map]; omega)); intro v8 w8 ho hb hg hat; have K8 := Aside0.mk (blk_grown (g := q) K6.out hg (Kd.R_ne O6.out K6.out (by decide))); have R8 : Aside0 (Rdr rb a0 (i + 1) w8) := ⟨blk_grown (g := rb) R6.out hg (Kd.R_ne O6.out R6.out (by decide))⟩; have O8 := Aside0.mk ho; have B8 := Aside0.mk hb; clear ho hb hg hat))
       go_roundg g
       case measure => omega
       case rel => exact ⟨i + 1, toks ++ [(3, [], i)], ⟨by have := HILT.out; omega, by have := HI.out; omega, by have := HI.out; rw [List.length_append]; simp; omega, by have h := HX.out; rw [if_pos trivial] at h; rw [List.append_assoc]; exact h⟩, K8, R8, by rw [List.map_append]; exact O8, B8⟩
     have hcls : cls c = 0 ∨ cls c = 4 := by
      have h5 : cls c ≤ 4 := by
       unfold cls
       repeat' split
       all_goals omega
      omega
     have hnx := head_next a0 i
     by_cases hcmd : cls c = 4 ∧ isLetter ((a0.data.toList.drop (i + 1)).headD 0) = true
     ·obtain ⟨k4, hl⟩ := hcmd
      have hof := of_q c 4 k4 w5
      have HX : Aside0 ((toks ++ ((1, (a0.data.toList.drop (i + 1)).take (run_ (a0.data.toList.drop (i + 1))), i) :: (lexK g (i + 1 + run_ (a0.data.toList.drop (i + 1))) (a0.data.toList.drop (i + 1 + run_ (a0.data.toList.drop (i + 1))))).1), (lexK g (i + 1 + run_ (a0.data.toList.drop (i + 1))) (a0.data.toList.drop (i + 1 + run_ (a0.data.toList.drop (i + 1))))).2) = X) := ⟨by have h := HI.out.2.2.2; rw [hdr.out, lx_cmd k4 hl, List.drop_drop] at h; exact h⟩
      rw [hnx] at hl
      obtain ⟨d, hd⟩ : ∃ d, nextb a0 i = d := ⟨_, rfl⟩
      rw [hd] at hl
      have hnq := next_q rb a0 i (by omega) d hd w5 R5.out
      have hrl := run_le (a0.data.toList.drop (i + 1))
      rw [List.length_drop, ← Lib.size_eq] at hrl
      have HRL := Aside0.mk hrl
      clear k1 k2 k3 k4 hcls hnx hd hrl K5 B5 O6 hcd hdr
      refine hof.mono ?_
      rintro e w6 ⟨rfl, hw6⟩
      subst w6
      clear hof
      go_wp2_with fail
      refine hnq.mono ?_
      rintro e w6 ⟨rfl, m6, rfl⟩
      have hlq := letter_q d true hl (w5.drewN m6)
      clear hl hnq
      go_wp2_with fail
      refine hlq.mono ?_
      rintro e w7 ⟨rfl, hw7⟩
      subst w7
      clear hlq
      have hcm := command_calls rb a0 i hi (by omega) (w5.drewN m6) (blk_drewN R6.out m6)
      rw [ext_str, Nat.add_sub_cancel_left] at hcm
      go_wp2_with fail
      refine hcm.mono ?_
      rintro e w8 ⟨rfl, hr8, ht8⟩
      obtain ⟨txt, htxt⟩ : ∃ txt, (a0.data.toList.drop (i + 1)).take (run_ (a0.data.toList.drop (i + 1))) = txt := ⟨_, rfl⟩
      obtain ⟨np, hnp⟩ : ∃ np, i + 1 + run_ (a0.data.toList.drop (i + 1)) = np := ⟨_, rfl⟩
      rw [htxt, hnp] at HX
      have HNP : Aside0 (i + 1 ≤ np ∧ np ≤ a0.size) := ⟨by omega, by have := HRL.out; have := HILT.out; omega⟩
      rw [htxt]
      rw [hnp] at hr8
      clear hcm htxt hnp HRL
      have T8 : Aside0 (w8.heap[tb]? = some (.cells #[.int .i64 0, .string ⟨#[]⟩, .int .i64 (i : Int)] 38 (0, 0))) := ⟨ht8.blk (blk_drewN T5.out m6) (fun e => htz.out.2.2 e.symm)⟩
      have K8 : Aside0 (w8.heap[q]? = some (.cells #[.int .i64 0, .int .i64 0] 25 (0, 0))) := ⟨ht8.blk (blk_drewN K6.out m6) hqrb⟩
      have O8 : Aside0 (Kd.R k38 38 w8 w.heap.size (fun k => ¬ k = tb) u7 (toks.map tokS)) := ⟨Kd_turns (Kd.R_drewN O5.out m6) ht8 (blk_drewN R6.out m6) (by decide)⟩
      have B8 : Aside0 (Below w.heap.size w w8) := ⟨(pw_below_drewN B6.out m6).trans (ht8.toBelow (pw_below_drewN B6.out m6).size (fun k (hk : k = rb) => by omega))⟩
      have R8 := Aside0.mk hr8
      clear hr8 ht8 K6 R6 B6 O5 T5 R5 HT5
      have tc0 : w8.cell? ⟨tb, 0, none⟩ = some (.int .i64 0) := by rw [blk_cell T8.out]; rfl
      have tc1 : w8.cell? ⟨tb, 1, none⟩ = some (.string ⟨#[]⟩) := by rw [blk_cell T8.out]; rfl
      have tz0 := blk_frozen T8.out 0
      have tz1 := blk_frozen T8.out 1
      have tlt := blk_lt T8.out
      go_upto_region 27 with (fail)
      have T6 : Aside0 (((w8.setCell ⟨tb, 0, none⟩ (.int .i64 1)).setCell ⟨tb, 1, none⟩ (.string ⟨txt.toArray⟩)).heap[tb]? = some (.cells #[.int .i64 1, .string ⟨txt.toArray⟩, .int .i64 (i : Int)] 38 (0, 0))) := ⟨blk_put (blk_put (cs' := #[.int .i64 1, .string ⟨#[]⟩, .int .i64 (i : Int)]) T8.out 0 _ rfl) 1 _ rfl⟩
      have K6 : Aside0 (((w8.setCell ⟨tb, 0, none⟩ (.int .i64 1)).setCell ⟨tb, 1, none⟩ (.string ⟨txt.toArray⟩)).heap[q]? = some (.cells #[.int .i64 0, .int .i64 0] 25 (0, 0))) := ⟨far_blk (far_blk K8.out htz.out.2.1 _) htz.out.2.1 _⟩
      have R6 : Aside0 (Rdr rb a0 (np) ((w8.setCell ⟨tb, 0, none⟩ (.int .i64 1)).setCell ⟨tb, 1, none⟩ (.string ⟨txt.toArray⟩))) := ⟨far_blk (far_blk R8.out htz.out.2.2 _) htz.out.2.2 _⟩
      have O6 : Aside0 (Kd.R k38 38 ((w8.setCell ⟨tb, 0, none⟩ (.int .i64 1)).setCell ⟨tb, 1, none⟩ (.string ⟨txt.toArray⟩)) w.heap.size (fun _ => True) u7 (toks.map tokS)) := ⟨Kd.R_mono (Kd.R_far (Kd.R_far O8.out (p := ⟨tb, 0, none⟩) (fun k hk => hk) _) (p := ⟨tb, 1, none⟩) (fun k hk => hk) _) (fun _ _ => trivial)⟩
      have B6 : Aside0 (Below w.heap.size w ((w8.setCell ⟨tb, 0, none⟩ (.int .i64 1)).setCell ⟨tb, 1, none⟩ (.string ⟨txt.toArray⟩))) := ⟨Below.setCell (Below.setCell B8.out htz.out.1 _) htz.out.1 _⟩
      clear tc0 tc1 tz0 tz1 tlt T8 K8 R8 O8 B8
      generalize (w8.setCell ⟨tb, 0, none⟩ (.int .i64 1)).setCell ⟨tb, 1, none⟩ (.string ⟨txt.toArray⟩) = w6 at *
      have t0 : w6.cell? ⟨tb, 0, none⟩ = some (.int .i64 1) := by rw [blk_cell T6.out]; rfl
      have t1 : w6.cell? ⟨tb, 1, none⟩ = some (.string ⟨txt.toArray⟩) := by rw [blk_cell T6.out]; rfl
      have t2 : w6.cell? ⟨tb, 2, none⟩ = some (.int .i64 (i : Int)) := by rw [blk_cell T6.out]; rfl
      go_wp2_with (first | ((with_reducible refine gate_builtin (b := .append) (xs := #[.tmp 104, .tmp 106]) rfl ?_); at_builtin; refine Kd.R_append k38 (w0 := w) (W := w6) w.heap.size rfl (.tmp 104) (.tmp 106) 22 38 (.agg #[(.int .i64 0), (.string ⟨#[]⟩), (.int .i64 0)]) 32 rfl Tryz.underlying22 info38 rfl (by decide) (by omega) u7 (toks.map tokS) (tokS (1, txt, i)) [.int .i64 1, .string ⟨txt.toArray⟩, .int .i64 (i : Int)] (fun _ => True) (fun _ => False) rfl rfl ?aP (fun _ hk => hk.elim) ?aF ?aO ?aB ?aS ?aL ?_; (case aP => exact k38_mkM _ _ _ (tokS (1, txt, i))); (case aB => exact B6.out); (case aF => exact (fun _ _ => trivial)); (case aO => exact O6.out); (case aS => exact B6.out.size); (case aL => (have h1 := HI.out.2.2.1; have h2 := hs; rw [List.length_map]; omega)); intro v8 w8 ho hb hg hat; have K8 := Aside0.mk (blk_grown (g := q) K6.out hg (Kd.R_ne O6.out K6.out (by decide))); have R8 : Aside0 (Rdr rb a0 (np) w8) := ⟨blk_grown (g := rb) R6.out hg (Kd.R_ne O6.out R6.out (by decide))⟩; have O8 := Aside0.mk ho; have B8 := Aside0.mk hb; clear ho hb hg hat))
      go_roundg g
      case measure => omega
      case rel => exact ⟨np, toks ++ [(1, txt, i)], ⟨by have := HNP.out; omega, by have := HI.out; have := HNP.out; omega, by have := HI.out; have := HNP.out; rw [List.length_append]; simp; omega, by have h := HX.out; rw [List.append_assoc]; exact h⟩, K8, R8, by rw [List.map_append]; exact O8, B8⟩
     ·have hwc : cls c = 0 ∨ cls c = 4 ∧ isLetter ((a0.data.toList.drop (i + 1)).headD 0) = false := by
       rcases hcls with h | h
       ·exact .inl h
       ·refine .inr ⟨h, ?_⟩
        cases hb : isLetter ((a0.data.toList.drop (i + 1)).headD 0) with
        | false => rfl
        | true => exact absurd ⟨h, hb⟩ hcmd
      have hsuf := w_suffix _ (a0.data.toList.drop i) (Nat.le_refl _)
      have hsl := hsuf.length_le
      rw [hln.out] at hsl
      have hdn : a0.data.toList.drop (a0.size - (wordL (a0.data.toList.drop i)).2.1.length) = (wordL (a0.data.toList.drop i)).2.1 := suffix_drop (hsuf.trans (List.drop_suffix _ _))
      have HW : Aside0 ((wordL (a0.data.toList.drop i)).2.2 = true → i + 1 ≤ a0.size - (wordL (a0.data.toList.drop i)).2.1.length ∧ (toks ++ ((0, (wordL (a0.data.toList.drop i)).1, i) :: (lexK g (a0.size - (wordL (a0.data.toList.drop i)).2.1.length) (a0.data.toList.drop (a0.size - (wordL (a0.data.toList.drop i)).2.1.length))).1), (lexK g (a0.size - (wordL (a0.data.toList.drop i)).2.1.length) (a0.data.toList.drop (a0.size - (wordL (a0.data.toList.drop i)).2.1.length))).2) = X) := ⟨fun hw => by
       have hlt : (wordL (a0.data.toList.drop i)).2.1.length < a0.size - i := by
        rw [← hln.out]
        rw [hdr.out] at hw ⊢
        exact w_lt hwc hw
       refine ⟨by omega, ?_⟩
       have h := HI.out.2.2.2
       rw [hdn, ← h, show a0.size - (wordL (a0.data.toList.drop i)).2.1.length = i + (a0.size - i - (wordL (a0.data.toList.drop i)).2.1.length) by omega, ← hln.out]
       rw [hdr.out] at hw ⊢
       rw [lx_word hwc hw]⟩
      have HF : Aside0 ((wordL (a0.data.toList.drop i)).2.2 = false → X.2 = some (a0.size - (wordL (a0.data.toList.drop i)).2.1.length)) := ⟨fun hw => by
       have h := HI.out.2.2.2
       rw [← h, show a0.size - (wordL (a0.data.toList.drop i)).2.1.length = i + (a0.size - i - (wordL (a0.data.toList.drop i)).2.1.length) by omega, ← hln.out]
       rw [hdr.out] at hw ⊢
       rw [lx_fail hwc hw]⟩
      have HSL := Aside0.mk hsl
      have hit := Nat.le_of_lt hi
      clear hsuf hsl hdn hcls hcmd k1 k2 k3 K5 B5 O6 hcd hdr
      rcases hwc with k0 | ⟨k4, hl⟩
      ·have hof := of_q c 0 k0 w5
       clear k0 hnx
       refine hof.mono ?_
       rintro e w6 ⟨rfl, hw6⟩
       subst w6
       clear hof
       have hwd := word_calls rb a0 i hit (by omega) (w5) (R6.out)
       obtain ⟨txt, htxt⟩ : ∃ txt, (wordL (a0.data.toList.drop i)).1 = txt := ⟨_, rfl⟩
       obtain ⟨np, hnp⟩ : ∃ np, a0.size - (wordL (a0.data.toList.drop i)).2.1.length = np := ⟨_, rfl⟩
       obtain ⟨ok, hok⟩ : ∃ ok, (wordL (a0.data.toList.drop i)).2.2 = ok := ⟨_, rfl⟩
       rw [htxt, hnp, hok] at hwd
       rw [hok, hnp, htxt] at HW
       rw [hok, hnp] at HF
       have HNP : Aside0 (np ≤ a0.size) := ⟨by omega⟩
       clear htxt hnp hok HSL
       have hnot : ∀ (x : Bool) (w : World), (Op.unary .not (.bool x)).run Tryz.prog w = .ok (.bool (!x)) w := fun _ _ => rfl
       go_wp2_with fail
       refine hwd.mono ?_
       rintro e w8 ⟨rfl, hr8, ht8⟩
       clear hwd
       have T8 : Aside0 (w8.heap[tb]? = some (.cells #[.int .i64 0, .string ⟨#[]⟩, .int .i64 (i : Int)] 38 (0, 0))) := ⟨ht8.blk (T5.out) (fun e => htz.out.2.2 e.symm)⟩
       have K8 : Aside0 (w8.heap[q]? = some (.cells #[.int .i64 0, .int .i64 0] 25 (0, 0))) := ⟨ht8.blk (K6.out) hqrb⟩
       have O8 : Aside0 (Kd.R k38 38 w8 w.heap.size (fun k => ¬ k = tb) u7 (toks.map tokS)) := ⟨Kd_turns (O5.out) ht8 (R6.out) (by decide)⟩
       have B8 : Aside0 (Below w.heap.size w w8) := ⟨(B6.out).trans (ht8.toBelow (B6.out).size (fun k (hk : k = rb) => by omega))⟩
       have R8 := Aside0.mk hr8
       clear hr8 ht8 K6 R6 B6 O5 T5 R5 HT5
       cases ok with
       | true =>
        obtain ⟨hnp1, hXw⟩ := HW.out rfl
        have HX := Aside0.mk hXw
        have HN1 := Aside0.mk hnp1
        clear hXw hnp1 HW HF
        rw [if_pos rfl]
        have tc0 : w8.cell? ⟨tb, 0, none⟩ = some (.int .i64 0) := by rw [blk_cell T8.out]; rfl
        have tc1 : w8.cell? ⟨tb, 1, none⟩ = some (.string ⟨#[]⟩) := by rw [blk_cell T8.out]; rfl
        have tz0 := blk_frozen T8.out 0
        have tz1 := blk_frozen T8.out 1
        have tlt := blk_lt T8.out
        go_upto_region 27 with (fail)
        have T6 : Aside0 ((w8.setCell ⟨tb, 1, none⟩ (.string ⟨txt.toArray⟩)).heap[tb]? = some (.cells #[.int .i64 0, .string ⟨txt.toArray⟩, .int .i64 (i : Int)] 38 (0, 0))) := ⟨blk_put T8.out 1 _ rfl⟩
        have K6 : Aside0 ((w8.setCell ⟨tb, 1, none⟩ (.string ⟨txt.toArray⟩)).heap[q]? = some (.cells #[.int .i64 0, .int .i64 0] 25 (0, 0))) := ⟨far_blk K8.out htz.out.2.1 _⟩
        have R6 : Aside0 (Rdr rb a0 (np) (w8.setCell ⟨tb, 1, none⟩ (.string ⟨txt.toArray⟩))) := ⟨far_blk R8.out htz.out.2.2 _⟩
        have O6 : Aside0 (Kd.R k38 38 (w8.setCell ⟨tb, 1, none⟩ (.string ⟨txt.toArray⟩)) w.heap.size (fun _ => True) u7 (toks.map tokS)) := ⟨Kd.R_mono (Kd.R_far O8.out (p := ⟨tb, 1, none⟩) (fun k hk => hk) _) (fun _ _ => trivial)⟩
        have B6 : Aside0 (Below w.heap.size w (w8.setCell ⟨tb, 1, none⟩ (.string ⟨txt.toArray⟩))) := ⟨Below.setCell B8.out htz.out.1 _⟩
        clear tc0 tc1 tz0 tz1 tlt T8 K8 R8 O8 B8
        generalize w8.setCell ⟨tb, 1, none⟩ (.string ⟨txt.toArray⟩) = w6 at *
        have t0 : w6.cell? ⟨tb, 0, none⟩ = some (.int .i64 0) := by rw [blk_cell T6.out]; rfl
        have t1 : w6.cell? ⟨tb, 1, none⟩ = some (.string ⟨txt.toArray⟩) := by rw [blk_cell T6.out]; rfl
        have t2 : w6.cell? ⟨tb, 2, none⟩ = some (.int .i64 (i : Int)) := by rw [blk_cell T6.out]; rfl
        go_wp2_with (first | ((with_reducible refine gate_builtin (b := .append) (xs := #[.tmp 104, .tmp 106]) rfl ?_); at_builtin; refine Kd.R_append k38 (w0 := w) (W := w6) w.heap.size rfl (.tmp 104) (.tmp 106) 22 38 (.agg #[(.int .i64 0), (.string ⟨#[]⟩), (.int .i64 0)]) 32 rfl Tryz.underlying22 info38 rfl (by decide) (by omega) u7 (toks.map tokS) (tokS (0, txt, i)) [.int .i64 0, .string ⟨txt.toArray⟩, .int .i64 (i : Int)] (fun _ => True) (fun _ => False) rfl rfl ?aP (fun _ hk => hk.elim) ?aF ?aO ?aB ?aS ?aL ?_; (case aP => exact k38_mkM _ _ _ (tokS (0, txt, i))); (case aB => exact B6.out); (case aF => exact (fun _ _ => trivial)); (case aO => exact O6.out); (case aS => exact B6.out.size); (case aL => (have h1 := HI.out.2.2.1; have h2 := hs; rw [List.length_map]; omega)); intro v8 w8 ho hb hg hat; have K8 := Aside0.mk (blk_grown (g := q) K6.out hg (Kd.R_ne O6.out K6.out (by decide))); have R8 : Aside0 (Rdr rb a0 (np) w8) := ⟨blk_grown (g := rb) R6.out hg (Kd.R_ne O6.out R6.out (by decide))⟩; have O8 := Aside0.mk ho; have B8 := Aside0.mk hb; clear ho hb hg hat))
        go_roundg g
        case measure => omega
        case rel => exact ⟨np, toks ++ [(0, txt, i)], ⟨by have := HNP.out; omega, by have := HI.out; have := HN1.out; omega, by have := HI.out; have := HN1.out; rw [List.length_append]; simp; omega, by have h := HX.out; rw [List.append_assoc]; exact h⟩, K8, R8, by rw [List.map_append]; exact O8, B8⟩
       | false =>
        have hXf := HF.out rfl
        have HOO := HO.out
        rw [hXf] at HOO
        obtain ⟨rfl, rfl, rfl⟩ : r1 = [] ∧ r2 = 50 ∧ r3 = (np : Int) := by injection HOO with a b; injection b with b c; exact ⟨a.symm, b.symm, c.symm⟩
        have e0 : w8.cell? ⟨q, 0, none⟩ = some (.int .i64 0) := by rw [blk_cell K8.out]; rfl
        have e1 : w8.cell? ⟨q, 1, none⟩ = some (.int .i64 0) := by rw [blk_cell K8.out]; rfl
        have z0 := blk_frozen K8.out 0
        have z1 := blk_frozen K8.out 1
        have qlt := blk_lt K8.out
        have d1' : w8.cell? ⟨rb, 1, none⟩ = some (.int .i64 (np : Int)) := by rw [blk_cell R8.out]; rfl
        have rlt := blk_lt R8.out
        clear HOO hXf HW HF HO
        go_wp2
        go_region
        all_goals go_wp2
        all_goals refine bodyPost_ret (results_tc rfl _ _ q 25 #[.int .i64 50, .int .i64 (np : Int)] (0, 0) _ rfl (blk_put (cs := #[.int .i64 50, .int .i64 0]) (blk_put (blk_drew K8.out) 0 _ rfl) 1 _ rfl) Tryz.underlying25 rfl (by kernel_rfl)) rfl ?_
        all_goals exact ⟨_, rfl, Kd.R_nil _ _ _ _ _, Below.setCell (Below.setCell B8.out.drew hqz _) hqz _⟩
      ·have hof := of_q c 4 k4 w5
       rw [hnx] at hl
       obtain ⟨d, hd⟩ : ∃ d, nextb a0 i = d := ⟨_, rfl⟩
       rw [hd] at hl
       have hnq := next_q rb a0 i (by omega) d hd w5 R5.out
       clear k4 hnx hd
       refine hof.mono ?_
       rintro e w6 ⟨rfl, hw6⟩
       subst w6
       clear hof
       go_wp2_with fail
       refine hnq.mono ?_
       rintro e w6 ⟨rfl, m6, rfl⟩
       have hlq := letter_q d false hl (w5.drewN m6)
       clear hl hnq
       go_wp2_with fail
       refine hlq.mono ?_
       rintro e w7 ⟨rfl, hw7⟩
       subst w7
       clear hlq
       have hwd := word_calls rb a0 i hit (by omega) (w5.drewN m6) (blk_drewN R6.out m6)
       obtain ⟨txt, htxt⟩ : ∃ txt, (wordL (a0.data.toList.drop i)).1 = txt := ⟨_, rfl⟩
       obtain ⟨np, hnp⟩ : ∃ np, a0.size - (wordL (a0.data.toList.drop i)).2.1.length = np := ⟨_, rfl⟩
       obtain ⟨ok, hok⟩ : ∃ ok, (wordL (a0.data.toList.drop i)).2.2 = ok := ⟨_, rfl⟩
       rw [htxt, hnp, hok] at hwd
       rw [hok, hnp, htxt] at HW
       rw [hok, hnp] at HF
       have HNP : Aside0 (np ≤ a0.size) := ⟨by omega⟩
       clear htxt hnp hok HSL
       have hnot : ∀ (x : Bool) (w : World), (Op.unary .not (.bool x)).run Tryz.prog w = .ok (.bool (!x)) w := fun _ _ => rfl
       go_wp2_with fail
       refine hwd.mono ?_
       rintro e w8 ⟨rfl, hr8, ht8⟩
       clear hwd
       have T8 : Aside0 (w8.heap[tb]? = some (.cells #[.int .i64 0, .string ⟨#[]⟩, .int .i64 (i : Int)] 38 (0, 0))) := ⟨ht8.blk (blk_drewN T5.out m6) (fun e => htz.out.2.2 e.symm)⟩
       have K8 : Aside0 (w8.heap[q]? = some (.cells #[.int .i64 0, .int .i64 0] 25 (0, 0))) := ⟨ht8.blk (blk_drewN K6.out m6) hqrb⟩
       have O8 : Aside0 (Kd.R k38 38 w8 w.heap.size (fun k => ¬ k = tb) u7 (toks.map tokS)) := ⟨Kd_turns (Kd.R_drewN O5.out m6) ht8 (blk_drewN R6.out m6) (by decide)⟩
       have B8 : Aside0 (Below w.heap.size w w8) := ⟨(pw_below_drewN B6.out m6).trans (ht8.toBelow (pw_below_drewN B6.out m6).size (fun k (hk : k = rb) => by omega))⟩
       have R8 := Aside0.mk hr8
       clear hr8 ht8 K6 R6 B6 O5 T5 R5 HT5
       cases ok with
       | true =>
        obtain ⟨hnp1, hXw⟩ := HW.out rfl
        have HX := Aside0.mk hXw
        have HN1 := Aside0.mk hnp1
        clear hXw hnp1 HW HF
        rw [if_pos rfl]
        have tc0 : w8.cell? ⟨tb, 0, none⟩ = some (.int .i64 0) := by rw [blk_cell T8.out]; rfl
        have tc1 : w8.cell? ⟨tb, 1, none⟩ = some (.string ⟨#[]⟩) := by rw [blk_cell T8.out]; rfl
        have tz0 := blk_frozen T8.out 0
        have tz1 := blk_frozen T8.out 1
        have tlt := blk_lt T8.out
        go_upto_region 27 with (fail)
        have T6 : Aside0 ((w8.setCell ⟨tb, 1, none⟩ (.string ⟨txt.toArray⟩)).heap[tb]? = some (.cells #[.int .i64 0, .string ⟨txt.toArray⟩, .int .i64 (i : Int)] 38 (0, 0))) := ⟨blk_put T8.out 1 _ rfl⟩
        have K6 : Aside0 ((w8.setCell ⟨tb, 1, none⟩ (.string ⟨txt.toArray⟩)).heap[q]? = some (.cells #[.int .i64 0, .int .i64 0] 25 (0, 0))) := ⟨far_blk K8.out htz.out.2.1 _⟩
        have R6 : Aside0 (Rdr rb a0 (np) (w8.setCell ⟨tb, 1, none⟩ (.string ⟨txt.toArray⟩))) := ⟨far_blk R8.out htz.out.2.2 _⟩
        have O6 : Aside0 (Kd.R k38 38 (w8.setCell ⟨tb, 1, none⟩ (.string ⟨txt.toArray⟩)) w.heap.size (fun _ => True) u7 (toks.map tokS)) := ⟨Kd.R_mono (Kd.R_far O8.out (p := ⟨tb, 1, none⟩) (fun k hk => hk) _) (fun _ _ => trivial)⟩
        have B6 : Aside0 (Below w.heap.size w (w8.setCell ⟨tb, 1, none⟩ (.string ⟨txt.toArray⟩))) := ⟨Below.setCell B8.out htz.out.1 _⟩
        clear tc0 tc1 tz0 tz1 tlt T8 K8 R8 O8 B8
        generalize w8.setCell ⟨tb, 1, none⟩ (.string ⟨txt.toArray⟩) = w6 at *
        have t0 : w6.cell? ⟨tb, 0, none⟩ = some (.int .i64 0) := by rw [blk_cell T6.out]; rfl
        have t1 : w6.cell? ⟨tb, 1, none⟩ = some (.string ⟨txt.toArray⟩) := by rw [blk_cell T6.out]; rfl
        have t2 : w6.cell? ⟨tb, 2, none⟩ = some (.int .i64 (i : Int)) := by rw [blk_cell T6.out]; rfl
        go_wp2_with (first | ((with_reducible refine gate_builtin (b := .append) (xs := #[.tmp 104, .tmp 106]) rfl ?_); at_builtin; refine Kd.R_append k38 (w0 := w) (W := w6) w.heap.size rfl (.tmp 104) (.tmp 106) 22 38 (.agg #[(.int .i64 0), (.string ⟨#[]⟩), (.int .i64 0)]) 32 rfl Tryz.underlying22 info38 rfl (by decide) (by omega) u7 (toks.map tokS) (tokS (0, txt, i)) [.int .i64 0, .string ⟨txt.toArray⟩, .int .i64 (i : Int)] (fun _ => True) (fun _ => False) rfl rfl ?aP (fun _ hk => hk.elim) ?aF ?aO ?aB ?aS ?aL ?_; (case aP => exact k38_mkM _ _ _ (tokS (0, txt, i))); (case aB => exact B6.out); (case aF => exact (fun _ _ => trivial)); (case aO => exact O6.out); (case aS => exact B6.out.size); (case aL => (have h1 := HI.out.2.2.1; have h2 := hs; rw [List.length_map]; omega)); intro v8 w8 ho hb hg hat; have K8 := Aside0.mk (blk_grown (g := q) K6.out hg (Kd.R_ne O6.out K6.out (by decide))); have R8 : Aside0 (Rdr rb a0 (np) w8) := ⟨blk_grown (g := rb) R6.out hg (Kd.R_ne O6.out R6.out (by decide))⟩; have O8 := Aside0.mk ho; have B8 := Aside0.mk hb; clear ho hb hg hat))
        go_roundg g
        case measure => omega
        case rel => exact ⟨np, toks ++ [(0, txt, i)], ⟨by have := HNP.out; omega, by have := HI.out; have := HN1.out; omega, by have := HI.out; have := HN1.out; rw [List.length_append]; simp; omega, by have h := HX.out; rw [List.append_assoc]; exact h⟩, K8, R8, by rw [List.map_append]; exact O8, B8⟩
       | false =>
        have hXf := HF.out rfl
        have HOO := HO.out
        rw [hXf] at HOO
        obtain ⟨rfl, rfl, rfl⟩ : r1 = [] ∧ r2 = 50 ∧ r3 = (np : Int) := by injection HOO with a b; injection b with b c; exact ⟨a.symm, b.symm, c.symm⟩
        have e0 : w8.cell? ⟨q, 0, none⟩ = some (.int .i64 0) := by rw [blk_cell K8.out]; rfl
        have e1 : w8.cell? ⟨q, 1, none⟩ = some (.int .i64 0) := by rw [blk_cell K8.out]; rfl
        have z0 := blk_frozen K8.out 0
        have z1 := blk_frozen K8.out 1
        have qlt := blk_lt K8.out
        have d1' : w8.cell? ⟨rb, 1, none⟩ = some (.int .i64 (np : Int)) := by rw [blk_cell R8.out]; rfl
        have rlt := blk_lt R8.out
        clear HOO hXf HW HF HO
        go_wp2
        go_region
        all_goals go_wp2
        all_goals refine bodyPost_ret (results_tc rfl _ _ q 25 #[.int .i64 50, .int .i64 (np : Int)] (0, 0) _ rfl (blk_put (cs := #[.int .i64 50, .int .i64 0]) (blk_put (blk_drew K8.out) 0 _ rfl) 1 _ rfl) Tryz.underlying25 rfl (by kernel_rfl)) rfl ?_
        all_goals exact ⟨_, rfl, Kd.R_nil _ _ _ _ _, Below.setCell (Below.setCell B8.out.drew hqz _) hqz _⟩
    ·have hie : i = a0.size := by have := HI.out.1; omega
     have hmr := more_q rb a0 i false (by simpa using hi) wr R.out
     have HXE : Aside0 ((toks, (none : Option Nat)) = X) := ⟨by have h := HI.out.2.2.2; rw [List.drop_of_length_le (by rw [← Lib.size_eq]; omega), lx_nil, List.append_nil] at h; exact h⟩
     clear hi hie
     go_wp2_with fail
     refine hmr.mono ?_
     rintro e w4 ⟨rfl, m, rfl⟩
     have e0 : (wr.drewN m).cell? ⟨q, 0, none⟩ = some (.int .i64 0) := by rw [blk_cell (blk_drewN K.out m)]; rfl
     have e1 : (wr.drewN m).cell? ⟨q, 1, none⟩ = some (.int .i64 0) := by rw [blk_cell (blk_drewN K.out m)]; rfl
     have z0 := blk_frozen (blk_drewN K.out m) 0
     have z1 := blk_frozen (blk_drewN K.out m) 1
     have qlt := blk_lt (blk_drewN K.out m)
     go_wp2
     have HOO := HO.out
     rw [← HXE.out] at HOO
     obtain ⟨rfl, rfl, rfl⟩ : r1 = toks.map tokS ∧ r2 = 0 ∧ r3 = 0 := by injection HOO with a b; injection b with b c; exact ⟨a.symm, b.symm, c.symm⟩
     refine bodyPost_ret (results_tc rfl _ _ q 25 #[.int .i64 0, .int .i64 0] (0, 0) _ rfl (blk_put (cs := #[.int .i64 0, .int .i64 0]) (blk_put (blk_drewN K.out m) 0 _ rfl) 1 _ rfl) Tryz.underlying25 rfl (by kernel_rfl)) rfl ?_
     exact ⟨_, rfl, Kd.R_set (Kd.R_set (Kd.R_drewN O.out m) (blk_drewN K.out m) (by decide) 0 _) (blk_put (cs' := #[.int .i64 0, .int .i64 0]) (blk_drewN K.out m) 0 _ rfl) (by decide) 1 _, Below.setCell (Below.setCell (pw_below_drewN B.out m) hqz _) hqz _⟩

/-! ### variorumref05_Blank: function 22 -/
def variorumref05_Blank.f (a0 : Int) : Option (Bool) := if a0 = 9 then (some true) else (if a0 = 10 then (some true) else (if a0 = 13 then (some true) else (some (a0 == 32))))
set_option maxHeartbeats 8000000 in
set_option maxRecDepth 100000 in
theorem variorumref05_Blank.calls (a0 : Int) (r : Bool) (w : World) (h : variorumref05_Blank.f a0 = some r) :
  Calls Tryz.prog 22 #[.int .u8 a0] w fun e w' => e = .returned (.bool r) ∧ Drawn0 w w' := by
 have H : (if a0 = 9 then (some true) else (if a0 = 10 then (some true) else (if a0 = 13 then (some true) else (some (a0 == 32))))) = some r := h
 clear h
 by_cases c2 : a0 = 9
 ·rw [if_pos c2] at H
  have c2b0 : (a0 == 9) = true := beq_iff_eq.mpr c2
  have c2b1 : (a0 != 9) = false := bne_eq_false_iff_eq.mpr c2
  clear c2
  obtain rfl := Option.some.inj H
  go_enter Tryz.func22, Tryz.ntmps22
  go_wp2
  go_ret
  exact ⟨by first | rfl | (simp; done) | (simp [*]; done), by repeat (first | exact Drawn0.refl _ | apply Drawn0.step)⟩
 ·rw [if_neg c2] at H
  have c2b0 : (a0 == 9) = false := beq_eq_false_iff_ne.mpr c2
  have c2b1 : (a0 != 9) = true := bne_iff_ne.mpr c2
  by_cases c3 : a0 = 10
  ·rw [if_pos c3] at H
   have c3b0 : (a0 == 10) = true := beq_iff_eq.mpr c3
   have c3b1 : (a0 != 10) = false := bne_eq_false_iff_eq.mpr c3
   clear c3
   obtain rfl := Option.some.inj H
   go_enter Tryz.func22, Tryz.ntmps22
   go_wp2
   go_ret
   exact ⟨by first | rfl | (simp; done) | (simp [*]; done), by repeat (first | exact Drawn0.refl _ | apply Drawn0.step)⟩
  ·rw [if_neg c3] at H
   have c3b0 : (a0 == 10) = false := beq_eq_false_iff_ne.mpr c3
   have c3b1 : (a0 != 10) = true := bne_iff_ne.mpr c3
   by_cases c4 : a0 = 13
   ·rw [if_pos c4] at H
    have c4b0 : (a0 == 13) = true := beq_iff_eq.mpr c4
    have c4b1 : (a0 != 13) = false := bne_eq_false_iff_eq.mpr c4
    clear c4
    obtain rfl := Option.some.inj H
    go_enter Tryz.func22, Tryz.ntmps22
    go_wp2
    go_ret
    exact ⟨by first | rfl | (simp; done) | (simp [*]; done), by repeat (first | exact Drawn0.refl _ | apply Drawn0.step)⟩
   ·rw [if_neg c4] at H
    have c4b0 : (a0 == 13) = false := beq_eq_false_iff_ne.mpr c4
    have c4b1 : (a0 != 13) = true := bne_iff_ne.mpr c4
    obtain rfl := Option.some.inj H
    go_enter Tryz.func22, Tryz.ntmps22
    go_wp2
    go_ret
    exact ⟨by first | rfl | (simp; done) | (simp [*]; done), by repeat (first | exact Drawn0.refl _ | apply Drawn0.step)⟩

/-! ### variorumref04_Letter: function 65 -/
def variorumref04_Letter.f (a0 : Int) : Option (Bool) := if a0 ≥ 0 then (if a0 ≤ 1114111 then (if a0 < 55296 then (some true) else (some (decide (a0 > 57343)))) else (some false)) else (some false)
set_option maxHeartbeats 8000000 in
set_option maxRecDepth 100000 in
theorem variorumref04_Letter.calls (a0 : Int) (r : Bool) (w : World) (h : variorumref04_Letter.f a0 = some r) :
  Calls Tryz.prog 65 #[.int .i32 a0] w fun e w' => e = .returned (.bool r) ∧ Drawn0 w w' := by
 have H : (if a0 ≥ 0 then (if a0 ≤ 1114111 then (if a0 < 55296 then (some true) else (some (decide (a0 > 57343)))) else (some false)) else (some false)) = some r := h
 clear h
 by_cases c2 : a0 ≥ 0
 ·rw [if_pos c2] at H
  have c2b0 : decide (0 ≤ a0) = true := decide_eq_true c2
  clear c2
  by_cases c3 : a0 ≤ 1114111
  ·rw [if_pos c3] at H
   have c3b0 : decide (a0 ≤ 1114111) = true := decide_eq_true c3
   clear c3
   by_cases c4 : a0 < 55296
   ·rw [if_pos c4] at H
    have c4b0 : decide (a0 < 55296) = true := decide_eq_true c4
    clear c4
    obtain rfl := Option.some.inj H
    go_enter Tryz.func65, Tryz.ntmps65
    go_wp2
    go_ret
    exact ⟨by first | rfl | (simp; done) | (simp [*]; done), by repeat (first | exact Drawn0.refl _ | apply Drawn0.step)⟩
   ·rw [if_neg c4] at H
    have c4b0 : decide (a0 < 55296) = false := decide_eq_false c4
    clear c4
    obtain rfl := Option.some.inj H
    go_enter Tryz.func65, Tryz.ntmps65
    go_wp2
    go_ret
    exact ⟨by first | rfl | (simp; done) | (simp [*]; done), by repeat (first | exact Drawn0.refl _ | apply Drawn0.step)⟩
  ·rw [if_neg c3] at H
   have c3b0 : decide (a0 ≤ 1114111) = false := decide_eq_false c3
   clear c3
   obtain rfl := Option.some.inj H
   go_enter Tryz.func65, Tryz.ntmps65
   go_wp2
   go_ret
   exact ⟨by first | rfl | (simp; done) | (simp [*]; done), by repeat (first | exact Drawn0.refl _ | apply Drawn0.step)⟩
 ·rw [if_neg c2] at H
  have c2b0 : decide (0 ≤ a0) = false := decide_eq_false c2
  clear c2
  obtain rfl := Option.some.inj H
  go_enter Tryz.func65, Tryz.ntmps65
  go_wp2
  go_ret
  exact ⟨by first | rfl | (simp; done) | (simp [*]; done), by repeat (first | exact Drawn0.refl _ | apply Drawn0.step)⟩

/-! ### variorumref04_Bytes: function 66 -/
def variorumref04_Bytes.f (a0 : Int) : Option (ByteArray) := if (wrap64 (a0)) < 128 then (some (strOfNums (([(wrap64 (a0)) % 256] : List Int)))) else (if (wrap64 (a0)) < 2048 then (some (strOfNums (([(wrap64 (192 + (wrap64 (Int.tdiv (wrap64 (a0)) 64)))) % 256, (wrap64 (128 + (Int.tmod (wrap64 (a0)) 64))) % 256] : List Int)))) else (if (wrap64 (a0)) < 65536 then (some (strOfNums (([(wrap64 (224 + (wrap64 (Int.tdiv (wrap64 (a0)) 4096)))) % 256, (wrap64 (128 + (Int.tmod (wrap64 (Int.tdiv (wrap64 (a0)) 64)) 64))) % 256, (wrap64 (128 + (Int.tmod (wrap64 (a0)) 64))) % 256] : List Int)))) else (some (strOfNums (([(wrap64 (240 + (wrap64 (Int.tdiv (wrap64 (a0)) 262144)))) % 256, (wrap64 (128 + (Int.tmod (wrap64 (Int.tdiv (wrap64 (a0)) 4096)) 64))) % 256, (wrap64 (128 + (Int.tmod (wrap64 (Int.tdiv (wrap64 (a0)) 64)) 64))) % 256, (wrap64 (128 + (Int.tmod (wrap64 (a0)) 64))) % 256] : List Int))))))
set_option maxHeartbeats 8000000 in
set_option maxRecDepth 100000 in
theorem variorumref04_Bytes.calls (a0 : Int) (r : ByteArray) (w : World) (h : variorumref04_Bytes.f a0 = some r) :
  Calls Tryz.prog 66 #[.int .i32 a0] w fun e w' => e = .returned (.string r) ∧ Below w.heap.size w w' := by
 have HB := Aside0.mk (Below.refl w.heap.size w)
 have H : (if (wrap64 (a0)) < 128 then (some (strOfNums (([(wrap64 (a0)) % 256] : List Int)))) else (if (wrap64 (a0)) < 2048 then (some (strOfNums (([(wrap64 (192 + (wrap64 (Int.tdiv (wrap64 (a0)) 64)))) % 256, (wrap64 (128 + (Int.tmod (wrap64 (a0)) 64))) % 256] : List Int)))) else (if (wrap64 (a0)) < 65536 then (some (strOfNums (([(wrap64 (224 + (wrap64 (Int.tdiv (wrap64 (a0)) 4096)))) % 256, (wrap64 (128 + (Int.tmod (wrap64 (Int.tdiv (wrap64 (a0)) 64)) 64))) % 256, (wrap64 (128 + (Int.tmod (wrap64 (a0)) 64))) % 256] : List Int)))) else (some (strOfNums (([(wrap64 (240 + (wrap64 (Int.tdiv (wrap64 (a0)) 262144)))) % 256, (wrap64 (128 + (Int.tmod (wrap64 (Int.tdiv (wrap64 (a0)) 4096)) 64))) % 256, (wrap64 (128 + (Int.tmod (wrap64 (Int.tdiv (wrap64 (a0)) 64)) 64))) % 256, (wrap64 (128 + (Int.tmod (wrap64 (a0)) 64))) % 256] : List Int))))))) = some r := h
 clear h
 by_cases c2 : (wrap64 (a0)) < 128
 ·rw [if_pos c2] at H
  have c2b0 : decide ((wrap64 (a0)) < 128) = true := decide_eq_true c2
  clear c2
  obtain ⟨y101, hy101⟩ : ∃ y_ : List Int, y_ = (([(wrap64 (a0)) % 256] : List Int)) := ⟨_, rfl⟩
  replace H : (some (strOfNums y101)) = some r := by first | (rw [hy101]; with_reducible exact H) | (have H2_ := (Option.bind_some _ _).symm.trans H; rw [hy101]; with_reducible exact H2_) | (have H2_ := (Option.bind_some _ _).symm.trans H; with_reducible exact H2_) | with_reducible exact H | (rw [hy101]; exact H) | exact H
  have Ny101 := Aside0.mk hy101
  clear hy101
  obtain rfl := Option.some.inj H
  go_enter Tryz.func66, Tryz.ntmps66
  go_wp2_with (first | ((with_reducible refine gate_dst (N := 10) rfl ?_); refine Kd.R_lit (Kd.int .u8) _ 5 ?hg (N := 10) ?hd (xs := ([(wrap64 (a0)) % 256] : List Int)) (inner := [.int .u8 ((wrap64 (a0)) % 256)]) (ok := fun _ => True) (okp := fun _ => True) ?hr ?hp (fun _ hk => hk) trivial (Below.refl _ _) (Nat.le_refl _) (by simp) ?_; (case hd => rfl); (case hg => rfl); (case hr => first | (go_simp; done) | (go_simp; rfl)); (case hp => exact (Reps.one (show Kd.M (Kd.int .u8) _ _ _ ((wrap64 (a0)) % 256) [.int .u8 ((wrap64 (a0)) % 256)] from rfl) (Reps.none _ _))); intro v102 w3 ho4 hb hg_ hnew_; clear hg_ hnew_; (first | rw [← Ny101.out] at ho4 | (simp only [Int.reduceToNat] at ho4; rw [← Ny101.out] at ho4)); have n0_ := Aside0.mk (Kd.R_lower ho4 (below_size (by repeat (first | (with_reducible first | exact HB.out | apply below_alloc | apply pw_below_drewN | apply below_drew1) | exact HB.out)))); have n1_ := Aside0.mk (below_step (by repeat (first | (with_reducible first | exact HB.out | apply below_alloc | apply pw_below_drewN | apply below_drew1) | exact HB.out)) hb); clear HB; have HO103 := n0_; have HB := n1_; clear n0_ n1_; clear hb ho4; have hcv5 := own_string (P := Tryz.prog) Tryz.underlying63 Tryz.underlying5 Tryz.underlying9 (Kd.own_of_R HO103.out)))
  go_ret
  exact ⟨by first | rfl | (simp [errW_none, errW_some] <;> rfl) | (simp [*, errW_none, errW_some] <;> rfl), by repeat (first | (with_reducible first | exact HB.out | apply below_alloc | apply pw_below_drewN | apply below_drew1) | exact HB.out)⟩
 ·rw [if_neg c2] at H
  have c2b0 : decide ((wrap64 (a0)) < 128) = false := decide_eq_false c2
  clear c2
  by_cases c6 : (wrap64 (a0)) < 2048
  ·rw [if_pos c6] at H
   have c6b0 : decide ((wrap64 (a0)) < 2048) = true := decide_eq_true c6
   clear c6
   obtain ⟨y104, hy104⟩ : ∃ y_ : List Int, y_ = (([(wrap64 (192 + (wrap64 (Int.tdiv (wrap64 (a0)) 64)))) % 256, (wrap64 (128 + (Int.tmod (wrap64 (a0)) 64))) % 256] : List Int)) := ⟨_, rfl⟩
   replace H : (some (strOfNums y104)) = some r := by first | (rw [hy104]; with_reducible exact H) | (have H2_ := (Option.bind_some _ _).symm.trans H; rw [hy104]; with_reducible exact H2_) | (have H2_ := (Option.bind_some _ _).symm.trans H; with_reducible exact H2_) | with_reducible exact H | (rw [hy104]; exact H) | exact H
   have Ny104 := Aside0.mk hy104
   clear hy104
   obtain rfl := Option.some.inj H
   go_enter Tryz.func66, Tryz.ntmps66
   go_wp2_with (first | ((with_reducible refine gate_dst (N := 22) rfl ?_); refine Kd.R_lit (Kd.int .u8) _ 5 ?hg (N := 22) ?hd (xs := ([(wrap64 (192 + (wrap64 (Int.tdiv (wrap64 (a0)) 64)))) % 256, (wrap64 (128 + (Int.tmod (wrap64 (a0)) 64))) % 256] : List Int)) (inner := [.int .u8 ((wrap64 (192 + (wrap64 (Int.tdiv (wrap64 (a0)) 64)))) % 256), .int .u8 ((wrap64 (128 + (Int.tmod (wrap64 (a0)) 64))) % 256)]) (ok := fun _ => True) (okp := fun _ => True) ?hr ?hp (fun _ hk => hk) trivial (Below.refl _ _) (Nat.le_refl _) (by simp) ?_; (case hd => rfl); (case hg => rfl); (case hr => first | (go_simp; done) | (go_simp; rfl)); (case hp => exact (Reps.one (show Kd.M (Kd.int .u8) _ _ _ ((wrap64 (192 + (wrap64 (Int.tdiv (wrap64 (a0)) 64)))) % 256) [.int .u8 ((wrap64 (192 + (wrap64 (Int.tdiv (wrap64 (a0)) 64)))) % 256)] from rfl) (Reps.one (show Kd.M (Kd.int .u8) _ _ _ ((wrap64 (128 + (Int.tmod (wrap64 (a0)) 64))) % 256) [.int .u8 ((wrap64 (128 + (Int.tmod (wrap64 (a0)) 64))) % 256)] from rfl) (Reps.none _ _)))); intro v105 w7 ho8 hb hg_ hnew_; clear hg_ hnew_; (first | rw [← Ny104.out] at ho8 | (simp only [Int.reduceToNat] at ho8; rw [← Ny104.out] at ho8)); have n0_ := Aside0.mk (Kd.R_lower ho8 (below_size (by repeat (first | (with_reducible first | exact HB.out | apply below_alloc | apply pw_below_drewN | apply below_drew1) | exact HB.out)))); have n1_ := Aside0.mk (below_step (by repeat (first | (with_reducible first | exact HB.out | apply below_alloc | apply pw_below_drewN | apply below_drew1) | exact HB.out)) hb); clear HB; have HO106 := n0_; have HB := n1_; clear n0_ n1_; clear hb ho8; have hcv9 := own_string (P := Tryz.prog) Tryz.underlying63 Tryz.underlying5 Tryz.underlying9 (Kd.own_of_R HO106.out)))
   go_ret
   exact ⟨by first | rfl | (simp [errW_none, errW_some] <;> rfl) | (simp [*, errW_none, errW_some] <;> rfl), by repeat (first | (with_reducible first | exact HB.out | apply below_alloc | apply pw_below_drewN | apply below_drew1) | exact HB.out)⟩
  ·rw [if_neg c6] at H
   have c6b0 : decide ((wrap64 (a0)) < 2048) = false := decide_eq_false c6
   clear c6
   by_cases c10 : (wrap64 (a0)) < 65536
   ·rw [if_pos c10] at H
    have c10b0 : decide ((wrap64 (a0)) < 65536) = true := decide_eq_true c10
    clear c10
    obtain ⟨y107, hy107⟩ : ∃ y_ : List Int, y_ = (([(wrap64 (224 + (wrap64 (Int.tdiv (wrap64 (a0)) 4096)))) % 256, (wrap64 (128 + (Int.tmod (wrap64 (Int.tdiv (wrap64 (a0)) 64)) 64))) % 256, (wrap64 (128 + (Int.tmod (wrap64 (a0)) 64))) % 256] : List Int)) := ⟨_, rfl⟩
    replace H : (some (strOfNums y107)) = some r := by first | (rw [hy107]; with_reducible exact H) | (have H2_ := (Option.bind_some _ _).symm.trans H; rw [hy107]; with_reducible exact H2_) | (have H2_ := (Option.bind_some _ _).symm.trans H; with_reducible exact H2_) | with_reducible exact H | (rw [hy107]; exact H) | exact H
    have Ny107 := Aside0.mk hy107
    clear hy107
    obtain rfl := Option.some.inj H
    go_enter Tryz.func66, Tryz.ntmps66
    go_wp2_with (first | ((with_reducible refine gate_dst (N := 39) rfl ?_); refine Kd.R_lit (Kd.int .u8) _ 5 ?hg (N := 39) ?hd (xs := ([(wrap64 (224 + (wrap64 (Int.tdiv (wrap64 (a0)) 4096)))) % 256, (wrap64 (128 + (Int.tmod (wrap64 (Int.tdiv (wrap64 (a0)) 64)) 64))) % 256, (wrap64 (128 + (Int.tmod (wrap64 (a0)) 64))) % 256] : List Int)) (inner := [.int .u8 ((wrap64 (224 + (wrap64 (Int.tdiv (wrap64 (a0)) 4096)))) % 256), .int .u8 ((wrap64 (128 + (Int.tmod (wrap64 (Int.tdiv (wrap64 (a0)) 64)) 64))) % 256), .int .u8 ((wrap64 (128 + (Int.tmod (wrap64 (a0)) 64))) % 256)]) (ok := fun _ => True) (okp := fun _ => True) ?hr ?hp (fun _ hk => hk) trivial (Below.refl _ _) (Nat.le_refl _) (by simp) ?_; (case hd => rfl); (case hg => rfl); (case hr => first | (go_simp; done) | (go_simp; rfl)); (case hp => exact (Reps.one (show Kd.M (Kd.int .u8) _ _ _ ((wrap64 (224 + (wrap64 (Int.tdiv (wrap64 (a0)) 4096)))) % 256) [.int .u8 ((wrap64 (224 + (wrap64 (Int.tdiv (wrap64 (a0)) 4096)))) % 256)] from rfl) (Reps.one (show Kd.M (Kd.int .u8) _ _ _ ((wrap64 (128 + (Int.tmod (wrap64 (Int.tdiv (wrap64 (a0)) 64)) 64))) % 256) [.int .u8 ((wrap64 (128 + (Int.tmod (wrap64 (Int.tdiv (wrap64 (a0)) 64)) 64))) % 256)] from rfl) (Reps.one (show Kd.M (Kd.int .u8) _ _ _ ((wrap64 (128 + (Int.tmod (wrap64 (a0)) 64))) % 256) [.int .u8 ((wrap64 (128 + (Int.tmod (wrap64 (a0)) 64))) % 256)] from rfl) (Reps.none _ _))))); intro v108 w11 ho12 hb hg_ hnew_; clear hg_ hnew_; (first | rw [← Ny107.out] at ho12 | (simp only [Int.reduceToNat] at ho12; rw [← Ny107.out] at ho12)); have n0_ := Aside0.mk (Kd.R_lower ho12 (below_size (by repeat (first | (with_reducible first | exact HB.out | apply below_alloc | apply pw_below_drewN | apply below_drew1) | exact HB.out)))); have n1_ := Aside0.mk (below_step (by repeat (first | (with_reducible first | exact HB.out | apply below_alloc | apply pw_below_drewN | apply below_drew1) | exact HB.out)) hb); clear HB; have HO109 := n0_; have HB := n1_; clear n0_ n1_; clear hb ho12; have hcv13 := own_string (P := Tryz.prog) Tryz.underlying63 Tryz.underlying5 Tryz.underlying9 (Kd.own_of_R HO109.out)))
    go_ret
    exact ⟨by first | rfl | (simp [errW_none, errW_some] <;> rfl) | (simp [*, errW_none, errW_some] <;> rfl), by repeat (first | (with_reducible first | exact HB.out | apply below_alloc | apply pw_below_drewN | apply below_drew1) | exact HB.out)⟩
   ·rw [if_neg c10] at H
    have c10b0 : decide ((wrap64 (a0)) < 65536) = false := decide_eq_false c10
    clear c10
    obtain ⟨y110, hy110⟩ : ∃ y_ : List Int, y_ = (([(wrap64 (240 + (wrap64 (Int.tdiv (wrap64 (a0)) 262144)))) % 256, (wrap64 (128 + (Int.tmod (wrap64 (Int.tdiv (wrap64 (a0)) 4096)) 64))) % 256, (wrap64 (128 + (Int.tmod (wrap64 (Int.tdiv (wrap64 (a0)) 64)) 64))) % 256, (wrap64 (128 + (Int.tmod (wrap64 (a0)) 64))) % 256] : List Int)) := ⟨_, rfl⟩
    replace H : (some (strOfNums y110)) = some r := by first | (rw [hy110]; with_reducible exact H) | (have H2_ := (Option.bind_some _ _).symm.trans H; rw [hy110]; with_reducible exact H2_) | (have H2_ := (Option.bind_some _ _).symm.trans H; with_reducible exact H2_) | with_reducible exact H | (rw [hy110]; exact H) | exact H
    have Ny110 := Aside0.mk hy110
    clear hy110
    obtain rfl := Option.some.inj H
    go_enter Tryz.func66, Tryz.ntmps66
    go_wp2_with (first | ((with_reducible refine gate_dst (N := 59) rfl ?_); refine Kd.R_lit (Kd.int .u8) _ 5 ?hg (N := 59) ?hd (xs := ([(wrap64 (240 + (wrap64 (Int.tdiv (wrap64 (a0)) 262144)))) % 256, (wrap64 (128 + (Int.tmod (wrap64 (Int.tdiv (wrap64 (a0)) 4096)) 64))) % 256, (wrap64 (128 + (Int.tmod (wrap64 (Int.tdiv (wrap64 (a0)) 64)) 64))) % 256, (wrap64 (128 + (Int.tmod (wrap64 (a0)) 64))) % 256] : List Int)) (inner := [.int .u8 ((wrap64 (240 + (wrap64 (Int.tdiv (wrap64 (a0)) 262144)))) % 256), .int .u8 ((wrap64 (128 + (Int.tmod (wrap64 (Int.tdiv (wrap64 (a0)) 4096)) 64))) % 256), .int .u8 ((wrap64 (128 + (Int.tmod (wrap64 (Int.tdiv (wrap64 (a0)) 64)) 64))) % 256), .int .u8 ((wrap64 (128 + (Int.tmod (wrap64 (a0)) 64))) % 256)]) (ok := fun _ => True) (okp := fun _ => True) ?hr ?hp (fun _ hk => hk) trivial (Below.refl _ _) (Nat.le_refl _) (by simp) ?_; (case hd => rfl); (case hg => rfl); (case hr => first | (go_simp; done) | (go_simp; rfl)); (case hp => exact (Reps.one (show Kd.M (Kd.int .u8) _ _ _ ((wrap64 (240 + (wrap64 (Int.tdiv (wrap64 (a0)) 262144)))) % 256) [.int .u8 ((wrap64 (240 + (wrap64 (Int.tdiv (wrap64 (a0)) 262144)))) % 256)] from rfl) (Reps.one (show Kd.M (Kd.int .u8) _ _ _ ((wrap64 (128 + (Int.tmod (wrap64 (Int.tdiv (wrap64 (a0)) 4096)) 64))) % 256) [.int .u8 ((wrap64 (128 + (Int.tmod (wrap64 (Int.tdiv (wrap64 (a0)) 4096)) 64))) % 256)] from rfl) (Reps.one (show Kd.M (Kd.int .u8) _ _ _ ((wrap64 (128 + (Int.tmod (wrap64 (Int.tdiv (wrap64 (a0)) 64)) 64))) % 256) [.int .u8 ((wrap64 (128 + (Int.tmod (wrap64 (Int.tdiv (wrap64 (a0)) 64)) 64))) % 256)] from rfl) (Reps.one (show Kd.M (Kd.int .u8) _ _ _ ((wrap64 (128 + (Int.tmod (wrap64 (a0)) 64))) % 256) [.int .u8 ((wrap64 (128 + (Int.tmod (wrap64 (a0)) 64))) % 256)] from rfl) (Reps.none _ _)))))); intro v111 w14 ho15 hb hg_ hnew_; clear hg_ hnew_; (first | rw [← Ny110.out] at ho15 | (simp only [Int.reduceToNat] at ho15; rw [← Ny110.out] at ho15)); have n0_ := Aside0.mk (Kd.R_lower ho15 (below_size (by repeat (first | (with_reducible first | exact HB.out | apply below_alloc | apply pw_below_drewN | apply below_drew1) | exact HB.out)))); have n1_ := Aside0.mk (below_step (by repeat (first | (with_reducible first | exact HB.out | apply below_alloc | apply pw_below_drewN | apply below_drew1) | exact HB.out)) hb); clear HB; have HO112 := n0_; have HB := n1_; clear n0_ n1_; clear hb ho15; have hcv16 := own_string (P := Tryz.prog) Tryz.underlying63 Tryz.underlying5 Tryz.underlying9 (Kd.own_of_R HO112.out)))
    go_ret
    exact ⟨by first | rfl | (simp [errW_none, errW_some] <;> rfl) | (simp [*, errW_none, errW_some] <;> rfl), by repeat (first | (with_reducible first | exact HB.out | apply below_alloc | apply pw_below_drewN | apply below_drew1) | exact HB.out)⟩

end Go.Proofs.YtjiljpddkfcdbaaGreatDoor.PLx

/- Written by a program of this session: functions of the given program as plain Lean functions, the walks that show it, and the row of each law, for every input that its statement speaks of. -/
import Derived.Test.YtjppjlhhdfkloaaPTpx0
namespace Go.Proofs.Ytjppjlhhdfkloaa.PTp
open Go.RowKit Go.Proofs.YtjppjlhhdfkloaaW.PrintWords Go.Proofs.YtjppjlhhdfkloaaW.PrintLast Go.Proofs.YtjppjlhhdfkloaaW.PrintMore
attribute [local go_sem] max2_int min2_int max_two min_two max_three min_three max_four min_four   -- for this text's walks alone
set_option linter.unusedVariables false
set_option linter.unusedSimpArgs false

/-! ### variorumref06_Texts: function 14 -/
def variorumref06_Texts.l0 : Nat → List ByteArray → List ByteArray → Int → Option (Bool)
 | 0, _, _, _ => none
 | k + 1, x0, x1, x5 => if x5 < (x0.length : Int) then (if 0 ≤ x5 then (if x5 < (x1.length : Int) then (if (rdOf ByteArray.empty x0 x5).toList = (rdOf ByteArray.empty x1 x5).toList then (variorumref06_Texts.l0 k x0 x1 (wrap64 (x5 + 1))) else (some false)) else (none)) else (none)) else (some true)
def variorumref06_Texts.f (k : Nat) (l0 : List ByteArray) (l1 : List ByteArray) : Option (Bool) := if (l0.length : Int) = (l1.length : Int) then (variorumref06_Texts.l0 k l0 l1 0) else (some false)
theorem variorumref06_Texts.mono_l : ∀ k, (∀ y0 y1 y2, LeO (variorumref06_Texts.l0 k y0 y1 y2) (variorumref06_Texts.l0 (k + 1) y0 y1 y2))
 | 0 => fun _ _ _ r h => by simp [variorumref06_Texts.l0] at h
 | k + 1 => by
  have ih0 := variorumref06_Texts.mono_l k
  ·intro y0 y1 y2
   unfold variorumref06_Texts.l0
   repeat' first | (with_reducible first | exact ih0 _ _ _ | exact LeO.refl _ | exact LeO.none _ | refine LeO.ite ?_ ?_ | refine LeO.bind ?_ (fun _ => ?_)) | exact LeO.none _ | refine LeO.ite ?_ ?_ | refine LeO.bind ?_ (fun _ => ?_)
theorem variorumref06_Texts.mono : ∀ a0 a1 k, LeO (variorumref06_Texts.f k a0 a1) (variorumref06_Texts.f (k + 1) a0 a1) := by
 intro a0 a1 k
 have ih0 := variorumref06_Texts.mono_l k
 unfold variorumref06_Texts.f
 repeat' first
   | (with_reducible exact ih0 _ _ _)
   | (with_reducible exact LeO.refl _)
   | (with_reducible exact LeO.none _)
   | (with_reducible refine LeO.ite ?_ ?_)
   | (with_reducible refine LeO.bind ?_ (fun _ => ?_))
   | exact ih0 _ _ _
   | exact LeO.none _
   | refine LeO.ite ?_ ?_
   | refine LeO.bind ?_ (fun _ => ?_)
set_option maxHeartbeats 8000000 in
set_option maxRecDepth 100000 in
theorem variorumref06_Texts.calls (k : Nat) (A0 : Option Addr) (c0 : Nat) (l0 : List ByteArray) (A1 : Option Addr) (c1 : Nat) (l1 : List ByteArray) (r : Bool) (w : World) (hr0 : Kd.C Kd.string w A0 l0.length l0) (hc0 : l0.length ≤ c0) (hr1 : Kd.C Kd.string w A1 l1.length l1) (hc1 : l1.length ≤ c1) (h : variorumref06_Texts.f k l0 l1 = some r) :
  Calls Try.prog 14 #[.slice A0 l0.length c0, .slice A1 l1.length c1] w fun e w' => e = .returned (.bool r) ∧ Drawn0 w w' := by
 have HR0 := a_ hr0
 have HC0 := a_ hc0
 clear hr0 hc0
 have HR1 := a_ hr1
 have HC1 := a_ hc1
 clear hr1 hc1
 have H : (if (l0.length : Int) = (l1.length : Int) then (variorumref06_Texts.l0 k l0 l1 0) else (some false)) = some r := h
 clear h
 by_cases c3 : (l0.length : Int) = (l1.length : Int)
 ·rw [if_pos c3] at H
  have c3b0 : ((l0.length : Int) == (l1.length : Int)) = true := beq_iff_eq.mpr c3
  have c3b1 : ((l0.length : Int) != (l1.length : Int)) = false := bne_eq_false_iff_eq.mpr c3
  have c3b2 : (l0.length == l1.length) = true := by first | simpa using c3 | (simp at c3 ⊢; omega)
  clear c3
  have H' := a_ H
  clear H
  go_enter Try.func14, Try.ntmps14
  go_wp2
  repeat (go_quiet (fail); try go_wp2)
  go_loopg [5] k (fun kq v5 w' => ∃ (x5_1 : Int), v5 = .int .i64 x5_1 ∧ Aside0 (variorumref06_Texts.l0 kq l0 l1 x5_1 = some r) ∧ Aside0 (kq ≤ k) ∧ Drawn0 w w')
  case atStart => exact ⟨(0), (by first | rfl | (simp; done) | (simp [*]; done)), H', ⟨Nat.le_refl _⟩, by repeat (first | exact Drawn0.refl _ | apply Drawn0.step)⟩
  case round =>
   clear H'
   try clear c1
   try clear p2
   try clear c3
   try clear c3b0
   try clear c3b1
   try clear c3b2
   obtain ⟨x5_1, rfl, HA, HK1, ⟨m1, rfl⟩⟩ := hrel
   cases gk with
   | zero => exact absurd HA.out (by simp [variorumref06_Texts.l0])
   | succ k1 =>
    have H := HA.out
    clear HA
    simp only [variorumref06_Texts.l0] at H
    by_cases c4 : x5_1 < (l0.length : Int)
    ·rw [if_pos c4] at H
     have c4b0 : decide (x5_1 < (l0.length : Int)) = true := decide_eq_true c4
     clear c4
     by_cases c5 : 0 ≤ x5_1
     ·rw [if_pos c5] at H
      have c5b0 : decide (0 ≤ x5_1) = true := decide_eq_true c5
      clear c5
      by_cases c6 : x5_1 < (l1.length : Int)
      ·rw [if_pos c6] at H
       have c6b0 : decide (x5_1 < (l1.length : Int)) = true := decide_eq_true c6
       clear c6
       by_cases c7 : (rdOf ByteArray.empty l0 x5_1).toList = (rdOf ByteArray.empty l1 x5_1).toList
       ·rw [if_pos c7] at H
        have c7b0 : ((rdOf ByteArray.empty l0 x5_1).toList == (rdOf ByteArray.empty l1 x5_1).toList) = true := beq_iff_eq.mpr c7
        have c7b1 : ((rdOf ByteArray.empty l0 x5_1).toList != (rdOf ByteArray.empty l1 x5_1).toList) = false := bne_eq_false_iff_eq.mpr c7
        clear c7
        have H' := a_ H
        clear H
        have p162 : 0 ≤ (x5_1 : Int) := od_
        have q162 : x5_1 < (l0.length : Int) := od_
        obtain ⟨ad162, e162, hx162_0⟩ := Kd.at_string HR0.out x5_1 p162 q162
        cases e162
        replace p162 := eq_true p162
        replace q162 := eq_true q162
        have p163 : 0 ≤ (x5_1 : Int) := od_
        have q163 : x5_1 < (l1.length : Int) := od_
        obtain ⟨ad163, e163, hx163_0⟩ := Kd.at_string HR1.out x5_1 p163 q163
        cases e163
        replace p163 := eq_true p163
        replace q163 := eq_true q163
        go_wp2
        repeat (go_quiet (fail); try go_wp2)
        go_roundg k1
        case measure => have := HK1.out; omega
        case rel => exact ⟨(wrap64 (x5_1 + 1)), (by first | rfl | (simp; done) | (simp [*]; done)), H', ⟨by have := HK1.out; omega⟩, by repeat (first | exact Drawn0.refl _ | apply Drawn0.step)⟩
       ·rw [if_neg c7] at H
        have c7b0 : ((rdOf ByteArray.empty l0 x5_1).toList == (rdOf ByteArray.empty l1 x5_1).toList) = false := beq_eq_false_iff_ne.mpr c7
        have c7b1 : ((rdOf ByteArray.empty l0 x5_1).toList != (rdOf ByteArray.empty l1 x5_1).toList) = true := bne_iff_ne.mpr c7
        obtain rfl := Option.some.inj H
        have p162 : 0 ≤ (x5_1 : Int) := od_
        have q162 : x5_1 < (l0.length : Int) := od_
        obtain ⟨ad162, e162, hx162_0⟩ := Kd.at_string HR0.out x5_1 p162 q162
        cases e162
        replace p162 := eq_true p162
        replace q162 := eq_true q162
        have p163 : 0 ≤ (x5_1 : Int) := od_
        have q163 : x5_1 < (l1.length : Int) := od_
        obtain ⟨ad163, e163, hx163_0⟩ := Kd.at_string HR1.out x5_1 p163 q163
        cases e163
        replace p163 := eq_true p163
        replace q163 := eq_true q163
        go_wp2
        repeat (go_quiet (fail); try go_wp2)
        go_ret
        exact ⟨by first | rfl | (simp; done) | (simp [*]; done), by repeat (first | exact Drawn0.refl _ | apply Drawn0.step)⟩
      ·rw [if_neg c6] at H
       exact absurd H (by simp)
     ·rw [if_neg c5] at H
      exact absurd H (by simp)
    ·rw [if_neg c4] at H
     have c4b0 : decide (x5_1 < (l0.length : Int)) = false := decide_eq_false c4
     clear c4
     obtain rfl := Option.some.inj H
     go_wp2
     repeat (go_quiet (fail); try go_wp2)
     go_ret
     exact ⟨by first | rfl | (simp; done) | (simp [*]; done), by repeat (first | exact Drawn0.refl _ | apply Drawn0.step)⟩
 ·rw [if_neg c3] at H
  have c3b0 : ((l0.length : Int) == (l1.length : Int)) = false := beq_eq_false_iff_ne.mpr c3
  have c3b1 : ((l0.length : Int) != (l1.length : Int)) = true := bne_iff_ne.mpr c3
  have c3b2 : (l0.length == l1.length) = false := by first | simpa using c3 | (simp at c3 ⊢; omega)
  obtain rfl := Option.some.inj H
  go_enter Try.func14, Try.ntmps14
  go_wp2
  repeat (go_quiet (fail); try go_wp2)
  go_ret
  exact ⟨by first | rfl | (simp; done) | (simp [*]; done), by repeat (first | exact Drawn0.refl _ | apply Drawn0.step)⟩

/-! ### variorumlaw06_command: function 23 -/
def variorumlaw06_command.f (a0 : ByteArray) : Option (Int × ByteArray × Int) := some (1, a0, 0)
set_option maxHeartbeats 8000000 in
set_option maxRecDepth 100000 in
theorem variorumlaw06_command.calls (a0 : ByteArray) (r1 : Int) (r2 : ByteArray) (r3 : Int) (w : World) (h : variorumlaw06_command.f a0 = some (r1, r2, r3)) :
  Calls Try.prog 23 #[.string a0] w fun e w' => e = .returned (.agg #[.int .i64 r1, .string r2, .int .i64 r3]) ∧ Below w.heap.size w w' := by
 have hu44 := Try.underlying44
 have HB := a_ (Below.refl w.heap.size w)
 have H : (some (1, a0, 0)) = some (r1, r2, r3) := h
 clear h
 simp only [Option.some.injEq, Prod.mk.injEq] at H
 obtain ⟨rfl, rfl, rfl⟩ := H
 go_enter Try.func23, Try.ntmps23
 go_wp2_with (first | ((with_reducible refine gate_dst (N := 2) rfl ?_); refine box_event ?hg (N := 2) ?hd (cs := #[.int .i64 0, .string (⟨#[]⟩ : ByteArray), .int .i64 0]) (t := 44) ?hr ?_; (case hd => rfl); (case hg => rfl); (case hr => first | (go_simp; done) | (go_simp; rfl)); intro gb164 hg w2 hbox hb; have n0_ := a_ (bs_ HB.out hb); have n1_ := a_ (hbox); have n2_ := a_ ((by rw [hg]; exact (below_size (bv_ HB.out)) : w.heap.size ≤ gb164)); have n3_ := a_ ((by rw [hg]; exact (below_size (bv_ HB.out)) : w.heap.size ≤ gb164)); clear HB; have HB := n0_; have BK164 := n1_; have GW164 := n2_; have GE164 := n3_; clear n0_ n1_ n2_ n3_; clear hb hbox hg; obtain ⟨⟨Z3_0, Y3_0⟩, ⟨Z3_1, Y3_1⟩, Z3_2, Y3_2⟩ := cs3_ BK164.out))
 refine bodyPost_ret (results_cell_row rfl _ _ gb164 44 #[.int .i64 1, .string a0, .int .i64 0] (0, 0) _ rfl (kp0_ BK164.out) Try.underlying44 rfl (by kernel_rfl)) rfl ?_
 exact ⟨by first | rfl | (simp [errW_none, errW_some] <;> rfl) | (simp [*, errW_none, errW_some] <;> rfl), bS1_ HB.out GE164.out⟩

/-! ### variorumlaw06_word: function 24 -/
def variorumlaw06_word.f (a0 : ByteArray) : Option (Int × ByteArray × Int) := some (0, a0, 0)
set_option maxHeartbeats 8000000 in
set_option maxRecDepth 100000 in
theorem variorumlaw06_word.calls (a0 : ByteArray) (r1 : Int) (r2 : ByteArray) (r3 : Int) (w : World) (h : variorumlaw06_word.f a0 = some (r1, r2, r3)) :
  Calls Try.prog 24 #[.string a0] w fun e w' => e = .returned (.agg #[.int .i64 r1, .string r2, .int .i64 r3]) ∧ Below w.heap.size w w' := by
 have hu44 := Try.underlying44
 have HB := a_ (Below.refl w.heap.size w)
 have H : (some (0, a0, 0)) = some (r1, r2, r3) := h
 clear h
 simp only [Option.some.injEq, Prod.mk.injEq] at H
 obtain ⟨rfl, rfl, rfl⟩ := H
 go_enter Try.func24, Try.ntmps24
 go_wp2_with (first | ((with_reducible refine gate_dst (N := 2) rfl ?_); refine box_event ?hg (N := 2) ?hd (cs := #[.int .i64 0, .string (⟨#[]⟩ : ByteArray), .int .i64 0]) (t := 44) ?hr ?_; (case hd => rfl); (case hg => rfl); (case hr => first | (go_simp; done) | (go_simp; rfl)); intro gb165 hg w2 hbox hb; have n0_ := a_ (bs_ HB.out hb); have n1_ := a_ (hbox); have n2_ := a_ ((by rw [hg]; exact (below_size (bv_ HB.out)) : w.heap.size ≤ gb165)); have n3_ := a_ ((by rw [hg]; exact (below_size (bv_ HB.out)) : w.heap.size ≤ gb165)); clear HB; have HB := n0_; have BK165 := n1_; have GW165 := n2_; have GE165 := n3_; clear n0_ n1_ n2_ n3_; clear hb hbox hg; obtain ⟨⟨Z3_0, Y3_0⟩, ⟨Z3_1, Y3_1⟩, Z3_2, Y3_2⟩ := cs3_ BK165.out))
 refine bodyPost_ret (results_cell_row rfl _ _ gb165 44 #[.int .i64 0, .string a0, .int .i64 0] (0, 0) _ rfl (kp0_ BK165.out) Try.underlying44 rfl (by kernel_rfl)) rfl ?_
 exact ⟨by first | rfl | (simp [errW_none, errW_some] <;> rfl) | (simp [*, errW_none, errW_some] <;> rfl), bS1_ HB.out GE165.out⟩

end Go.Proofs.Ytjppjlhhdfkloaa.PTp

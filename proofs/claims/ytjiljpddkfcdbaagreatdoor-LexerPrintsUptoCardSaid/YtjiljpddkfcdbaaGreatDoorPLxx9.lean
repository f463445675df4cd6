/- Written by a program of this session: functions of the given program as plain Lean functions, the walks that show it, and the row of each law, for every input that its statement speaks of. -/
import Derived.Test.YtjiljpddkfcdbaaGreatDoorPLxx0
import Derived.Test.YtjiljpddkfcdbaaGreatDoorPLxx5
import Derived.Test.YtjiljpddkfcdbaaGreatDoorPLxx7
import Derived.Test.YtjiljpddkfcdbaaGreatDoorPLxx8
namespace Go.Proofs.YtjiljpddkfcdbaaGreatDoor.PLx
open Go.RowKit Go.Proofs.YtjiljpddkfcdbaaGreatDoorW.PrintWords Go.Proofs.YtjiljpddkfcdbaaGreatDoorW.PrintLast Go.Proofs.YtjiljpddkfcdbaaGreatDoorW.PrintMore
attribute [local go_sem] max2_int min2_int max_two min_two max_three min_three max_four min_four   -- for this text's walks alone
set_option linter.unusedVariables false
set_option linter.unusedSimpArgs false

/-! ### variorumref05_Escape: function 19 -/
mutual
def variorumref05_Escape.l0 : Nat → ByteArray → ByteArray → Int → Option (ByteArray)
 | 0, _, _, _ => none
 | k + 1, x0, x3, x4 => if x4 < (x0.size : Int) then (if (wrap64 (x4 + 1)) < (x0.size : Int) then (if 0 ≤ x4 then (if (bt x0 x4) = 194 then (if 0 ≤ (wrap64 (x4 + 1)) then (variorumref05_Escape.j1 k x0 x3 x4 ((bt x0 (wrap64 (x4 + 1))) == 173)) else (none)) else (variorumref05_Escape.j1 k x0 x3 x4 false)) else (none)) else (variorumref05_Escape.j1 k x0 x3 x4 false)) else (some x3)
def variorumref05_Escape.j1 : Nat → ByteArray → ByteArray → Int → Bool → Option (ByteArray)
 | 0, _, _, _, _ => none
 | k + 1, x0, x3, x4, x28 => if x28 = true then (if x3.size + 2 ≤ 9223372036854775807 then (variorumref05_Escape.l0 k x0 (x3 ++ (⟨#[92, 45]⟩ : ByteArray)) (wrap64 ((wrap64 (x4 + 1)) + 1))) else (none)) else (if 0 ≤ x4 then (if x4 < (x0.size : Int) then ((variorumref05_Special.f (bt x0 x4)).bind fun t222 => (if t222 = true then (if x3.size + 1 ≤ 9223372036854775807 then (if x4 ≤ (wrap64 (x4 + 1)) then (if (wrap64 (x4 + 1)) ≤ (x0.size : Int) then (if (x3 ++ (⟨#[92]⟩ : ByteArray)).size + (x0.extract (x4 : Int).toNat ((wrap64 (x4 + 1)) : Int).toNat).size ≤ 9223372036854775807 then (variorumref05_Escape.l0 k x0 ((x3 ++ (⟨#[92]⟩ : ByteArray)) ++ (x0.extract (x4 : Int).toNat ((wrap64 (x4 + 1)) : Int).toNat)) (wrap64 (x4 + 1))) else (none)) else (none)) else (none)) else (none)) else (if x4 ≤ (wrap64 (x4 + 1)) then (if (wrap64 (x4 + 1)) ≤ (x0.size : Int) then (if x3.size + (x0.extract (x4 : Int).toNat ((wrap64 (x4 + 1)) : Int).toNat).size ≤ 9223372036854775807 then (variorumref05_Escape.l0 k x0 (x3 ++ (x0.extract (x4 : Int).toNat ((wrap64 (x4 + 1)) : Int).toNat)) (wrap64 (x4 + 1))) else (none)) else (none)) else (none)))) else (none)) else (none))
end
def variorumref05_Escape.f (k : Nat) (a0 : ByteArray) : Option (ByteArray) := variorumref05_Escape.l0 k a0 (⟨#[]⟩ : ByteArray) 0
theorem variorumref05_Escape.mono_l : ∀ k, (∀ y0 y1 y2, LeO (variorumref05_Escape.l0 k y0 y1 y2) (variorumref05_Escape.l0 (k + 1) y0 y1 y2)) ∧ (∀ y0 y1 y2 y3, LeO (variorumref05_Escape.j1 k y0 y1 y2 y3) (variorumref05_Escape.j1 (k + 1) y0 y1 y2 y3))
 | 0 => ⟨fun _ _ _ r h => by simp [variorumref05_Escape.l0] at h, fun _ _ _ _ r h => by simp [variorumref05_Escape.j1] at h⟩
 | k + 1 => by
  obtain ⟨ih0, ih1⟩ := variorumref05_Escape.mono_l k
  refine ⟨?_, ?_⟩
  ·intro y0 y1 y2
   unfold variorumref05_Escape.l0
   repeat' first
   | (with_reducible exact ih0 _ _ _)
   | (with_reducible exact ih1 _ _ _ _)
   | (with_reducible exact LeO.refl _)
   | (with_reducible exact LeO.none _)
   | (with_reducible refine LeO.ite ?_ ?_)
   | (with_reducible refine LeO.bind ?_ (fun _ => ?_))
   | exact ih0 _ _ _
   | exact ih1 _ _ _ _
   | exact LeO.none _
   | refine LeO.ite ?_ ?_
   | refine LeO.bind ?_ (fun _ => ?_)
  ·intro y0 y1 y2 y3
   unfold variorumref05_Escape.j1
   repeat' first
   | (with_reducible exact ih0 _ _ _)
   | (with_reducible exact ih1 _ _ _ _)
   | (with_reducible exact LeO.refl _)
   | (with_reducible exact LeO.none _)
   | (with_reducible refine LeO.ite ?_ ?_)
   | (with_reducible refine LeO.bind ?_ (fun _ => ?_))
   | exact ih0 _ _ _
   | exact ih1 _ _ _ _
   | exact LeO.none _
   | refine LeO.ite ?_ ?_
   | refine LeO.bind ?_ (fun _ => ?_)
theorem variorumref05_Escape.mono : ∀ a0 k, LeO (variorumref05_Escape.f k a0) (variorumref05_Escape.f (k + 1) a0) := by
 intro a0 k
 obtain ⟨ih0, ih1⟩ := variorumref05_Escape.mono_l k
 unfold variorumref05_Escape.f
 repeat' first
   | (with_reducible exact ih0 _ _ _)
   | (with_reducible exact ih1 _ _ _ _)
   | (with_reducible exact LeO.refl _)
   | (with_reducible exact LeO.none _)
   | (with_reducible refine LeO.ite ?_ ?_)
   | (with_reducible refine LeO.bind ?_ (fun _ => ?_))
   | exact ih0 _ _ _
   | exact ih1 _ _ _ _
   | exact LeO.none _
   | refine LeO.ite ?_ ?_
   | refine LeO.bind ?_ (fun _ => ?_)
set_option maxHeartbeats 8000000 in
set_option maxRecDepth 100000 in
theorem variorumref05_Escape.calls (k : Nat) (a0 : ByteArray) (r : ByteArray) (w : World) (h : variorumref05_Escape.f k a0 = some r) :
  Calls Tryz.prog 19 #[.string a0] w fun e w' => e = .returned (.string r) ∧ Drawn0 w w' := by
 have H : (variorumref05_Escape.l0 k a0 (⟨#[]⟩ : ByteArray) 0) = some r := h
 clear h
 have H' := Aside0.mk H
 clear H
 go_enter Tryz.func19, Tryz.ntmps19
 go_wp2
 go_loopg [3, 4] k (fun kq v3 v4 w' => ∃ (x3_1 : ByteArray) (x4_1 : Int), v3 = .string x3_1 ∧ v4 = .int .i64 x4_1 ∧ Aside0 (variorumref05_Escape.l0 kq a0 x3_1 x4_1 = some r) ∧ Aside0 (kq ≤ k) ∧ Drawn0 w w')
 case atStart => exact ⟨((⟨#[]⟩ : ByteArray)), (0), (by first | rfl | (simp; done) | (simp [*]; done)), (by first | rfl | (simp; done) | (simp [*]; done)), H', ⟨Nat.le_refl _⟩, by repeat (first | exact Drawn0.refl _ | apply Drawn0.step)⟩
 case round =>
  clear H'
  try clear c1
  obtain ⟨x3_1, x4_1, rfl, rfl, HA, HK1, ⟨m1, rfl⟩⟩ := hrel
  cases gk with
  | zero => exact absurd HA.out (by simp [variorumref05_Escape.l0])
  | succ k1 =>
   have H := HA.out
   clear HA
   simp only [variorumref05_Escape.l0] at H
   by_cases c2 : x4_1 < (a0.size : Int)
   ·rw [if_pos c2] at H
    have c2b0 : decide (x4_1 < (a0.size : Int)) = true := decide_eq_true c2
    clear c2
    have HC3 := Aside0.mk H
    clear H
    go_upto_region 5 with (fail)
    go_cut [28] (fun v28 wc => ∃ (kq : Nat) (x28_2 : Bool), v28 = .bool x28_2 ∧ Aside0 (variorumref05_Escape.j1 kq a0 x3_1 x4_1 x28_2 = some r) ∧ Aside0 (kq ≤ k1) ∧ Drawn0 w wc)
    case first =>
     have H := HC3.out
     clear HC3
     by_cases c4 : (wrap64 (x4_1 + 1)) < (a0.size : Int)
     ·rw [if_pos c4] at H
      have c4b0 : decide ((wrap64 (x4_1 + 1)) < (a0.size : Int)) = true := decide_eq_true c4
      clear c4
      (first | rw [c4b0] | (simp only [i64_w, i32_w]; rw [c4b0]) | skip)
      by_cases c5 : 0 ≤ x4_1
      ·rw [if_pos c5] at H
       have c5b0 : decide (0 ≤ x4_1) = true := decide_eq_true c5
       clear c5
       by_cases c7 : (bt a0 x4_1) = 194
       ·rw [if_pos c7] at H
        have c7b0 : ((bt a0 x4_1) == 194) = true := beq_iff_eq.mpr c7
        have c7b1 : ((bt a0 x4_1) != 194) = false := bne_eq_false_iff_eq.mpr c7
        clear c7
        obtain ⟨ji8, hji8⟩ : ∃ j_ : Int, (wrap64 (x4_1 + 1)) = j_ := ⟨_, rfl⟩
        replace H : (if 0 ≤ (ji8) then (variorumref05_Escape.j1 k1 a0 x3_1 x4_1 ((bt a0 (ji8)) == 173)) else (none)) = some r := by first | (rw [hji8] at H; exact H) | (simp only [hji8] at H ⊢; exact H)
        (try rw [hji8] at c4b0)
        have hji8w : (IntKind.i64.wrap (x4_1 + 1)) = ji8 := (i64_w _).trans hji8
        by_cases c9 : 0 ≤ (ji8)
        ·rw [if_pos c9] at H
         have c9b0 : decide (0 ≤ (ji8)) = true := decide_eq_true c9
         clear c9
         have H' := Aside0.mk H
         clear H
         have p6 : 0 ≤ (x4_1 : Int) := of_decide_eq_true (by first | (with_reducible assumption) | assumption)
         have q6 : x4_1 < (a0.size : Int) := of_decide_eq_true (by first | (with_reducible assumption) | assumption)
         have hx6 := bt_at a0 x4_1
         replace p6 := eq_true p6
         replace q6 := eq_true q6
         have p10 : 0 ≤ ((ji8) : Int) := of_decide_eq_true (by first | (with_reducible assumption) | assumption)
         have q10 : (ji8) < (a0.size : Int) := of_decide_eq_true (by first | (with_reducible assumption) | assumption)
         have hx10 := bt_at a0 (ji8)
         replace p10 := eq_true p10
         replace q10 := eq_true q10
         go_wp2
         go_meet
         case rel => exact ⟨_, (((bt a0 (ji8)) == 173)), (by first | rfl | (simp; done) | (simp only [← hji8] <;> (first | rfl | simp)) | (simp [*]; done)), H', ⟨by have := HK1.out; first | omega | exact Nat.le_refl _⟩, by repeat (first | exact Drawn0.refl _ | apply Drawn0.step)⟩
        ·rw [if_neg c9] at H
         exact absurd H (by simp)
       ·rw [if_neg c7] at H
        have c7b0 : ((bt a0 x4_1) == 194) = false := beq_eq_false_iff_ne.mpr c7
        have c7b1 : ((bt a0 x4_1) != 194) = true := bne_iff_ne.mpr c7
        have H' := Aside0.mk H
        clear H
        have p6 : 0 ≤ (x4_1 : Int) := of_decide_eq_true (by first | (with_reducible assumption) | assumption)
        have q6 : x4_1 < (a0.size : Int) := of_decide_eq_true (by first | (with_reducible assumption) | assumption)
        have hx6 := bt_at a0 x4_1
        replace p6 := eq_true p6
        replace q6 := eq_true q6
        go_wp2
        go_meet
        case rel => exact ⟨_, (false), (by first | rfl | (simp; done) | (simp [*]; done)), H', ⟨by have := HK1.out; first | omega | exact Nat.le_refl _⟩, by repeat (first | exact Drawn0.refl _ | apply Drawn0.step)⟩
      ·rw [if_neg c5] at H
       exact absurd H (by simp)
     ·rw [if_neg c4] at H
      have c4b0 : decide ((wrap64 (x4_1 + 1)) < (a0.size : Int)) = false := decide_eq_false c4
      clear c4
      (first | rw [c4b0] | (simp only [i64_w, i32_w]; rw [c4b0]) | skip)
      have H' := Aside0.mk H
      clear H
      go_wp2
      go_meet
      case rel => exact ⟨_, (false), (by first | rfl | (simp; done) | (simp [*]; done)), H', ⟨by have := HK1.out; first | omega | exact Nat.le_refl _⟩, by repeat (first | exact Drawn0.refl _ | apply Drawn0.step)⟩
    case rest =>
     clear HC3
     try clear c1
     try clear p1
     try clear q1
     try clear hx1
     try clear c2
     try clear c2b0
     try clear p2
     try clear c4
     try clear c4b0
     try clear c5
     try clear c5b0
     try clear p6
     try clear q6
     try clear hx6
     try clear c7
     try clear c7b0
     try clear c7b1
     try clear c9
     try clear c9b0
     try clear p10
     try clear q10
     try clear hx10
     try clear p10
     try clear p6
     try clear q10
     try clear q6
     obtain ⟨kq, x28_2, rfl, HA, HJ2, ⟨mc2, rfl⟩⟩ := hcut
     cases kq with
     | zero => exact absurd HA.out (by simp [variorumref05_Escape.j1])
     | succ kj2 =>
      have H := HA.out
      clear HA
      simp only [variorumref05_Escape.j1] at H
      by_cases c11 : x28_2 = true
      ·subst c11
       have H1 : (if x3_1.size + 2 ≤ 9223372036854775807 then (variorumref05_Escape.l0 kj2 a0 (x3_1 ++ (⟨#[92, 45]⟩ : ByteArray)) (wrap64 ((wrap64 (x4_1 + 1)) + 1))) else (none)) = some r := by rw [if_pos rfl] at H; exact H
       clear H
       have H := H1
       clear H1
       by_cases c12 : x3_1.size + 2 ≤ 9223372036854775807
       ·rw [if_pos c12] at H
        have c12b0 := eq_true c12
        have c12b1 : decide (x3_1.size + 2 ≤ 9223372036854775807) = true := decide_eq_true c12
        try have c12b2 : (9223372036854775807 < x3_1.size + 2) = False := eq_false (Nat.not_lt.2 c12)
        have H' := Aside0.mk H
        clear H
        go_wp2
        go_roundg kj2
        case measure => have := HK1.out; have := HJ2.out; omega
        case rel => exact ⟨(x3_1 ++ (⟨#[92, 45]⟩ : ByteArray)), (wrap64 ((wrap64 (x4_1 + 1)) + 1)), (by first | rfl | (simp; done) | (simp [*]; done)), (by first | rfl | (simp; done) | (simp [*]; done)), H', ⟨by have := HK1.out; have := HJ2.out; omega⟩, by repeat (first | exact Drawn0.refl _ | apply Drawn0.step)⟩
       ·rw [if_neg c12] at H
        exact absurd H (by simp)
      ·replace c11 := Bool.eq_false_iff.mpr c11
       subst c11
       have H1 : (if 0 ≤ x4_1 then (if x4_1 < (a0.size : Int) then ((variorumref05_Special.f (bt a0 x4_1)).bind fun t222 => (if t222 = true then (if x3_1.size + 1 ≤ 9223372036854775807 then (if x4_1 ≤ (wrap64 (x4_1 + 1)) then (if (wrap64 (x4_1 + 1)) ≤ (a0.size : Int) then (if (x3_1 ++ (⟨#[92]⟩ : ByteArray)).size + (a0.extract (x4_1 : Int).toNat ((wrap64 (x4_1 + 1)) : Int).toNat).size ≤ 9223372036854775807 then (variorumref05_Escape.l0 kj2 a0 ((x3_1 ++ (⟨#[92]⟩ : ByteArray)) ++ (a0.extract (x4_1 : Int).toNat ((wrap64 (x4_1 + 1)) : Int).toNat)) (wrap64 (x4_1 + 1))) else (none)) else (none)) else (none)) else (none)) else (if x4_1 ≤ (wrap64 (x4_1 + 1)) then (if (wrap64 (x4_1 + 1)) ≤ (a0.size : Int) then (if x3_1.size + (a0.extract (x4_1 : Int).toNat ((wrap64 (x4_1 + 1)) : Int).toNat).size ≤ 9223372036854775807 then (variorumref05_Escape.l0 kj2 a0 (x3_1 ++ (a0.extract (x4_1 : Int).toNat ((wrap64 (x4_1 + 1)) : Int).toNat)) (wrap64 (x4_1 + 1))) else (none)) else (none)) else (none)))) else (none)) else (none)) = some r := by rw [if_neg (show ¬ (false = true) by decide)] at H; exact H
       clear H
       have H := H1
       clear H1
       by_cases c13 : 0 ≤ x4_1
       ·rw [if_pos c13] at H
        have c13b0 : decide (0 ≤ x4_1) = true := decide_eq_true c13
        clear c13
        by_cases c14 : x4_1 < (a0.size : Int)
        ·rw [if_pos c14] at H
         have c14b0 : decide (x4_1 < (a0.size : Int)) = true := decide_eq_true c14
         clear c14
         replace H := Option.bind_eq_some_iff.mp H
         obtain ⟨t222, A160, H⟩ := H
         replace H : (if t222 = true then (if x3_1.size + 1 ≤ 9223372036854775807 then (if x4_1 ≤ (wrap64 (x4_1 + 1)) then (if (wrap64 (x4_1 + 1)) ≤ (a0.size : Int) then (if (x3_1 ++ (⟨#[92]⟩ : ByteArray)).size + (a0.extract (x4_1 : Int).toNat ((wrap64 (x4_1 + 1)) : Int).toNat).size ≤ 9223372036854775807 then (variorumref05_Escape.l0 kj2 a0 ((x3_1 ++ (⟨#[92]⟩ : ByteArray)) ++ (a0.extract (x4_1 : Int).toNat ((wrap64 (x4_1 + 1)) : Int).toNat)) (wrap64 (x4_1 + 1))) else (none)) else (none)) else (none)) else (none)) else (if x4_1 ≤ (wrap64 (x4_1 + 1)) then (if (wrap64 (x4_1 + 1)) ≤ (a0.size : Int) then (if x3_1.size + (a0.extract (x4_1 : Int).toNat ((wrap64 (x4_1 + 1)) : Int).toNat).size ≤ 9223372036854775807 then (variorumref05_Escape.l0 kj2 a0 (x3_1 ++ (a0.extract (x4_1 : Int).toNat ((wrap64 (x4_1 + 1)) : Int).toNat)) (wrap64 (x4_1 + 1))) else (none)) else (none)) else (none))) = some r := H
         have A16 := Aside0.mk A160
         clear A160
         by_cases c17 : t222 = true
         ·subst c17
          have H1 : (if x3_1.size + 1 ≤ 9223372036854775807 then (if x4_1 ≤ (wrap64 (x4_1 + 1)) then (if (wrap64 (x4_1 + 1)) ≤ (a0.size : Int) then (if (x3_1 ++ (⟨#[92]⟩ : ByteArray)).size + (a0.extract (x4_1 : Int).toNat ((wrap64 (x4_1 + 1)) : Int).toNat).size ≤ 9223372036854775807 then (variorumref05_Escape.l0 kj2 a0 ((x3_1 ++ (⟨#[92]⟩ : ByteArray)) ++ (a0.extract (x4_1 : Int).toNat ((wrap64 (x4_1 + 1)) : Int).toNat)) (wrap64 (x4_1 + 1))) else (none)) else (none)) else (none)) else (none)) = some r := by rw [if_pos rfl] at H; exact H
          clear H
          have H := H1
          clear H1
          by_cases c18 : x3_1.size + 1 ≤ 9223372036854775807
          ·rw [if_pos c18] at H
           have c18b0 := eq_true c18
           have c18b1 : decide (x3_1.size + 1 ≤ 9223372036854775807) = true := decide_eq_true c18
           try have c18b2 : (9223372036854775807 < x3_1.size + 1) = False := eq_false (Nat.not_lt.2 c18)
           have c19b0 := eq_true (of_decide_eq_true (by first | (with_reducible assumption) | assumption) : 0 ≤ x4_1)
           by_cases c20 : x4_1 ≤ (wrap64 (x4_1 + 1))
           ·rw [if_pos c20] at H
            have c20b0 := eq_true c20
            have c20b1 : decide (x4_1 ≤ (wrap64 (x4_1 + 1))) = true := decide_eq_true c20
            by_cases c21 : (wrap64 (x4_1 + 1)) ≤ (a0.size : Int)
            ·rw [if_pos c21] at H
             have c21b0 := eq_true c21
             have c21b1 : decide ((wrap64 (x4_1 + 1)) ≤ (a0.size : Int)) = true := decide_eq_true c21
             by_cases c22 : (x3_1 ++ (⟨#[92]⟩ : ByteArray)).size + (a0.extract (x4_1 : Int).toNat ((wrap64 (x4_1 + 1)) : Int).toNat).size ≤ 9223372036854775807
             ·rw [if_pos c22] at H
              have c22b0 := eq_true c22
              have c22b1 : decide ((x3_1 ++ (⟨#[92]⟩ : ByteArray)).size + (a0.extract (x4_1 : Int).toNat ((wrap64 (x4_1 + 1)) : Int).toNat).size ≤ 9223372036854775807) = true := decide_eq_true c22
              try have c22b2 : (9223372036854775807 < (x3_1 ++ (⟨#[92]⟩ : ByteArray)).size + (a0.extract (x4_1 : Int).toNat ((wrap64 (x4_1 + 1)) : Int).toNat).size) = False := eq_false (Nat.not_lt.2 c22)
              have H' := Aside0.mk H
              clear H
              have p15 : 0 ≤ (x4_1 : Int) := of_decide_eq_true (by first | (with_reducible assumption) | assumption)
              have q15 : x4_1 < (a0.size : Int) := of_decide_eq_true (by first | (with_reducible assumption) | assumption)
              have hx15 := bt_at a0 x4_1
              replace p15 := eq_true p15
              replace q15 := eq_true q15
              go_wp2_with (first | ((with_reducible refine gate_callee (f := 39) rfl ?_); refine goesL_ (some 36) rfl rfl Tryz.func39 (by kernel_rfl) rfl #[.int .u8 (bt a0 x4_1)] rfl (by (try simp only [List.map_toArray, List.map_cons, List.map_nil]); first | done | rfl | (simp only [List.length_drop, List.length_take]; rfl) | (simp only [*]; first | done | rfl)) ?_; (with_reducible refine (variorumref05_Special.calls (bt a0 x4_1) true _ A16.out).mono ?_); rintro e w' ⟨rfl, ⟨nd, rfl⟩⟩; refine ⟨_, rfl, ?_⟩))
              go_roundg kj2
              case measure => have := HK1.out; have := HJ2.out; omega
              case rel => exact ⟨((x3_1 ++ (⟨#[92]⟩ : ByteArray)) ++ (a0.extract (x4_1 : Int).toNat ((wrap64 (x4_1 + 1)) : Int).toNat)), (wrap64 (x4_1 + 1)), (by first | rfl | (simp; done) | (simp [*]; done)), (by first | rfl | (simp; done) | (simp [*]; done)), H', ⟨by have := HK1.out; have := HJ2.out; omega⟩, by repeat (first | exact Drawn0.refl _ | apply Drawn0.step)⟩
             ·rw [if_neg c22] at H
              exact absurd H (by simp)
            ·rw [if_neg c21] at H
             exact absurd H (by simp)
           ·rw [if_neg c20] at H
            exact absurd H (by simp)
          ·rw [if_neg c18] at H
           exact absurd H (by simp)
         ·replace c17 := Bool.eq_false_iff.mpr c17
          subst c17
          have H1 : (if x4_1 ≤ (wrap64 (x4_1 + 1)) then (if (wrap64 (x4_1 + 1)) ≤ (a0.size : Int) then (if x3_1.size + (a0.extract (x4_1 : Int).toNat ((wrap64 (x4_1 + 1)) : Int).toNat).size ≤ 9223372036854775807 then (variorumref05_Escape.l0 kj2 a0 (x3_1 ++ (a0.extract (x4_1 : Int).toNat ((wrap64 (x4_1 + 1)) : Int).toNat)) (wrap64 (x4_1 + 1))) else (none)) else (none)) else (none)) = some r := by rw [if_neg (show ¬ (false = true) by decide)] at H; exact H
          clear H
          have H := H1
          clear H1
          have c23b0 := eq_true (of_decide_eq_true (by first | (with_reducible assumption) | assumption) : 0 ≤ x4_1)
          by_cases c24 : x4_1 ≤ (wrap64 (x4_1 + 1))
          ·rw [if_pos c24] at H
           have c24b0 := eq_true c24
           have c24b1 : decide (x4_1 ≤ (wrap64 (x4_1 + 1))) = true := decide_eq_true c24
           by_cases c25 : (wrap64 (x4_1 + 1)) ≤ (a0.size : Int)
           ·rw [if_pos c25] at H
            have c25b0 := eq_true c25
            have c25b1 : decide ((wrap64 (x4_1 + 1)) ≤ (a0.size : Int)) = true := decide_eq_true c25
            by_cases c26 : x3_1.size + (a0.extract (x4_1 : Int).toNat ((wrap64 (x4_1 + 1)) : Int).toNat).size ≤ 9223372036854775807
            ·rw [if_pos c26] at H
             have c26b0 := eq_true c26
             have c26b1 : decide (x3_1.size + (a0.extract (x4_1 : Int).toNat ((wrap64 (x4_1 + 1)) : Int).toNat).size ≤ 9223372036854775807) = true := decide_eq_true c26
             try have c26b2 : (9223372036854775807 < x3_1.size + (a0.extract (x4_1 : Int).toNat ((wrap64 (x4_1 + 1)) : Int).toNat).size) = False := eq_false (Nat.not_lt.2 c26)
             have H' := Aside0.mk H
             clear H
             have p15 : 0 ≤ (x4_1 : Int) := of_decide_eq_true (by first | (with_reducible assumption) | assumption)
             have q15 : x4_1 < (a0.size : Int) := of_decide_eq_true (by first | (with_reducible assumption) | assumption)
             have hx15 := bt_at a0 x4_1
             replace p15 := eq_true p15
             replace q15 := eq_true q15
             go_wp2_with (first | ((with_reducible refine gate_callee (f := 39) rfl ?_); refine goesL_ (some 36) rfl rfl Tryz.func39 (by kernel_rfl) rfl #[.int .u8 (bt a0 x4_1)] rfl (by (try simp only [List.map_toArray, List.map_cons, List.map_nil]); first | done | rfl | (simp only [List.length_drop, List.length_take]; rfl) | (simp only [*]; first | done | rfl)) ?_; (with_reducible refine (variorumref05_Special.calls (bt a0 x4_1) false _ A16.out).mono ?_); rintro e w' ⟨rfl, ⟨nd, rfl⟩⟩; refine ⟨_, rfl, ?_⟩))
             go_roundg kj2
             case measure => have := HK1.out; have := HJ2.out; omega
             case rel => exact ⟨(x3_1 ++ (a0.extract (x4_1 : Int).toNat ((wrap64 (x4_1 + 1)) : Int).toNat)), (wrap64 (x4_1 + 1)), (by first | rfl | (simp; done) | (simp [*]; done)), (by first | rfl | (simp; done) | (simp [*]; done)), H', ⟨by have := HK1.out; have := HJ2.out; omega⟩, by repeat (first | exact Drawn0.refl _ | apply Drawn0.step)⟩
            ·rw [if_neg c26] at H
             exact absurd H (by simp)
           ·rw [if_neg c25] at H
            exact absurd H (by simp)
          ·rw [if_neg c24] at H
           exact absurd H (by simp)
        ·rw [if_neg c14] at H
         exact absurd H (by simp)
       ·rw [if_neg c13] at H
        exact absurd H (by simp)
   ·rw [if_neg c2] at H
    have c2b0 : decide (x4_1 < (a0.size : Int)) = false := decide_eq_false c2
    clear c2
    obtain rfl := Option.some.inj H
    go_wp2
    go_ret
    exact ⟨by first | rfl | (simp; done) | (simp [*]; done), by repeat (first | exact Drawn0.refl _ | apply Drawn0.step)⟩

/-! ### variorumref05_Print: function 17 -/
mutual
def variorumref05_Print.l0 : Nat → List (S38) → ByteArray → Int → Option (ByteArray)
 | 0, _, _, _ => none
 | k + 1, x0, x3, x4 => if x4 < (x0.length : Int) then (if x4 > 0 then (if x3.size + 1 ≤ 9223372036854775807 then (variorumref05_Print.j1 k x0 (x3 ++ (⟨#[32]⟩ : ByteArray)) x4) else (none)) else (variorumref05_Print.j1 k x0 x3 x4)) else (some x3)
def variorumref05_Print.j1 : Nat → List (S38) → ByteArray → Int → Option (ByteArray)
 | 0, _, _, _ => none
 | k + 1, x0, x3, x4 => if 0 ≤ x4 then (if x4 < (x0.length : Int) then (if ((rd_T38 x0 x4).f0) = 0 then ((variorumref05_Escape.f k ((rd_T38 x0 x4).f1)).bind fun t226 => (if x3.size + t226.size ≤ 9223372036854775807 then (variorumref05_Print.l0 k x0 (x3 ++ t226) (wrap64 (x4 + 1))) else (none))) else (if ((rd_T38 x0 x4).f0) = 1 then (if 1 + ((rd_T38 x0 x4).f1).size ≤ 9223372036854775807 then (if x3.size + ((⟨#[92]⟩ : ByteArray) ++ ((rd_T38 x0 x4).f1)).size ≤ 9223372036854775807 then (variorumref05_Print.l0 k x0 (x3 ++ ((⟨#[92]⟩ : ByteArray) ++ ((rd_T38 x0 x4).f1))) (wrap64 (x4 + 1))) else (none)) else (none)) else (if ((rd_T38 x0 x4).f0) = 2 then (if x3.size + 1 ≤ 9223372036854775807 then (variorumref05_Print.l0 k x0 (x3 ++ (⟨#[123]⟩ : ByteArray)) (wrap64 (x4 + 1))) else (none)) else (if ((rd_T38 x0 x4).f0) = 3 then (if x3.size + 1 ≤ 9223372036854775807 then (variorumref05_Print.l0 k x0 (x3 ++ (⟨#[125]⟩ : ByteArray)) (wrap64 (x4 + 1))) else (none)) else (variorumref05_Print.l0 k x0 x3 (wrap64 (x4 + 1))))))) else (none)) else (none)
end
def variorumref05_Print.f (k : Nat) (l0 : List (S38)) : Option (ByteArray) := (variorumref05_May.f k l0).bind fun t223 => (if t223 = true then (variorumref05_Print.l0 k l0 (⟨#[]⟩ : ByteArray) 0) else (some (⟨#[]⟩ : ByteArray)))
theorem variorumref05_Print.mono_l : ∀ k, (∀ y0 y1 y2, LeO (variorumref05_Print.l0 k y0 y1 y2) (variorumref05_Print.l0 (k + 1) y0 y1 y2)) ∧ (∀ y0 y1 y2, LeO (variorumref05_Print.j1 k y0 y1 y2) (variorumref05_Print.j1 (k + 1) y0 y1 y2))
 | 0 => ⟨fun _ _ _ r h => by simp [variorumref05_Print.l0] at h, fun _ _ _ r h => by simp [variorumref05_Print.j1] at h⟩
 | k + 1 => by
  obtain ⟨ih0, ih1⟩ := variorumref05_Print.mono_l k
  refine ⟨?_, ?_⟩
  ·intro y0 y1 y2
   unfold variorumref05_Print.l0
   repeat' first
   | (with_reducible exact ih0 _ _ _)
   | (with_reducible exact ih1 _ _ _)
   | (with_reducible exact variorumref05_Escape.mono _ _)
   | (with_reducible exact variorumref05_May.mono _ _)
   | (with_reducible exact LeO.refl _)
   | (with_reducible exact LeO.none _)
   | (with_reducible refine LeO.ite ?_ ?_)
   | (with_reducible refine LeO.bind ?_ (fun _ => ?_))
   | exact ih0 _ _ _
   | exact ih1 _ _ _
   | exact variorumref05_Escape.mono _ _
   | exact variorumref05_May.mono _ _
   | exact LeO.none _
   | refine LeO.ite ?_ ?_
   | refine LeO.bind ?_ (fun _ => ?_)
  ·intro y0 y1 y2
   unfold variorumref05_Print.j1
   repeat' first
   | (with_reducible exact ih0 _ _ _)
   | (with_reducible exact ih1 _ _ _)
   | (with_reducible exact variorumref05_Escape.mono _ _)
   | (with_reducible exact variorumref05_May.mono _ _)
   | (with_reducible exact LeO.refl _)
   | (with_reducible exact LeO.none _)
   | (with_reducible refine LeO.ite ?_ ?_)
   | (with_reducible refine LeO.bind ?_ (fun _ => ?_))
   | exact ih0 _ _ _
   | exact ih1 _ _ _
   | exact variorumref05_Escape.mono _ _
   | exact variorumref05_May.mono _ _
   | exact LeO.none _
   | refine LeO.ite ?_ ?_
   | refine LeO.bind ?_ (fun _ => ?_)
theorem variorumref05_Print.mono : ∀ a0 k, LeO (variorumref05_Print.f k a0) (variorumref05_Print.f (k + 1) a0) := by
 intro a0 k
 obtain ⟨ih0, ih1⟩ := variorumref05_Print.mono_l k
 unfold variorumref05_Print.f
 repeat' first
   | (with_reducible exact ih0 _ _ _)
   | (with_reducible exact ih1 _ _ _)
   | (with_reducible exact variorumref05_Escape.mono _ _)
   | (with_reducible exact variorumref05_May.mono _ _)
   | (with_reducible exact LeO.refl _)
   | (with_reducible exact LeO.none _)
   | (with_reducible refine LeO.ite ?_ ?_)
   | (with_reducible refine LeO.bind ?_ (fun _ => ?_))
   | exact ih0 _ _ _
   | exact ih1 _ _ _
   | exact variorumref05_Escape.mono _ _
   | exact variorumref05_May.mono _ _
   | exact LeO.none _
   | refine LeO.ite ?_ ?_
   | refine LeO.bind ?_ (fun _ => ?_)
set_option maxHeartbeats 8000000 in
set_option maxRecDepth 100000 in
theorem variorumref05_Print.calls (k : Nat) (A0 : Option Addr) (c0 : Nat) (l0 : List (S38)) (r : ByteArray) (w : World) (hr0 : Kd.C k38 w A0 l0.length l0) (hc0 : l0.length ≤ c0) (h : variorumref05_Print.f k l0 = some r) :
  Calls Tryz.prog 17 #[.slice A0 l0.length c0] w fun e w' => e = .returned (.string r) ∧ Below w.heap.size w w' := by
 have HR0 := Aside0.mk hr0
 have HC0 := Aside0.mk hc0
 clear hr0 hc0
 have HB := Aside0.mk (Below.refl w.heap.size w)
 have H : ((variorumref05_May.f k l0).bind fun t223 => (if t223 = true then (variorumref05_Print.l0 k l0 (⟨#[]⟩ : ByteArray) 0) else (some (⟨#[]⟩ : ByteArray)))) = some r := h
 clear h
 replace H := Option.bind_eq_some_iff.mp H
 obtain ⟨t223, A20, H⟩ := H
 replace H : (if t223 = true then (variorumref05_Print.l0 k l0 (⟨#[]⟩ : ByteArray) 0) else (some (⟨#[]⟩ : ByteArray))) = some r := H
 have A2 := Aside0.mk A20
 clear A20
 by_cases c3 : t223 = true
 ·subst c3
  have H1 : (variorumref05_Print.l0 k l0 (⟨#[]⟩ : ByteArray) 0) = some r := by rw [if_pos rfl] at H; exact H
  clear H
  have H := H1
  clear H1
  have H' := Aside0.mk H
  clear H
  go_enter Tryz.func17, Tryz.ntmps17
  go_wp2_with (first | ((with_reducible refine gate_callee (f := 15) rfl ?_); refine goesL_ (some 6) rfl rfl Tryz.func15 (by kernel_rfl) rfl #[.slice A0 l0.length c0] rfl (by (try simp only [List.map_toArray, List.map_cons, List.map_nil]); first | done | rfl | (simp only [List.length_drop, List.length_take]; rfl) | (simp only [*]; first | done | rfl)) ?_; (with_reducible refine (variorumref05_May.calls k _ _ l0 true _ ?side1 ?side2 A2.out).mono ?_); (case side1 => repeat (first | exact HR0.out | (with_reducible refine Kd.C_alloc ?_ _) | (with_reducible refine Kd.C_drewN ?_ _) | (with_reducible refine Kd.C_drew ?_))); (case side2 => exact HC0.out); rintro e w4 ⟨rfl, hb⟩; refine ⟨_, rfl, ?_⟩; have n0_ := Aside0.mk (below_step (by repeat (first | (with_reducible first | exact HB.out | apply below_alloc | apply pw_below_drewN | apply below_drew1) | exact HB.out)) hb); clear HB; have HB := n0_; clear n0_; (try clear hb); (try clear hb2); (try clear hk); (try clear hi)))
  go_loopg [3, 4] k (fun kq v3 v4 w' => ∃ (x3_1 : ByteArray) (x4_1 : Int), v3 = .string x3_1 ∧ v4 = .int .i64 x4_1 ∧ Aside0 (variorumref05_Print.l0 kq l0 x3_1 x4_1 = some r) ∧ Aside0 (kq ≤ k) ∧ Aside0 (Below w.heap.size w w'))
  case atStart => exact ⟨((⟨#[]⟩ : ByteArray)), (0), (by first | rfl | (simp; done) | (simp [*]; done)), (by first | rfl | (simp; done) | (simp [*]; done)), H', ⟨Nat.le_refl _⟩, ⟨by repeat (first | (with_reducible first | exact HB.out | apply below_alloc | apply pw_below_drewN | apply below_drew1) | exact HB.out)⟩⟩
  case round =>
   clear H'
   try clear c1
   try clear p2
   try clear c3
   obtain ⟨x3_1, x4_1, rfl, rfl, HA, HK1, HB⟩ := hrel
   cases gk with
   | zero => exact absurd HA.out (by simp [variorumref05_Print.l0])
   | succ k1 =>
    have H := HA.out
    clear HA
    simp only [variorumref05_Print.l0] at H
    by_cases c5 : x4_1 < (l0.length : Int)
    ·rw [if_pos c5] at H
     have c5b0 : decide (x4_1 < (l0.length : Int)) = true := decide_eq_true c5
     clear c5
     have HC6 := Aside0.mk H
     clear H
     go_upto_if 15 with (fail)
     go_cut [3] (fun v3 wc => ∃ (kq : Nat) (x3_5 : ByteArray), v3 = .string x3_5 ∧ Aside0 (variorumref05_Print.j1 kq l0 x3_5 x4_1 = some r) ∧ Aside0 (kq ≤ k1) ∧ Aside0 (Below w.heap.size w wc))
     case first =>
      have H := HC6.out
      clear HC6
      by_cases c7 : x4_1 > 0
      ·rw [if_pos c7] at H
       have c7b0 : decide (0 < x4_1) = true := decide_eq_true c7
       clear c7
       (first | rw [c7b0] | (simp only [i64_w, i32_w]; rw [c7b0]) | skip)
       by_cases c8 : x3_1.size + 1 ≤ 9223372036854775807
       ·rw [if_pos c8] at H
        have c8b0 := eq_true c8
        have c8b1 : decide (x3_1.size + 1 ≤ 9223372036854775807) = true := decide_eq_true c8
        try have c8b2 : (9223372036854775807 < x3_1.size + 1) = False := eq_false (Nat.not_lt.2 c8)
        have H' := Aside0.mk H
        clear H
        go_wp2
        go_meet
        case rel => exact ⟨_, (x3_1 ++ (⟨#[32]⟩ : ByteArray)), (by first | rfl | (simp; done) | (simp [*]; done)), H', ⟨by have := HK1.out; first | omega | exact Nat.le_refl _⟩, ⟨by repeat (first | (with_reducible first | exact HB.out | apply below_alloc | apply pw_below_drewN | apply below_drew1) | exact HB.out)⟩⟩
       ·rw [if_neg c8] at H
        exact absurd H (by simp)
      ·rw [if_neg c7] at H
       have c7b0 : decide (0 < x4_1) = false := decide_eq_false c7
       clear c7
       (first | rw [c7b0] | (simp only [i64_w, i32_w]; rw [c7b0]) | skip)
       have H' := Aside0.mk H
       clear H
       go_wp2
       go_meet
       case rel => exact ⟨_, (x3_1), (by first | rfl | (simp; done) | (simp [*]; done)), H', ⟨by have := HK1.out; first | omega | exact Nat.le_refl _⟩, ⟨by repeat (first | (with_reducible first | exact HB.out | apply below_alloc | apply pw_below_drewN | apply below_drew1) | exact HB.out)⟩⟩
     case rest =>
      clear HC6
      try clear c1
      try clear p2
      try clear c3
      try clear c5
      try clear c5b0
      try clear c7
      try clear c7b0
      try clear c8
      try clear c8b0
      try clear c8b1
      try clear c8b2
      try clear p2
      obtain ⟨kq, x3_5, rfl, HA, HJ5, HB⟩ := hcut
      cases kq with
      | zero => exact absurd HA.out (by simp [variorumref05_Print.j1])
      | succ kj5 =>
       have H := HA.out
       clear HA
       simp only [variorumref05_Print.j1] at H
       by_cases c9 : 0 ≤ x4_1
       ·rw [if_pos c9] at H
        have c9b0 : decide (0 ≤ x4_1) = true := decide_eq_true c9
        clear c9
        by_cases c10 : x4_1 < (l0.length : Int)
        ·rw [if_pos c10] at H
         have c10b0 : decide (x4_1 < (l0.length : Int)) = true := decide_eq_true c10
         clear c10
         by_cases c11 : ((rd_T38 l0 x4_1).f0) = 0
         ·rw [if_pos c11] at H
          have c11b0 : (((rd_T38 l0 x4_1).f0) == 0) = true := beq_iff_eq.mpr c11
          have c11b1 : (((rd_T38 l0 x4_1).f0) != 0) = false := bne_eq_false_iff_eq.mpr c11
          clear c11
          replace H := Option.bind_eq_some_iff.mp H
          obtain ⟨t226, A120, H⟩ := H
          replace H : (if x3_5.size + t226.size ≤ 9223372036854775807 then (variorumref05_Print.l0 kj5 l0 (x3_5 ++ t226) (wrap64 (x4_1 + 1))) else (none)) = some r := H
          have A12 := Aside0.mk A120
          clear A120
          by_cases c13 : x3_5.size + t226.size ≤ 9223372036854775807
          ·rw [if_pos c13] at H
           have c13b0 := eq_true c13
           have c13b1 : decide (x3_5.size + t226.size ≤ 9223372036854775807) = true := decide_eq_true c13
           try have c13b2 : (9223372036854775807 < x3_5.size + t226.size) = False := eq_false (Nat.not_lt.2 c13)
           have H' := Aside0.mk H
           clear H
           have p224 : 0 ≤ (x4_1 : Int) := of_decide_eq_true (by first | (with_reducible assumption) | assumption)
           have q224 : x4_1 < (l0.length : Int) := of_decide_eq_true (by first | (with_reducible assumption) | assumption)
           obtain ⟨ad224, e224, hx224_0, hx224_1, hx224_2⟩ := at_T38 HR0.out x4_1 p224 q224
           cases e224
           replace hx224_0 := (HB.out.cell (World.block_lt_of_cell? w _ hx224_0)).trans hx224_0
           replace hx224_1 := (HB.out.cell (World.block_lt_of_cell? w _ hx224_1)).trans hx224_1
           replace hx224_2 := (HB.out.cell (World.block_lt_of_cell? w _ hx224_2)).trans hx224_2
           replace p224 := eq_true p224
           replace q224 := eq_true q224
           have p225 : 0 ≤ (x4_1 : Int) := of_decide_eq_true (by first | (with_reducible assumption) | assumption)
           have q225 : x4_1 < (l0.length : Int) := of_decide_eq_true (by first | (with_reducible assumption) | assumption)
           obtain ⟨ad225, e225, hx225_0, hx225_1, hx225_2⟩ := at_T38 HR0.out x4_1 p225 q225
           obtain rfl : ad224 = ad225 := (by injection e225)
           replace hx225_0 := (HB.out.cell (World.block_lt_of_cell? w _ hx225_0)).trans hx225_0
           replace hx225_1 := (HB.out.cell (World.block_lt_of_cell? w _ hx225_1)).trans hx225_1
           replace hx225_2 := (HB.out.cell (World.block_lt_of_cell? w _ hx225_2)).trans hx225_2
           replace p225 := eq_true p225
           replace q225 := eq_true q225
           go_wp2_with (first | ((with_reducible refine gate_callee (f := 19) rfl ?_); refine goesL_ (some 31) rfl rfl Tryz.func19 (by kernel_rfl) rfl #[.string ((rd_T38 l0 x4_1).f1)] rfl (by (try simp only [List.map_toArray, List.map_cons, List.map_nil]); first | done | rfl | (simp only [List.length_drop, List.length_take]; rfl) | (simp only [*]; first | done | rfl)) ?_; (with_reducible refine (variorumref05_Escape.calls kj5 ((rd_T38 l0 x4_1).f1) t226 _ A12.out).mono ?_); rintro e w' ⟨rfl, ⟨nd, rfl⟩⟩; refine ⟨_, rfl, ?_⟩))
           go_roundg kj5
           case measure => have := HK1.out; have := HJ5.out; omega
           case rel => exact ⟨(x3_5 ++ t226), (wrap64 (x4_1 + 1)), (by first | rfl | (simp; done) | (simp [*]; done)), (by first | rfl | (simp; done) | (simp [*]; done)), H', ⟨by have := HK1.out; have := HJ5.out; omega⟩, ⟨by repeat (first | (with_reducible first | exact HB.out | apply below_alloc | apply pw_below_drewN | apply below_drew1) | exact HB.out)⟩⟩
          ·rw [if_neg c13] at H
           exact absurd H (by simp)
         ·rw [if_neg c11] at H
          have c11b0 : (((rd_T38 l0 x4_1).f0) == 0) = false := beq_eq_false_iff_ne.mpr c11
          have c11b1 : (((rd_T38 l0 x4_1).f0) != 0) = true := bne_iff_ne.mpr c11
          by_cases c14 : ((rd_T38 l0 x4_1).f0) = 1
          ·rw [if_pos c14] at H
           have c14b0 : (((rd_T38 l0 x4_1).f0) == 1) = true := beq_iff_eq.mpr c14
           have c14b1 : (((rd_T38 l0 x4_1).f0) != 1) = false := bne_eq_false_iff_eq.mpr c14
           clear c14
           by_cases c15 : 1 + ((rd_T38 l0 x4_1).f1).size ≤ 9223372036854775807
           ·rw [if_pos c15] at H
            have c15b0 := eq_true c15
            have c15b1 : decide (1 + ((rd_T38 l0 x4_1).f1).size ≤ 9223372036854775807) = true := decide_eq_true c15
            try have c15b2 : (9223372036854775807 < 1 + ((rd_T38 l0 x4_1).f1).size) = False := eq_false (Nat.not_lt.2 c15)
            by_cases c16 : x3_5.size + ((⟨#[92]⟩ : ByteArray) ++ ((rd_T38 l0 x4_1).f1)).size ≤ 9223372036854775807
            ·rw [if_pos c16] at H
             have c16b0 := eq_true c16
             have c16b1 : decide (x3_5.size + ((⟨#[92]⟩ : ByteArray) ++ ((rd_T38 l0 x4_1).f1)).size ≤ 9223372036854775807) = true := decide_eq_true c16
             try have c16b2 : (9223372036854775807 < x3_5.size + ((⟨#[92]⟩ : ByteArray) ++ ((rd_T38 l0 x4_1).f1)).size) = False := eq_false (Nat.not_lt.2 c16)
             have H' := Aside0.mk H
             clear H
             have p224 : 0 ≤ (x4_1 : Int) := of_decide_eq_true (by first | (with_reducible assumption) | assumption)
             have q224 : x4_1 < (l0.length : Int) := of_decide_eq_true (by first | (with_reducible assumption) | assumption)
             obtain ⟨ad224, e224, hx224_0, hx224_1, hx224_2⟩ := at_T38 HR0.out x4_1 p224 q224
             cases e224
             replace hx224_0 := (HB.out.cell (World.block_lt_of_cell? w _ hx224_0)).trans hx224_0
             replace hx224_1 := (HB.out.cell (World.block_lt_of_cell? w _ hx224_1)).trans hx224_1
             replace hx224_2 := (HB.out.cell (World.block_lt_of_cell? w _ hx224_2)).trans hx224_2
             replace p224 := eq_true p224
             replace q224 := eq_true q224
             have p227 : 0 ≤ (x4_1 : Int) := of_decide_eq_true (by first | (with_reducible assumption) | assumption)
             have q227 : x4_1 < (l0.length : Int) := of_decide_eq_true (by first | (with_reducible assumption) | assumption)
             obtain ⟨ad227, e227, hx227_0, hx227_1, hx227_2⟩ := at_T38 HR0.out x4_1 p227 q227
             obtain rfl : ad224 = ad227 := (by injection e227)
             replace hx227_0 := (HB.out.cell (World.block_lt_of_cell? w _ hx227_0)).trans hx227_0
             replace hx227_1 := (HB.out.cell (World.block_lt_of_cell? w _ hx227_1)).trans hx227_1
             replace hx227_2 := (HB.out.cell (World.block_lt_of_cell? w _ hx227_2)).trans hx227_2
             replace p227 := eq_true p227
             replace q227 := eq_true q227
             go_wp2
             go_roundg kj5
             case measure => have := HK1.out; have := HJ5.out; omega
             case rel => exact ⟨(x3_5 ++ ((⟨#[92]⟩ : ByteArray) ++ ((rd_T38 l0 x4_1).f1))), (wrap64 (x4_1 + 1)), (by first | rfl | (simp; done) | (simp [*]; done)), (by first | rfl | (simp; done) | (simp [*]; done)), H', ⟨by have := HK1.out; have := HJ5.out; omega⟩, ⟨by repeat (first | (with_reducible first | exact HB.out | apply below_alloc | apply pw_below_drewN | apply below_drew1) | exact HB.out)⟩⟩
            ·rw [if_neg c16] at H
             exact absurd H (by simp)
           ·rw [if_neg c15] at H
            exact absurd H (by simp)
          ·rw [if_neg c14] at H
           have c14b0 : (((rd_T38 l0 x4_1).f0) == 1) = false := beq_eq_false_iff_ne.mpr c14
           have c14b1 : (((rd_T38 l0 x4_1).f0) != 1) = true := bne_iff_ne.mpr c14
           by_cases c17 : ((rd_T38 l0 x4_1).f0) = 2
           ·rw [if_pos c17] at H
            have c17b0 : (((rd_T38 l0 x4_1).f0) == 2) = true := beq_iff_eq.mpr c17
            have c17b1 : (((rd_T38 l0 x4_1).f0) != 2) = false := bne_eq_false_iff_eq.mpr c17
            clear c17
            by_cases c18 : x3_5.size + 1 ≤ 9223372036854775807
            ·rw [if_pos c18] at H
             have c18b0 := eq_true c18
             have c18b1 : decide (x3_5.size + 1 ≤ 9223372036854775807) = true := decide_eq_true c18
             try have c18b2 : (9223372036854775807 < x3_5.size + 1) = False := eq_false (Nat.not_lt.2 c18)
             have H' := Aside0.mk H
             clear H
             have p224 : 0 ≤ (x4_1 : Int) := of_decide_eq_true (by first | (with_reducible assumption) | assumption)
             have q224 : x4_1 < (l0.length : Int) := of_decide_eq_true (by first | (with_reducible assumption) | assumption)
             obtain ⟨ad224, e224, hx224_0, hx224_1, hx224_2⟩ := at_T38 HR0.out x4_1 p224 q224
             cases e224
             replace hx224_0 := (HB.out.cell (World.block_lt_of_cell? w _ hx224_0)).trans hx224_0
             replace hx224_1 := (HB.out.cell (World.block_lt_of_cell? w _ hx224_1)).trans hx224_1
             replace hx224_2 := (HB.out.cell (World.block_lt_of_cell? w _ hx224_2)).trans hx224_2
             replace p224 := eq_true p224
             replace q224 := eq_true q224
             go_wp2
             go_roundg kj5
             case measure => have := HK1.out; have := HJ5.out; omega
             case rel => exact ⟨(x3_5 ++ (⟨#[123]⟩ : ByteArray)), (wrap64 (x4_1 + 1)), (by first | rfl | (simp; done) | (simp [*]; done)), (by first | rfl | (simp; done) | (simp [*]; done)), H', ⟨by have := HK1.out; have := HJ5.out; omega⟩, ⟨by repeat (first | (with_reducible first | exact HB.out | apply below_alloc | apply pw_below_drewN | apply below_drew1) | exact HB.out)⟩⟩
            ·rw [if_neg c18] at H
             exact absurd H (by simp)
           ·rw [if_neg c17] at H
            have c17b0 : (((rd_T38 l0 x4_1).f0) == 2) = false := beq_eq_false_iff_ne.mpr c17
            have c17b1 : (((rd_T38 l0 x4_1).f0) != 2) = true := bne_iff_ne.mpr c17
            by_cases c19 : ((rd_T38 l0 x4_1).f0) = 3
            ·rw [if_pos c19] at H
             have c19b0 : (((rd_T38 l0 x4_1).f0) == 3) = true := beq_iff_eq.mpr c19
             have c19b1 : (((rd_T38 l0 x4_1).f0) != 3) = false := bne_eq_false_iff_eq.mpr c19
             clear c19
             by_cases c20 : x3_5.size + 1 ≤ 9223372036854775807
             ·rw [if_pos c20] at H
              have c20b0 := eq_true c20
              have c20b1 : decide (x3_5.size + 1 ≤ 9223372036854775807) = true := decide_eq_true c20
              try have c20b2 : (9223372036854775807 < x3_5.size + 1) = False := eq_false (Nat.not_lt.2 c20)
              have H' := Aside0.mk H
              clear H
              have p224 : 0 ≤ (x4_1 : Int) := of_decide_eq_true (by first | (with_reducible assumption) | assumption)
              have q224 : x4_1 < (l0.length : Int) := of_decide_eq_true (by first | (with_reducible assumption) | assumption)
              obtain ⟨ad224, e224, hx224_0, hx224_1, hx224_2⟩ := at_T38 HR0.out x4_1 p224 q224
              cases e224
              replace hx224_0 := (HB.out.cell (World.block_lt_of_cell? w _ hx224_0)).trans hx224_0
              replace hx224_1 := (HB.out.cell (World.block_lt_of_cell? w _ hx224_1)).trans hx224_1
              replace hx224_2 := (HB.out.cell (World.block_lt_of_cell? w _ hx224_2)).trans hx224_2
              replace p224 := eq_true p224
              replace q224 := eq_true q224
              go_wp2
              go_roundg kj5
              case measure => have := HK1.out; have := HJ5.out; omega
              case rel => exact ⟨(x3_5 ++ (⟨#[125]⟩ : ByteArray)), (wrap64 (x4_1 + 1)), (by first | rfl | (simp; done) | (simp [*]; done)), (by first | rfl | (simp; done) | (simp [*]; done)), H', ⟨by have := HK1.out; have := HJ5.out; omega⟩, ⟨by repeat (first | (with_reducible first | exact HB.out | apply below_alloc | apply pw_below_drewN | apply below_drew1) | exact HB.out)⟩⟩
             ·rw [if_neg c20] at H
              exact absurd H (by simp)
            ·rw [if_neg c19] at H
             have c19b0 : (((rd_T38 l0 x4_1).f0) == 3) = false := beq_eq_false_iff_ne.mpr c19
             have c19b1 : (((rd_T38 l0 x4_1).f0) != 3) = true := bne_iff_ne.mpr c19
             have H' := Aside0.mk H
             clear H
             have p224 : 0 ≤ (x4_1 : Int) := of_decide_eq_true (by first | (with_reducible assumption) | assumption)
             have q224 : x4_1 < (l0.length : Int) := of_decide_eq_true (by first | (with_reducible assumption) | assumption)
             obtain ⟨ad224, e224, hx224_0, hx224_1, hx224_2⟩ := at_T38 HR0.out x4_1 p224 q224
             cases e224
             replace hx224_0 := (HB.out.cell (World.block_lt_of_cell? w _ hx224_0)).trans hx224_0
             replace hx224_1 := (HB.out.cell (World.block_lt_of_cell? w _ hx224_1)).trans hx224_1
             replace hx224_2 := (HB.out.cell (World.block_lt_of_cell? w _ hx224_2)).trans hx224_2
             replace p224 := eq_true p224
             replace q224 := eq_true q224
             go_wp2
             go_roundg kj5
             case measure => have := HK1.out; have := HJ5.out; omega
             case rel => exact ⟨(x3_5), (wrap64 (x4_1 + 1)), (by first | rfl | (simp; done) | (simp [*]; done)), (by first | rfl | (simp; done) | (simp [*]; done)), H', ⟨by have := HK1.out; have := HJ5.out; omega⟩, ⟨by repeat (first | (with_reducible first | exact HB.out | apply below_alloc | apply pw_below_drewN | apply below_drew1) | exact HB.out)⟩⟩
        ·rw [if_neg c10] at H
         exact absurd H (by simp)
       ·rw [if_neg c9] at H
        exact absurd H (by simp)
    ·rw [if_neg c5] at H
     have c5b0 : decide (x4_1 < (l0.length : Int)) = false := decide_eq_false c5
     clear c5
     obtain rfl := Option.some.inj H
     go_wp2
     go_ret
     exact ⟨by first | rfl | (simp [errW_none, errW_some] <;> rfl) | (simp [*, errW_none, errW_some] <;> rfl), by repeat (first | (with_reducible first | exact HB.out | apply below_alloc | apply pw_below_drewN | apply below_drew1) | exact HB.out)⟩
 ·replace c3 := Bool.eq_false_iff.mpr c3
  subst c3
  have H1 : (some (⟨#[]⟩ : ByteArray)) = some r := by rw [if_neg (show ¬ (false = true) by decide)] at H; exact H
  clear H
  have H := H1
  clear H1
  obtain rfl := Option.some.inj H
  go_enter Tryz.func17, Tryz.ntmps17
  go_wp2_with (first | ((with_reducible refine gate_callee (f := 15) rfl ?_); refine goesL_ (some 6) rfl rfl Tryz.func15 (by kernel_rfl) rfl #[.slice A0 l0.length c0] rfl (by (try simp only [List.map_toArray, List.map_cons, List.map_nil]); first | done | rfl | (simp only [List.length_drop, List.length_take]; rfl) | (simp only [*]; first | done | rfl)) ?_; (with_reducible refine (variorumref05_May.calls k _ _ l0 false _ ?side1 ?side2 A2.out).mono ?_); (case side1 => repeat (first | exact HR0.out | (with_reducible refine Kd.C_alloc ?_ _) | (with_reducible refine Kd.C_drewN ?_ _) | (with_reducible refine Kd.C_drew ?_))); (case side2 => exact HC0.out); rintro e w21 ⟨rfl, hb⟩; refine ⟨_, rfl, ?_⟩; have n0_ := Aside0.mk (below_step (by repeat (first | (with_reducible first | exact HB.out | apply below_alloc | apply pw_below_drewN | apply below_drew1) | exact HB.out)) hb); clear HB; have HB := n0_; clear n0_; (try clear hb); (try clear hb2); (try clear hk); (try clear hi)))
  go_ret
  exact ⟨by first | rfl | (simp [errW_none, errW_some] <;> rfl) | (simp [*, errW_none, errW_some] <;> rfl), by repeat (first | (with_reducible first | exact HB.out | apply below_alloc | apply pw_below_drewN | apply below_drew1) | exact HB.out)⟩

/-! ### variorumlaw05_LexerPrints: function 4 -/
def variorumlaw05_LexerPrints.f (k : Nat) (l0 : List (S38)) (a1 : ByteArray) : Option (Bool) := (variorumlaw05_fixed.f k).bind fun t228 => (if t228 = true then ((lexer_May.f k l0).bind fun t229 => ((variorumref05_May.f k l0).bind fun t230 => (if (t229 == t230) = true then ((lexer_Print.f k l0).bind fun t231 => ((variorumref05_Print.f k l0).bind fun t232 => (if t231.toList = t232.toList then ((lexer_Escape.f a1).bind fun t233 => ((variorumref05_Escape.f k a1).bind fun t234 => (some (t233.toList == t234.toList)))) else (none)))) else (none)))) else (none))
theorem variorumlaw05_LexerPrints.mono : ∀ a0 a1 k, LeO (variorumlaw05_LexerPrints.f k a0 a1) (variorumlaw05_LexerPrints.f (k + 1) a0 a1) := by
 intro a0 a1 k
 unfold variorumlaw05_LexerPrints.f
 repeat' first
   | (with_reducible exact lexer_May.mono _ _)
   | (with_reducible exact lexer_Print.mono _ _)
   | (with_reducible exact variorumlaw05_fixed.mono _)
   | (with_reducible exact variorumref05_Escape.mono _ _)
   | (with_reducible exact variorumref05_May.mono _ _)
   | (with_reducible exact variorumref05_Print.mono _ _)
   | (with_reducible exact LeO.refl _)
   | (with_reducible exact LeO.none _)
   | (with_reducible refine LeO.ite ?_ ?_)
   | (with_reducible refine LeO.bind ?_ (fun _ => ?_))
   | exact lexer_May.mono _ _
   | exact lexer_Print.mono _ _
   | exact variorumlaw05_fixed.mono _
   | exact variorumref05_Escape.mono _ _
   | exact variorumref05_May.mono _ _
   | exact variorumref05_Print.mono _ _
   | exact LeO.none _
   | refine LeO.ite ?_ ?_
   | refine LeO.bind ?_ (fun _ => ?_)
set_option maxHeartbeats 8000000 in
set_option maxRecDepth 100000 in
theorem variorumlaw05_LexerPrints.calls (k : Nat) (A0 : Option Addr) (c0 : Nat) (l0 : List (S38)) (a1 : ByteArray) (r : Bool) (w : World) (hr0 : Kd.C k38 w A0 l0.length l0) (hc0 : l0.length ≤ c0) (hT : Lib.Utf8Tabs 0 1 w) (h : variorumlaw05_LexerPrints.f k l0 a1 = some r) :
  Calls Tryz.prog 4 #[.slice A0 l0.length c0, .string a1] w fun e w' => e = .returned (.bool r) ∧ Below w.heap.size w w' := by
 have HT := Aside0.mk hT
 clear hT
 have HR0 := Aside0.mk hr0
 have HC0 := Aside0.mk hc0
 clear hr0 hc0
 have HB := Aside0.mk (Below.refl w.heap.size w)
 have H : ((variorumlaw05_fixed.f k).bind fun t228 => (if t228 = true then ((lexer_May.f k l0).bind fun t229 => ((variorumref05_May.f k l0).bind fun t230 => (if (t229 == t230) = true then ((lexer_Print.f k l0).bind fun t231 => ((variorumref05_Print.f k l0).bind fun t232 => (if t231.toList = t232.toList then ((lexer_Escape.f a1).bind fun t233 => ((variorumref05_Escape.f k a1).bind fun t234 => (some (t233.toList == t234.toList)))) else (none)))) else (none)))) else (none))) = some r := h
 clear h
 replace H := Option.bind_eq_some_iff.mp H
 obtain ⟨t228, A30, H⟩ := H
 replace H : (if t228 = true then ((lexer_May.f k l0).bind fun t229 => ((variorumref05_May.f k l0).bind fun t230 => (if (t229 == t230) = true then ((lexer_Print.f k l0).bind fun t231 => ((variorumref05_Print.f k l0).bind fun t232 => (if t231.toList = t232.toList then ((lexer_Escape.f a1).bind fun t233 => ((variorumref05_Escape.f k a1).bind fun t234 => (some (t233.toList == t234.toList)))) else (none)))) else (none)))) else (none)) = some r := H
 have A3 := Aside0.mk A30
 clear A30
 by_cases c4 : t228 = true
 ·subst c4
  have H1 : ((lexer_May.f k l0).bind fun t229 => ((variorumref05_May.f k l0).bind fun t230 => (if (t229 == t230) = true then ((lexer_Print.f k l0).bind fun t231 => ((variorumref05_Print.f k l0).bind fun t232 => (if t231.toList = t232.toList then ((lexer_Escape.f a1).bind fun t233 => ((variorumref05_Escape.f k a1).bind fun t234 => (some (t233.toList == t234.toList)))) else (none)))) else (none)))) = some r := by rw [if_pos rfl] at H; exact H
  clear H
  have H := H1
  clear H1
  replace H := Option.bind_eq_some_iff.mp H
  obtain ⟨t229, A50, H⟩ := H
  replace H : ((variorumref05_May.f k l0).bind fun t230 => (if (t229 == t230) = true then ((lexer_Print.f k l0).bind fun t231 => ((variorumref05_Print.f k l0).bind fun t232 => (if t231.toList = t232.toList then ((lexer_Escape.f a1).bind fun t233 => ((variorumref05_Escape.f k a1).bind fun t234 => (some (t233.toList == t234.toList)))) else (none)))) else (none))) = some r := H
  have A5 := Aside0.mk A50
  clear A50
  replace H := Option.bind_eq_some_iff.mp H
  obtain ⟨t230, A60, H⟩ := H
  replace H : (if (t229 == t230) = true then ((lexer_Print.f k l0).bind fun t231 => ((variorumref05_Print.f k l0).bind fun t232 => (if t231.toList = t232.toList then ((lexer_Escape.f a1).bind fun t233 => ((variorumref05_Escape.f k a1).bind fun t234 => (some (t233.toList == t234.toList)))) else (none)))) else (none)) = some r := H
  have A6 := Aside0.mk A60
  clear A60
  by_cases c7 : (t229 == t230) = true
  ·rw [if_pos c7] at H
   have c7b0 : (t229 == t230) = true := c7
   (try (have c7b1 : decide (t229 = t230) = true := by simpa using c7))
   (try (have c7b2 : (t229 == t230) = true := by simpa using c7))
   clear c7
   replace H := Option.bind_eq_some_iff.mp H
   obtain ⟨t231, A80, H⟩ := H
   replace H : ((variorumref05_Print.f k l0).bind fun t232 => (if t231.toList = t232.toList then ((lexer_Escape.f a1).bind fun t233 => ((variorumref05_Escape.f k a1).bind fun t234 => (some (t233.toList == t234.toList)))) else (none))) = some r := H
   have A8 := Aside0.mk A80
   clear A80
   replace H := Option.bind_eq_some_iff.mp H
   obtain ⟨t232, A90, H⟩ := H
   replace H : (if t231.toList = t232.toList then ((lexer_Escape.f a1).bind fun t233 => ((variorumref05_Escape.f k a1).bind fun t234 => (some (t233.toList == t234.toList)))) else (none)) = some r := H
   have A9 := Aside0.mk A90
   clear A90
   by_cases c10 : t231.toList = t232.toList
   ·rw [if_pos c10] at H
    have c10b0 : (t231.toList == t232.toList) = true := beq_iff_eq.mpr c10
    have c10b1 : (t231.toList != t232.toList) = false := bne_eq_false_iff_eq.mpr c10
    clear c10
    replace H := Option.bind_eq_some_iff.mp H
    obtain ⟨t233, A110, H⟩ := H
    replace H : ((variorumref05_Escape.f k a1).bind fun t234 => (some (t233.toList == t234.toList))) = some r := H
    have A11 := Aside0.mk A110
    clear A110
    replace H := Option.bind_eq_some_iff.mp H
    obtain ⟨t234, A120, H⟩ := H
    replace H : (some (t233.toList == t234.toList)) = some r := H
    have A12 := Aside0.mk A120
    clear A120
    obtain rfl := Option.some.inj H
    go_enter Tryz.func4, Tryz.ntmps4
    go_wp2_with (first | ((with_reducible refine gate_callee (f := 12) rfl ?_); refine goesL_ (some 5) rfl rfl Tryz.func12 (by kernel_rfl) rfl #[] rfl (by (try simp only [List.map_toArray, List.map_cons, List.map_nil]); first | done | rfl | (simp only [List.length_drop, List.length_take]; rfl) | (simp only [*]; first | done | rfl)) ?_; (with_reducible refine (variorumlaw05_fixed.calls k  true _ (by first | exact HT.out | exact Utf8Tabs_below HT.out (by repeat (first | (with_reducible first | exact HB.out | apply below_alloc | apply pw_below_drewN | apply below_drew1) | exact HB.out | exact Below.refl _ _))) A3.out).mono ?_); rintro e w13 ⟨rfl, hb⟩; refine ⟨_, rfl, ?_⟩; have n0_ := Aside0.mk (below_step (by repeat (first | (with_reducible first | exact HB.out | apply below_alloc | apply pw_below_drewN | apply below_drew1) | exact HB.out)) hb); clear HB; have HB := n0_; clear n0_; (try clear hb); (try clear hb2); (try clear hk); (try clear hi)) | (go_at_call 14; (with_reducible refine (lexer_May.calls k _ _ l0 t229 _ ?side1 ?side2 (by first | exact HT.out | exact Utf8Tabs_below HT.out (by repeat (first | (with_reducible first | exact HB.out | apply below_alloc | apply pw_below_drewN | apply below_drew1) | exact HB.out | exact Below.refl _ _))) A5.out).mono ?_); (case side1 => repeat (first | exact (Kd.C_below HR0.out HB.out) | (with_reducible refine Kd.C_alloc ?_ _) | (with_reducible refine Kd.C_drewN ?_ _) | (with_reducible refine Kd.C_drew ?_))); (case side2 => exact HC0.out); rintro e w14 ⟨rfl, hb⟩; have n0_ := Aside0.mk (below_step (by repeat (first | (with_reducible first | exact HB.out | apply below_alloc | apply pw_below_drewN | apply below_drew1) | exact HB.out)) hb); clear HB; have HB := n0_; clear n0_; (try clear hb); (try clear hb2); (try clear hk); (try clear hi)) | (go_at_call 15; (with_reducible refine (variorumref05_May.calls k _ _ l0 t230 _ ?side1 ?side2 A6.out).mono ?_); (case side1 => repeat (first | exact (Kd.C_below HR0.out HB.out) | (with_reducible refine Kd.C_alloc ?_ _) | (with_reducible refine Kd.C_drewN ?_ _) | (with_reducible refine Kd.C_drew ?_))); (case side2 => exact HC0.out); rintro e w15 ⟨rfl, hb⟩; have n0_ := Aside0.mk (below_step (by repeat (first | (with_reducible first | exact HB.out | apply below_alloc | apply pw_below_drewN | apply below_drew1) | exact HB.out)) hb); clear HB; have HB := n0_; clear n0_; (try clear hb); (try clear hb2); (try clear hk); (try clear hi)) | (go_at_call 16; (with_reducible refine (lexer_Print.calls k _ _ l0 t231 _ ?side1 ?side2 (by first | exact HT.out | exact Utf8Tabs_below HT.out (by repeat (first | (with_reducible first | exact HB.out | apply below_alloc | apply pw_below_drewN | apply below_drew1) | exact HB.out | exact Below.refl _ _))) A8.out).mono ?_); (case side1 => repeat (first | exact (Kd.C_below HR0.out HB.out) | (with_reducible refine Kd.C_alloc ?_ _) | (with_reducible refine Kd.C_drewN ?_ _) | (with_reducible refine Kd.C_drew ?_))); (case side2 => exact HC0.out); rintro e w16 ⟨rfl, hb⟩; have n0_ := Aside0.mk (below_step (by repeat (first | (with_reducible first | exact HB.out | apply below_alloc | apply pw_below_drewN | apply below_drew1) | exact HB.out)) hb); clear HB; have HB := n0_; clear n0_; (try clear hb); (try clear hb2); (try clear hk); (try clear hi)) | (go_at_call 17; (with_reducible refine (variorumref05_Print.calls k _ _ l0 t232 _ ?side1 ?side2 A9.out).mono ?_); (case side1 => repeat (first | exact (Kd.C_below HR0.out HB.out) | (with_reducible refine Kd.C_alloc ?_ _) | (with_reducible refine Kd.C_drewN ?_ _) | (with_reducible refine Kd.C_drew ?_))); (case side2 => exact HC0.out); rintro e w17 ⟨rfl, hb⟩; have n0_ := Aside0.mk (below_step (by repeat (first | (with_reducible first | exact HB.out | apply below_alloc | apply pw_below_drewN | apply below_drew1) | exact HB.out)) hb); clear HB; have HB := n0_; clear n0_; (try clear hb); (try clear hb2); (try clear hk); (try clear hi)) | (go_at_call 18; (with_reducible refine (lexer_Escape.calls a1 t233 _ A11.out).mono ?_); rintro e w18 ⟨rfl, hb⟩; have n0_ := Aside0.mk (below_step (by repeat (first | (with_reducible first | exact HB.out | apply below_alloc | apply pw_below_drewN | apply below_drew1) | exact HB.out)) hb); clear HB; have HB := n0_; clear n0_; (try clear hb); (try clear hb2); (try clear hk); (try clear hi)) | (go_at_call 19; (with_reducible refine (variorumref05_Escape.calls k a1 t234 _ A12.out).mono ?_); rintro e w' ⟨rfl, ⟨nd, rfl⟩⟩))
    go_ret
    exact ⟨by first | rfl | (simp [errW_none, errW_some] <;> rfl) | (simp [*, errW_none, errW_some] <;> rfl), by repeat (first | (with_reducible first | exact HB.out | apply below_alloc | apply pw_below_drewN | apply below_drew1) | exact HB.out)⟩
   ·rw [if_neg c10] at H
    exact absurd H (by simp)
  ·rw [if_neg c7] at H
   exact absurd H (by simp)
 ·replace c4 := Bool.eq_false_iff.mpr c4
  subst c4
  have H1 : (none) = some r := by rw [if_neg (show ¬ (false = true) by decide)] at H; exact H
  clear H
  have H := H1
  clear H1
  exact absurd H (by simp)

/-- The one statement about numbers and lists that is left of the law. -/
def variorumlaw05_LexerPrints.Pure : Prop := ∀ (x0 : List (S38)) (x1 : ByteArray), (x0.length * 32 ≤ 140737488351232 ∧ ∀ y0 ∈ x0, ((Lit.int .i64 y0.f0).wf = true ∧ (y0.f1.size ≤ 140737488351232 ∧ ((Lit.int .i64 y0.f2).wf = true)))) → (Go.Proofs.YtjiljpddkfcdbaaGreatDoor.OpenB.bulkOf (fun x => 1 + ((x.f1.size + 1) + (1))) x0 ≤ 1048576) → x1.size ≤ 140737488351232 → x1.size + 1 ≤ 1048576 → ∃ k, variorumlaw05_LexerPrints.f k x0 x1 = some true

end Go.Proofs.YtjiljpddkfcdbaaGreatDoor.PLx

/- Written by a program of this session: functions of the given program as plain Lean functions, the walks that show it, and the row of each law, for every input that its statement speaks of. -/
import Derived.Test.YtjppjlhhdfkloaaPTpx0
namespace Go.Proofs.Ytjppjlhhdfkloaa.PTp
open Go.RowKit Go.Proofs.YtjppjlhhdfkloaaW.PrintWords Go.Proofs.YtjppjlhhdfkloaaW.PrintLast Go.Proofs.YtjppjlhhdfkloaaW.PrintMore
attribute [local go_sem] max2_int min2_int max_two min_two max_three min_three max_four min_four   -- for this text's walks alone
set_option linter.unusedVariables false
set_option linter.unusedSimpArgs false

/-! ### variorumref06_Same: function 25 -/
mutual
def variorumref06_Same.l0 : Nat → List (S38) → List (S38) → Int → Option (Bool)
 | 0, _, _, _ => none
 | k + 1, x0, x1, x5 => if x5 < (x0.length : Int) then (if 0 ≤ x5 then (if x5 < (x1.length : Int) then (if (((rd_T38 x0 x5).f0) != ((rd_T38 x1 x5).f0)) = true then (variorumref06_Same.j1 k x0 x1 x5 true) else (if ((rd_T38 x0 x5).f1).toList = ((rd_T38 x1 x5).f1).toList then (variorumref06_Same.j1 k x0 x1 x5 ((((rd_T38 x0 x5).f2).length : Int) != (((rd_T38 x1 x5).f2).length : Int))) else (variorumref06_Same.j1 k x0 x1 x5 true))) else (none)) else (none)) else (some true)
def variorumref06_Same.j1 : Nat → List (S38) → List (S38) → Int → Bool → Option (Bool)
 | 0, _, _, _, _ => none
 | k + 1, x0, x1, x5, x56 => if x56 = true then (some false) else (variorumref06_Same.l1 k x0 x1 x5 0)
def variorumref06_Same.l1 : Nat → List (S38) → List (S38) → Int → Int → Option (Bool)
 | 0, _, _, _, _ => none
 | k + 1, x0, x1, x5, x6 => if 0 ≤ x5 then (if x5 < (x0.length : Int) then (if x6 < (((rd_T38 x0 x5).f2).length : Int) then (if 0 ≤ x6 then (if x5 < (x1.length : Int) then (if x6 < (((rd_T38 x1 x5).f2).length : Int) then ((variorumref06_Same.f k (rd_L5 ((rd_T38 x0 x5).f2) x6) (rd_L5 ((rd_T38 x1 x5).f2) x6)).bind fun t246 => (if t246 = true then (variorumref06_Same.l1 k x0 x1 x5 (wrap64 (x6 + 1))) else (some false))) else (none)) else (none)) else (none)) else (variorumref06_Same.l0 k x0 x1 (wrap64 (x5 + 1)))) else (none)) else (none)
def variorumref06_Same.f : Nat → List (S38) → List (S38) → Option (Bool)
 | 0, _, _ => none
 | k + 1, l0, l1 => if (l0.length : Int) = (l1.length : Int) then (variorumref06_Same.l0 k l0 l1 0) else (some false)
end
theorem variorumref06_Same.mono_l : ∀ k, (∀ y0 y1, LeO (variorumref06_Same.f k y0 y1) (variorumref06_Same.f (k + 1) y0 y1)) ∧ (∀ y0 y1 y2, LeO (variorumref06_Same.l0 k y0 y1 y2) (variorumref06_Same.l0 (k + 1) y0 y1 y2)) ∧ (∀ y0 y1 y2 y3, LeO (variorumref06_Same.j1 k y0 y1 y2 y3) (variorumref06_Same.j1 (k + 1) y0 y1 y2 y3)) ∧ (∀ y0 y1 y2 y3, LeO (variorumref06_Same.l1 k y0 y1 y2 y3) (variorumref06_Same.l1 (k + 1) y0 y1 y2 y3))
 | 0 => ⟨fun _ _ r h => by simp [variorumref06_Same.f] at h, fun _ _ _ r h => by simp [variorumref06_Same.l0] at h, fun _ _ _ _ r h => by simp [variorumref06_Same.j1] at h, fun _ _ _ _ r h => by simp [variorumref06_Same.l1] at h⟩
 | k + 1 => by
  obtain ⟨ih0, ih1, ih2, ih3⟩ := variorumref06_Same.mono_l k
  refine ⟨?_, ?_, ?_, ?_⟩
  ·intro y0 y1
   unfold variorumref06_Same.f
   repeat' first | (with_reducible first | exact ih0 _ _ | exact ih1 _ _ _ | exact ih2 _ _ _ _ | exact ih3 _ _ _ _ | exact LeO.refl _ | exact LeO.none _ | refine LeO.ite ?_ ?_ | refine LeO.bind ?_ (fun _ => ?_)) | exact LeO.none _ | refine LeO.ite ?_ ?_ | refine LeO.bind ?_ (fun _ => ?_)
  ·intro y0 y1 y2
   unfold variorumref06_Same.l0
   repeat' first | (with_reducible first | exact ih0 _ _ | exact ih1 _ _ _ | exact ih2 _ _ _ _ | exact ih3 _ _ _ _ | exact LeO.refl _ | exact LeO.none _ | refine LeO.ite ?_ ?_ | refine LeO.bind ?_ (fun _ => ?_)) | exact LeO.none _ | refine LeO.ite ?_ ?_ | refine LeO.bind ?_ (fun _ => ?_)
  ·intro y0 y1 y2 y3
   unfold variorumref06_Same.j1
   repeat' first | (with_reducible first | exact ih0 _ _ | exact ih1 _ _ _ | exact ih2 _ _ _ _ | exact ih3 _ _ _ _ | exact LeO.refl _ | exact LeO.none _ | refine LeO.ite ?_ ?_ | refine LeO.bind ?_ (fun _ => ?_)) | exact LeO.none _ | refine LeO.ite ?_ ?_ | refine LeO.bind ?_ (fun _ => ?_)
  ·intro y0 y1 y2 y3
   unfold variorumref06_Same.l1
   repeat' first | (with_reducible first | exact ih0 _ _ | exact ih1 _ _ _ | exact ih2 _ _ _ _ | exact ih3 _ _ _ _ | exact LeO.refl _ | exact LeO.none _ | refine LeO.ite ?_ ?_ | refine LeO.bind ?_ (fun _ => ?_)) | exact LeO.none _ | refine LeO.ite ?_ ?_ | refine LeO.bind ?_ (fun _ => ?_)
theorem variorumref06_Same.mono : ∀ a0 a1 k, LeO (variorumref06_Same.f k a0 a1) (variorumref06_Same.f (k + 1) a0 a1) := by
 intro a0 a1 k
 obtain ⟨ih0, ih1, ih2, ih3⟩ := variorumref06_Same.mono_l k
 exact ih0 a0 a1
def variorumref06_Same.T6 : Bool × List (List Nat × List Nat) := (true, [([], []), ([], []), ([0, 1], [0, 1]), ([2], [2]), ([3], [3]), ([], []), ([], []), ([5, 6], [5, 6]), ([7], [7]), ([8], [8]), ([4, 9], [4, 9]), ([10], [10]), ([11], [11]), ([11], [11]), ([12, 13, 11], [11, 12, 13]), ([14, 11], [11, 14]), ([15, 11], [11, 15]), ([11], [11]), ([11], [11]), ([17, 18, 11], [11, 17, 18]), ([19, 11], [11, 19]), ([20, 11], [11, 20]), ([16, 21, 11], [11, 16, 21]), ([11, 22], [11, 22]), ([23, 11], [23]), ([24], [24]), ([24], [24]), ([25, 26, 24], [24, 25, 26]), ([27, 24], [24, 27]), ([28, 24], [24, 28]), ([29, 24], [24, 29]), ([24], [24]), ([24], [24]), ([31, 32, 24], [24, 31, 32]), ([33, 24], [24, 33]), ([34, 24], [24, 34]), ([35, 24], [24, 35]), ([30, 36, 24], [24, 30, 36]), ([24, 37], [24, 37])])
def variorumref06_Same.B6 : List Nat := [0, 0, 3, 7, 15, 0, 0, 96, 224, 480, 1023, 2047, 4095, 4095, 16383, 32767, 65535, 4095, 4095, 397311, 921599, 1970175, 4194303, 8388607, 16777215, 33554431, 33554431, 134217727, 268435455, 536870911, 1073741823, 33554431, 33554431, 6476005375, 15065939967, 32245809151, 66605547519, 137438953471, 274877906943]
theorem variorumref06_Same.tab6 : rtab .any (opsOf Try.f25 6) = variorumref06_Same.T6 := by kernel_rfl
theorem variorumref06_Same.bits6 : waitsOk variorumref06_Same.T6.2 variorumref06_Same.B6 = true := by kernel_rfl
def variorumref06_Same.T11 : Bool × List (List Nat × List Nat) := (true, [([], []), ([], []), ([0, 1], [0, 1]), ([2], [2]), ([3], [3]), ([], []), ([4, 5], [4, 5]), ([6], [6]), ([], []), ([], []), ([8, 9], [8, 9]), ([10], [10]), ([11], [11]), ([], []), ([12, 13], [12, 13]), ([14], [14]), ([7, 15], [7, 15]), ([16], [16])])
def variorumref06_Same.B11 : List Nat := [0, 0, 3, 7, 15, 0, 63, 127, 0, 0, 768, 1792, 3840, 0, 16128, 32512, 65535, 131071]
theorem variorumref06_Same.tab11 : rtab .any (opsOf Try.f25 11) = variorumref06_Same.T11 := by kernel_rfl
theorem variorumref06_Same.bits11 : waitsOk variorumref06_Same.T11.2 variorumref06_Same.B11 = true := by kernel_rfl
set_option maxHeartbeats 8000000 in
set_option maxRecDepth 100000 in
theorem variorumref06_Same.calls (k : Nat) : ∀ (A0 : Option Addr) (c0 : Nat) (l0 : List (S38)) (A1 : Option Addr) (c1 : Nat) (l1 : List (S38)) (r : Bool) (w : World) (hr0 : Kd.C k38 w A0 l0.length l0) (hc0 : l0.length ≤ c0) (hr1 : Kd.C k38 w A1 l1.length l1) (hc1 : l1.length ≤ c1) (h : variorumref06_Same.f k l0 l1 = some r),
  Calls Try.prog 25 #[.slice A0 l0.length c0, .slice A1 l1.length c1] w fun e w' => e = .returned (.bool r) ∧ Below w.heap.size w w' := by
 induction k using Nat.strongRecOn with
 | _ k ih =>
 intro A0 c0 l0 A1 c1 l1 r w hr0 hc0 hr1 hc1 h
 cases k with
 | zero => exact absurd h (by simp [variorumref06_Same.f])
 | succ k =>
 simp only [variorumref06_Same.f] at h
 have HR0 := a_ hr0
 have HC0 := a_ hc0
 clear hr0 hc0
 have HR1 := a_ hr1
 have HC1 := a_ hc1
 clear hr1 hc1
 have HB := a_ (Below.refl w.heap.size w)
 have H : (if (l0.length : Int) = (l1.length : Int) then (variorumref06_Same.l0 k l0 l1 0) else (some false)) = some r := h
 clear h
 by_cases c3 : (l0.length : Int) = (l1.length : Int)
 ·rw [if_pos c3] at H
  have c3b0 : ((l0.length : Int) == (l1.length : Int)) = true := beq_iff_eq.mpr c3
  have c3b1 : ((l0.length : Int) != (l1.length : Int)) = false := bne_eq_false_iff_eq.mpr c3
  have c3b2 : (l0.length == l1.length) = true := by first | simpa using c3 | (simp at c3 ⊢; omega)
  clear c3
  have H' := a_ H
  clear H
  go_enter Try.func25, Try.ntmps25
  go_wp2
  go_loopg [5] k (fun kq v5 w' => ∃ (x5_1 : Int), v5 = .int .i64 x5_1 ∧ Aside0 (variorumref06_Same.l0 kq l0 l1 x5_1 = some r) ∧ Aside0 (kq ≤ k) ∧ Aside0 (Below w.heap.size w w'))
  case atStart => exact ⟨(0), (by first | rfl | (simp; done) | (simp [*]; done)), H', ⟨Nat.le_refl _⟩, ⟨bv_ HB.out⟩⟩
  case round =>
   clear H'
   try clear c1
   try clear c2
   try clear p2
   try clear c3
   try clear c3b0
   try clear c3b1
   try clear c3b2
   obtain ⟨x5_1, rfl, HA, HK1, HB⟩ := hrel
   cases gk with
   | zero => exact absurd HA.out (by simp [variorumref06_Same.l0])
   | succ k1 =>
    have H := HA.out
    clear HA
    simp only [variorumref06_Same.l0] at H
    by_cases c4 : x5_1 < (l0.length : Int)
    ·rw [if_pos c4] at H
     have c4b0 : decide (x5_1 < (l0.length : Int)) = true := decide_eq_true c4
     clear c4
     have HC5 := a_ H
     clear H
     go_upto_region 6 with (fail)
     go_cut [56] (fun v56 wc => ∃ (kq : Nat) (x56_4 : Bool), v56 = .bool x56_4 ∧ Aside0 (variorumref06_Same.j1 kq l0 l1 x5_1 x56_4 = some r) ∧ Aside0 (kq ≤ k1) ∧ Aside0 (Below w.heap.size w wc))
     case first =>
      have H := HC5.out
      clear HC5
      by_cases c6 : 0 ≤ x5_1
      ·rw [if_pos c6] at H
       have c6b0 : decide (0 ≤ x5_1) = true := decide_eq_true c6
       clear c6
       (first | rw [c6b0] | (simp only [i64_w, i32_w]; rw [c6b0]) | skip)
       by_cases c7 : x5_1 < (l1.length : Int)
       ·rw [if_pos c7] at H
        have c7b0 : decide (x5_1 < (l1.length : Int)) = true := decide_eq_true c7
        clear c7
        by_cases c8 : (((rd_T38 l0 x5_1).f0) != ((rd_T38 l1 x5_1).f0)) = true
        ·rw [if_pos c8] at H
         have c8b0 : (((rd_T38 l0 x5_1).f0) != ((rd_T38 l1 x5_1).f0)) = true := c8
         (try (have c8b1 : decide (((rd_T38 l0 x5_1).f0) = ((rd_T38 l1 x5_1).f0)) = false := by simpa using c8))
         (try (have c8b2 : (((rd_T38 l0 x5_1).f0) == ((rd_T38 l1 x5_1).f0)) = false := by simpa using c8))
         (try (have c8b3 : ¬ (((rd_T38 l0 x5_1).f0) = ((rd_T38 l1 x5_1).f0)) := by simpa using c8))
         clear c8
         have H' := a_ H
         clear H
         try go_wp2
         have n0_ := a_ (below_drew1 HB.out)
         clear HB
         have HB := n0_
         clear n0_
         have p235 : 0 ≤ (x5_1 : Int) := od_
         have q235 : x5_1 < (l0.length : Int) := od_
         obtain ⟨ad235, A235_2, c235_2, e235, hx235_0, hx235_1, hx235_2, hx235_3, hl235_2, hi235_2⟩ := at_T38 HR0.out x5_1 p235 q235
         have hw235_3 := hx235_3
         have hw235_2 := hx235_2
         have hw235_1 := hx235_1
         have hw235_0 := hx235_0
         cases e235
         try replace hx235_0 := up_ HB.out hx235_0
         try replace hx235_1 := up_ HB.out hx235_1
         try replace hx235_2 := up_ HB.out hx235_2
         try replace hx235_3 := up_ HB.out hx235_3
         have HR235_2 := a_ hi235_2
         have HC235_2 := a_ hl235_2
         clear hi235_2 hl235_2
         replace p235 := eq_true p235
         replace q235 := eq_true q235
         have p236 : 0 ≤ (x5_1 : Int) := od_
         have q236 : x5_1 < (l1.length : Int) := od_
         obtain ⟨ad236, A236_2, c236_2, e236, hx236_0, hx236_1, hx236_2, hx236_3, hl236_2, hi236_2⟩ := at_T38 HR1.out x5_1 p236 q236
         have hw236_3 := hx236_3
         have hw236_2 := hx236_2
         have hw236_1 := hx236_1
         have hw236_0 := hx236_0
         cases e236
         try replace hx236_0 := up_ HB.out hx236_0
         try replace hx236_1 := up_ HB.out hx236_1
         try replace hx236_2 := up_ HB.out hx236_2
         try replace hx236_3 := up_ HB.out hx236_3
         have HR236_2 := a_ hi236_2
         have HC236_2 := a_ hl236_2
         clear hi236_2 hl236_2
         replace p236 := eq_true p236
         replace q236 := eq_true q236
         refine start_ (n := 39) (S := fun w' => w'.cell? (ad235.add ((x5_1).toNat * 4)) = some (.bool ((rd_T38 l0 x5_1).f0)) ∧ w'.cell? ⟨(ad235.add ((x5_1).toNat * 4)).block, (ad235.add ((x5_1).toNat * 4)).off + 1, none⟩ = some (.string ((rd_T38 l0 x5_1).f1)) ∧ w'.cell? ⟨(ad235.add ((x5_1).toNat * 4)).block, (ad235.add ((x5_1).toNat * 4)).off + 2, none⟩ = some (.slice A235_2 ((rd_T38 l0 x5_1).f2).length c235_2) ∧ w'.cell? ⟨(ad235.add ((x5_1).toNat * 4)).block, (ad235.add ((x5_1).toNat * 4)).off + 3, none⟩ = some (.int .i64 ((rd_T38 l0 x5_1).f3)) ∧ w'.cell? (ad236.add ((x5_1).toNat * 4)) = some (.bool ((rd_T38 l1 x5_1).f0)) ∧ w'.cell? ⟨(ad236.add ((x5_1).toNat * 4)).block, (ad236.add ((x5_1).toNat * 4)).off + 1, none⟩ = some (.string ((rd_T38 l1 x5_1).f1)) ∧ w'.cell? ⟨(ad236.add ((x5_1).toNat * 4)).block, (ad236.add ((x5_1).toNat * 4)).off + 2, none⟩ = some (.slice A236_2 ((rd_T38 l1 x5_1).f2).length c236_2) ∧ w'.cell? ⟨(ad236.add ((x5_1).toNat * 4)).block, (ad236.add ((x5_1).toNat * 4)).off + 3, none⟩ = some (.int .i64 ((rd_T38 l1 x5_1).f3))) (ds := []) #[false, false, false, false, false, false, false, false, false, false, false, false, false, false, false, false, false, false, false, false, false, false, false, false, false, false, false, false, false, false, false, false, false, false, false, false, false, false, false] (by kernel_rfl) rfl rfl ⟨(up_ HB.out hw235_0), (up_ HB.out hw235_1), (up_ HB.out hw235_2), (up_ HB.out hw235_3), (up_ HB.out hw236_0), (up_ HB.out hw236_1), (up_ HB.out hw236_2), (up_ HB.out hw236_3)⟩ (fun hHeld => ?_); refine with_tabW variorumref06_Same.tab6 variorumref06_Same.bits6 (fun HT_ HW_ => ?_)
         generalize wr.drew = w9 at HB HR235_2 HR236_2 hx235_0 hx235_1 hx235_2 hx235_3 hx236_0 hx236_1 hx236_2 hx236_3 hHeld ⊢
         refine pure_ (i := 0) (N := some 18) #[true, false, false, false, false, false, false, false, false, false, false, false, false, false, false, false, false, false, false, false, false, false, false, false, false, false, false, false, false, false, false, false, false, false, false, false, false, false, false] rfl rfl (any_of HT_.out (by kernel_rfl)) (fun _ _ _ h => h) (Or.inl ⟨by rfl, fun w' => by go_simp; with_reducible rfl⟩) (by simp only [Act.put, List.setIfInBounds_toArray, List.set_cons_zero, List.set_cons_succ, i64_w, i32_w]; rfl) ?_
         refine pure_ (i := 1) (N := some 19) #[true, true, false, false, false, false, false, false, false, false, false, false, false, false, false, false, false, false, false, false, false, false, false, false, false, false, false, false, false, false, false, false, false, false, false, false, false, false, false] rfl rfl (any_of HT_.out (by kernel_rfl)) (fun _ _ _ h => h) (Or.inl ⟨by rfl, fun w' => by go_simp; with_reducible rfl⟩) (by simp only [Act.put, List.setIfInBounds_toArray, List.set_cons_zero, List.set_cons_succ, i64_w, i32_w]; rfl) ?_
         refine pure_ (i := 2) (N := some 20) #[true, true, true, false, false, false, false, false, false, false, false, false, false, false, false, false, false, false, false, false, false, false, false, false, false, false, false, false, false, false, false, false, false, false, false, false, false, false, false] rfl rfl (any_of HT_.out (by kernel_rfl)) (fun _ _ _ h => h) (Or.inl ⟨by rfl, fun w' => by go_simp; with_reducible rfl⟩) (by simp only [Act.put, List.setIfInBounds_toArray, List.set_cons_zero, List.set_cons_succ, i64_w, i32_w]; rfl) ?_
         refine pure_ (i := 3) (N := some 21) #[true, true, true, true, false, false, false, false, false, false, false, false, false, false, false, false, false, false, false, false, false, false, false, false, false, false, false, false, false, false, false, false, false, false, false, false, false, false, false] rfl rfl (any_of HT_.out (by kernel_rfl)) (fun _ _ _ h => h) (Or.inl ⟨by rfl, fun w' => by go_simp; with_reducible rfl⟩) (by simp only [Act.put, List.setIfInBounds_toArray, List.set_cons_zero, List.set_cons_succ, i64_w, i32_w]; rfl) ?_
         refine pure_ (i := 5) (N := some 23) #[true, true, true, true, false, true, false, false, false, false, false, false, false, false, false, false, false, false, false, false, false, false, false, false, false, false, false, false, false, false, false, false, false, false, false, false, false, false, false] rfl rfl (any_of HT_.out (by kernel_rfl)) (fun _ _ _ h => h) (Or.inl ⟨by rfl, fun w' => by go_simp; with_reducible rfl⟩) (by simp only [Act.put, List.setIfInBounds_toArray, List.set_cons_zero, List.set_cons_succ, i64_w, i32_w]; rfl) ?_
         refine pure_ (i := 6) (N := some 24) #[true, true, true, true, false, true, true, false, false, false, false, false, false, false, false, false, false, false, false, false, false, false, false, false, false, false, false, false, false, false, false, false, false, false, false, false, false, false, false] rfl rfl (any_of HT_.out (by kernel_rfl)) (fun _ _ _ h => h) (Or.inl ⟨by rfl, fun w' => by go_simp; with_reducible rfl⟩) (by simp only [Act.put, List.setIfInBounds_toArray, List.set_cons_zero, List.set_cons_succ, i64_w, i32_w]; rfl) ?_
         refine pure_ (i := 7) (N := some 25) #[true, true, true, true, false, true, true, true, false, false, false, false, false, false, false, false, false, false, false, false, false, false, false, false, false, false, false, false, false, false, false, false, false, false, false, false, false, false, false] rfl rfl (any_of HT_.out (by kernel_rfl)) (fun _ _ _ h => h) (Or.inl ⟨by rfl, fun w' => by go_simp; with_reducible rfl⟩) (by simp only [Act.put, List.setIfInBounds_toArray, List.set_cons_zero, List.set_cons_succ, i64_w, i32_w]; rfl) ?_
         refine pure_ (i := 8) (N := some 26) #[true, true, true, true, false, true, true, true, true, false, false, false, false, false, false, false, false, false, false, false, false, false, false, false, false, false, false, false, false, false, false, false, false, false, false, false, false, false, false] rfl rfl (any_of HT_.out (by kernel_rfl)) (fun _ _ _ h => h) (Or.inl ⟨by rfl, fun w' => by go_simp; with_reducible rfl⟩) (by simp only [Act.put, List.setIfInBounds_toArray, List.set_cons_zero, List.set_cons_succ, i64_w, i32_w]; rfl) ?_
         refine take_ (i := 4) (N := some 22) (v := ?_) (a' := ?_) #[true, true, true, true, true, true, true, true, true, false, false, false, false, false, false, false, false, false, false, false, false, false, false, false, false, false, false, false, false, false, false, false, false, false, false, false, false, false, false] rfl rfl (take_ofW HT_.out HW_.out (by kernel_rfl)) (fun _ _ _ h => h) (Or.inl ⟨by rfl, ?_⟩) hHeld ?_ ?_
         rotate_left
         ·rintro w' ⟨s0, s1, s2, s3, s4, s5, s6, s7⟩
          go_simp
          with_reducible rfl
         rotate_left
         ·simp only [Act.put, List.setIfInBounds_toArray, List.set_cons_zero, List.set_cons_succ, i64_w, i32_w]
          rfl
         refine take_ (i := 9) (N := some 27) (v := ?_) (a' := ?_) #[true, true, true, true, true, true, true, true, true, true, false, false, false, false, false, false, false, false, false, false, false, false, false, false, false, false, false, false, false, false, false, false, false, false, false, false, false, false, false] rfl rfl (take_ofW HT_.out HW_.out (by kernel_rfl)) (fun _ _ _ h => h) (Or.inl ⟨by rfl, ?_⟩) hHeld ?_ ?_
         rotate_left
         ·rintro w' ⟨s0, s1, s2, s3, s4, s5, s6, s7⟩
          go_simp
          with_reducible rfl
         rotate_left
         ·simp only [Act.put, List.setIfInBounds_toArray, List.set_cons_zero, List.set_cons_succ, i64_w, i32_w]
          rfl
         refine pure_ (i := 10) (N := some 28) #[true, true, true, true, true, true, true, true, true, true, true, false, false, false, false, false, false, false, false, false, false, false, false, false, false, false, false, false, false, false, false, false, false, false, false, false, false, false, false] rfl rfl (any_of HT_.out (by kernel_rfl)) (fun _ _ _ h => h) (Or.inl ⟨by rfl, fun w' => by go_simp; with_reducible rfl⟩) (by simp only [Act.put, List.setIfInBounds_toArray, List.set_cons_zero, List.set_cons_succ, i64_w, i32_w]; rfl) ?_
         refine pure_ (i := 11) (N := some 29) #[true, true, true, true, true, true, true, true, true, true, true, true, false, false, false, false, false, false, false, false, false, false, false, false, false, false, false, false, false, false, false, false, false, false, false, false, false, false, false] rfl rfl (any_of HT_.out (by kernel_rfl)) (fun _ _ _ h => h) (Or.inl ⟨by rfl, fun w' => by go_simp; with_reducible rfl⟩) (by simp only [Act.put, List.setIfInBounds_toArray, List.set_cons_zero, List.set_cons_succ, i64_w, i32_w]; rfl) ?_
         refine pure_ (i := 12) (N := some 30) (v := undef) (a' := ?_) #[true, true, true, true, true, true, true, true, true, true, true, true, true, false, false, false, false, false, false, false, false, false, false, false, false, false, false, false, false, false, false, false, false, false, false, false, false, false, false] rfl rfl (any_of HT_.out (by kernel_rfl)) (fun _ _ _ h => h) (Or.inr ⟨by rfl, rfl⟩) ?_ ?_
         rotate_left
         ·simp only [Act.put, List.setIfInBounds_toArray, List.set_cons_zero, List.set_cons_succ, i64_w, i32_w]
          rfl
         refine pure_ (i := 13) (N := some 31) (v := undef) (a' := ?_) #[true, true, true, true, true, true, true, true, true, true, true, true, true, true, false, false, false, false, false, false, false, false, false, false, false, false, false, false, false, false, false, false, false, false, false, false, false, false, false] rfl rfl (any_of HT_.out (by kernel_rfl)) (fun _ _ _ h => h) (Or.inr ⟨by rfl, rfl⟩) ?_ ?_
         rotate_left
         ·simp only [Act.put, List.setIfInBounds_toArray, List.set_cons_zero, List.set_cons_succ, i64_w, i32_w]
          rfl
         refine pure_ (i := 14) (N := some 32) (v := undef) (a' := ?_) #[true, true, true, true, true, true, true, true, true, true, true, true, true, true, true, false, false, false, false, false, false, false, false, false, false, false, false, false, false, false, false, false, false, false, false, false, false, false, false] rfl rfl (any_of HT_.out (by kernel_rfl)) (fun _ _ _ h => h) (Or.inr ⟨by rfl, rfl⟩) ?_ ?_
         rotate_left
         ·simp only [Act.put, List.setIfInBounds_toArray, List.set_cons_zero, List.set_cons_succ, i64_w, i32_w]
          rfl
         refine pure_ (i := 15) (N := some 33) (v := undef) (a' := ?_) #[true, true, true, true, true, true, true, true, true, true, true, true, true, true, true, true, false, false, false, false, false, false, false, false, false, false, false, false, false, false, false, false, false, false, false, false, false, false, false] rfl rfl (any_of HT_.out (by kernel_rfl)) (fun _ _ _ h => h) (Or.inr ⟨by rfl, rfl⟩) ?_ ?_
         rotate_left
         ·simp only [Act.put, List.setIfInBounds_toArray, List.set_cons_zero, List.set_cons_succ, i64_w, i32_w]
          rfl
         refine pure_ (i := 16) (N := some 34) (v := undef) (a' := ?_) #[true, true, true, true, true, true, true, true, true, true, true, true, true, true, true, true, true, false, false, false, false, false, false, false, false, false, false, false, false, false, false, false, false, false, false, false, false, false, false] rfl rfl (any_of HT_.out (by kernel_rfl)) (fun _ _ _ h => h) (Or.inr ⟨by rfl, rfl⟩) ?_ ?_
         rotate_left
         ·simp only [Act.put, List.setIfInBounds_toArray, List.set_cons_zero, List.set_cons_succ, i64_w, i32_w]
          rfl
         refine pure_ (i := 17) (N := some 35) (v := undef) (a' := ?_) #[true, true, true, true, true, true, true, true, true, true, true, true, true, true, true, true, true, true, false, false, false, false, false, false, false, false, false, false, false, false, false, false, false, false, false, false, false, false, false] rfl rfl (any_of HT_.out (by kernel_rfl)) (fun _ _ _ h => h) (Or.inr ⟨by rfl, rfl⟩) ?_ ?_
         rotate_left
         ·simp only [Act.put, List.setIfInBounds_toArray, List.set_cons_zero, List.set_cons_succ, i64_w, i32_w]
          rfl
         refine pure_ (i := 18) (N := some 36) (v := undef) (a' := ?_) #[true, true, true, true, true, true, true, true, true, true, true, true, true, true, true, true, true, true, true, false, false, false, false, false, false, false, false, false, false, false, false, false, false, false, false, false, false, false, false] rfl rfl (any_of HT_.out (by kernel_rfl)) (fun _ _ _ h => h) (Or.inr ⟨by rfl, rfl⟩) ?_ ?_
         rotate_left
         ·simp only [Act.put, List.setIfInBounds_toArray, List.set_cons_zero, List.set_cons_succ, i64_w, i32_w]
          rfl
         refine pure_ (i := 19) (N := some 37) (v := undef) (a' := ?_) #[true, true, true, true, true, true, true, true, true, true, true, true, true, true, true, true, true, true, true, true, false, false, false, false, false, false, false, false, false, false, false, false, false, false, false, false, false, false, false] rfl rfl (any_of HT_.out (by kernel_rfl)) (fun _ _ _ h => h) (Or.inr ⟨by rfl, rfl⟩) ?_ ?_
         rotate_left
         ·simp only [Act.put, List.setIfInBounds_toArray, List.set_cons_zero, List.set_cons_succ, i64_w, i32_w]
          rfl
         refine pure_ (i := 20) (N := some 38) (v := undef) (a' := ?_) #[true, true, true, true, true, true, true, true, true, true, true, true, true, true, true, true, true, true, true, true, true, false, false, false, false, false, false, false, false, false, false, false, false, false, false, false, false, false, false] rfl rfl (any_of HT_.out (by kernel_rfl)) (fun _ _ _ h => h) (Or.inr ⟨by rfl, rfl⟩) ?_ ?_
         rotate_left
         ·simp only [Act.put, List.setIfInBounds_toArray, List.set_cons_zero, List.set_cons_succ, i64_w, i32_w]
          rfl
         refine pure_ (i := 21) (N := some 39) (v := undef) (a' := ?_) #[true, true, true, true, true, true, true, true, true, true, true, true, true, true, true, true, true, true, true, true, true, true, false, false, false, false, false, false, false, false, false, false, false, false, false, false, false, false, false] rfl rfl (any_of HT_.out (by kernel_rfl)) (fun _ _ _ h => h) (Or.inr ⟨by rfl, rfl⟩) ?_ ?_
         rotate_left
         ·simp only [Act.put, List.setIfInBounds_toArray, List.set_cons_zero, List.set_cons_succ, i64_w, i32_w]
          rfl
         refine pure_ (i := 22) (N := some 40) (v := undef) (a' := ?_) #[true, true, true, true, true, true, true, true, true, true, true, true, true, true, true, true, true, true, true, true, true, true, true, false, false, false, false, false, false, false, false, false, false, false, false, false, false, false, false] rfl rfl (any_of HT_.out (by kernel_rfl)) (fun _ _ _ h => h) (Or.inr ⟨by rfl, rfl⟩) ?_ ?_
         rotate_left
         ·simp only [Act.put, List.setIfInBounds_toArray, List.set_cons_zero, List.set_cons_succ, i64_w, i32_w]
          rfl
         refine pure_ (i := 23) (N := some 41) #[true, true, true, true, true, true, true, true, true, true, true, true, true, true, true, true, true, true, true, true, true, true, true, true, false, false, false, false, false, false, false, false, false, false, false, false, false, false, false] rfl rfl (any_of HT_.out (by kernel_rfl)) (fun _ _ _ h => h) (Or.inl ⟨by rfl, fun w' => by go_simp; with_reducible rfl⟩) (by simp only [Act.put, List.setIfInBounds_toArray, List.set_cons_zero, List.set_cons_succ, i64_w, i32_w]; rfl) ?_
         refine pure_ (i := 24) (N := some 42) #[true, true, true, true, true, true, true, true, true, true, true, true, true, true, true, true, true, true, true, true, true, true, true, true, true, false, false, false, false, false, false, false, false, false, false, false, false, false, false] rfl rfl (any_of HT_.out (by kernel_rfl)) (fun _ _ _ h => h) (Or.inl ⟨by rfl, fun w' => by go_simp; with_reducible rfl⟩) (by simp only [Act.put, List.setIfInBounds_toArray, List.set_cons_zero, List.set_cons_succ, i64_w, i32_w]; rfl) ?_
         refine pure_ (i := 25) (N := some 43) (v := undef) (a' := ?_) #[true, true, true, true, true, true, true, true, true, true, true, true, true, true, true, true, true, true, true, true, true, true, true, true, true, true, false, false, false, false, false, false, false, false, false, false, false, false, false] rfl rfl (any_of HT_.out (by kernel_rfl)) (fun _ _ _ h => h) (Or.inr ⟨by rfl, rfl⟩) ?_ ?_
         rotate_left
         ·simp only [Act.put, List.setIfInBounds_toArray, List.set_cons_zero, List.set_cons_succ, i64_w, i32_w]
          rfl
         refine pure_ (i := 26) (N := some 44) (v := undef) (a' := ?_) #[true, true, true, true, true, true, true, true, true, true, true, true, true, true, true, true, true, true, true, true, true, true, true, true, true, true, true, false, false, false, false, false, false, false, false, false, false, false, false] rfl rfl (any_of HT_.out (by kernel_rfl)) (fun _ _ _ h => h) (Or.inr ⟨by rfl, rfl⟩) ?_ ?_
         rotate_left
         ·simp only [Act.put, List.setIfInBounds_toArray, List.set_cons_zero, List.set_cons_succ, i64_w, i32_w]
          rfl
         refine pure_ (i := 27) (N := some 45) (v := undef) (a' := ?_) #[true, true, true, true, true, true, true, true, true, true, true, true, true, true, true, true, true, true, true, true, true, true, true, true, true, true, true, true, false, false, false, false, false, false, false, false, false, false, false] rfl rfl (any_of HT_.out (by kernel_rfl)) (fun _ _ _ h => h) (Or.inr ⟨by rfl, rfl⟩) ?_ ?_
         rotate_left
         ·simp only [Act.put, List.setIfInBounds_toArray, List.set_cons_zero, List.set_cons_succ, i64_w, i32_w]
          rfl
         refine pure_ (i := 28) (N := some 46) (v := undef) (a' := ?_) #[true, true, true, true, true, true, true, true, true, true, true, true, true, true, true, true, true, true, true, true, true, true, true, true, true, true, true, true, true, false, false, false, false, false, false, false, false, false, false] rfl rfl (any_of HT_.out (by kernel_rfl)) (fun _ _ _ h => h) (Or.inr ⟨by rfl, rfl⟩) ?_ ?_
         rotate_left
         ·simp only [Act.put, List.setIfInBounds_toArray, List.set_cons_zero, List.set_cons_succ, i64_w, i32_w]
          rfl
         refine pure_ (i := 29) (N := some 47) (v := undef) (a' := ?_) #[true, true, true, true, true, true, true, true, true, true, true, true, true, true, true, true, true, true, true, true, true, true, true, true, true, true, true, true, true, true, false, false, false, false, false, false, false, false, false] rfl rfl (any_of HT_.out (by kernel_rfl)) (fun _ _ _ h => h) (Or.inr ⟨by rfl, rfl⟩) ?_ ?_
         rotate_left
         ·simp only [Act.put, List.setIfInBounds_toArray, List.set_cons_zero, List.set_cons_succ, i64_w, i32_w]
          rfl
         refine pure_ (i := 30) (N := some 48) (v := undef) (a' := ?_) #[true, true, true, true, true, true, true, true, true, true, true, true, true, true, true, true, true, true, true, true, true, true, true, true, true, true, true, true, true, true, true, false, false, false, false, false, false, false, false] rfl rfl (any_of HT_.out (by kernel_rfl)) (fun _ _ _ h => h) (Or.inr ⟨by rfl, rfl⟩) ?_ ?_
         rotate_left
         ·simp only [Act.put, List.setIfInBounds_toArray, List.set_cons_zero, List.set_cons_succ, i64_w, i32_w]
          rfl
         refine pure_ (i := 31) (N := some 49) (v := undef) (a' := ?_) #[true, true, true, true, true, true, true, true, true, true, true, true, true, true, true, true, true, true, true, true, true, true, true, true, true, true, true, true, true, true, true, true, false, false, false, false, false, false, false] rfl rfl (any_of HT_.out (by kernel_rfl)) (fun _ _ _ h => h) (Or.inr ⟨by rfl, rfl⟩) ?_ ?_
         rotate_left
         ·simp only [Act.put, List.setIfInBounds_toArray, List.set_cons_zero, List.set_cons_succ, i64_w, i32_w]
          rfl
         refine pure_ (i := 32) (N := some 50) (v := undef) (a' := ?_) #[true, true, true, true, true, true, true, true, true, true, true, true, true, true, true, true, true, true, true, true, true, true, true, true, true, true, true, true, true, true, true, true, true, false, false, false, false, false, false] rfl rfl (any_of HT_.out (by kernel_rfl)) (fun _ _ _ h => h) (Or.inr ⟨by rfl, rfl⟩) ?_ ?_
         rotate_left
         ·simp only [Act.put, List.setIfInBounds_toArray, List.set_cons_zero, List.set_cons_succ, i64_w, i32_w]
          rfl
         refine pure_ (i := 33) (N := some 51) (v := undef) (a' := ?_) #[true, true, true, true, true, true, true, true, true, true, true, true, true, true, true, true, true, true, true, true, true, true, true, true, true, true, true, true, true, true, true, true, true, true, false, false, false, false, false] rfl rfl (any_of HT_.out (by kernel_rfl)) (fun _ _ _ h => h) (Or.inr ⟨by rfl, rfl⟩) ?_ ?_
         rotate_left
         ·simp only [Act.put, List.setIfInBounds_toArray, List.set_cons_zero, List.set_cons_succ, i64_w, i32_w]
          rfl
         refine pure_ (i := 34) (N := some 52) (v := undef) (a' := ?_) #[true, true, true, true, true, true, true, true, true, true, true, true, true, true, true, true, true, true, true, true, true, true, true, true, true, true, true, true, true, true, true, true, true, true, true, false, false, false, false] rfl rfl (any_of HT_.out (by kernel_rfl)) (fun _ _ _ h => h) (Or.inr ⟨by rfl, rfl⟩) ?_ ?_
         rotate_left
         ·simp only [Act.put, List.setIfInBounds_toArray, List.set_cons_zero, List.set_cons_succ, i64_w, i32_w]
          rfl
         refine pure_ (i := 35) (N := some 53) (v := undef) (a' := ?_) #[true, true, true, true, true, true, true, true, true, true, true, true, true, true, true, true, true, true, true, true, true, true, true, true, true, true, true, true, true, true, true, true, true, true, true, true, false, false, false] rfl rfl (any_of HT_.out (by kernel_rfl)) (fun _ _ _ h => h) (Or.inr ⟨by rfl, rfl⟩) ?_ ?_
         rotate_left
         ·simp only [Act.put, List.setIfInBounds_toArray, List.set_cons_zero, List.set_cons_succ, i64_w, i32_w]
          rfl
         refine pure_ (i := 36) (N := some 54) (v := undef) (a' := ?_) #[true, true, true, true, true, true, true, true, true, true, true, true, true, true, true, true, true, true, true, true, true, true, true, true, true, true, true, true, true, true, true, true, true, true, true, true, true, false, false] rfl rfl (any_of HT_.out (by kernel_rfl)) (fun _ _ _ h => h) (Or.inr ⟨by rfl, rfl⟩) ?_ ?_
         rotate_left
         ·simp only [Act.put, List.setIfInBounds_toArray, List.set_cons_zero, List.set_cons_succ, i64_w, i32_w]
          rfl
         refine pure_ (i := 37) (N := some 55) (v := undef) (a' := ?_) #[true, true, true, true, true, true, true, true, true, true, true, true, true, true, true, true, true, true, true, true, true, true, true, true, true, true, true, true, true, true, true, true, true, true, true, true, true, true, false] rfl rfl (any_of HT_.out (by kernel_rfl)) (fun _ _ _ h => h) (Or.inr ⟨by rfl, rfl⟩) ?_ ?_
         rotate_left
         ·simp only [Act.put, List.setIfInBounds_toArray, List.set_cons_zero, List.set_cons_succ, i64_w, i32_w]
          rfl
         refine pure_ (i := 38) (N := some 56) #[true, true, true, true, true, true, true, true, true, true, true, true, true, true, true, true, true, true, true, true, true, true, true, true, true, true, true, true, true, true, true, true, true, true, true, true, true, true, true] rfl rfl (any_of HT_.out (by kernel_rfl)) (fun _ _ _ h => h) (Or.inl ⟨by rfl, fun w' => by go_simp; with_reducible rfl⟩) (by simp only [Act.put, List.setIfInBounds_toArray, List.set_cons_zero, List.set_cons_succ, i64_w, i32_w]; rfl) ?_
         refine done_ (done_of HT_.out (by kernel_rfl)) ?_
         try go_wp2
         go_meet
         case rel => exact ⟨_, (true), (by first | rfl | (simp; done) | (simp [*]; done)), H', ⟨by have := HK1.out; first | omega | exact Nat.le_refl _⟩, ⟨bv_ HB.out⟩⟩
        ·rw [if_neg c8] at H
         have c8b0 : (((rd_T38 l0 x5_1).f0) != ((rd_T38 l1 x5_1).f0)) = false := by simpa using c8
         (try (have c8b1 : decide (((rd_T38 l0 x5_1).f0) = ((rd_T38 l1 x5_1).f0)) = true := by simpa using c8))
         (try (have c8b2 : (((rd_T38 l0 x5_1).f0) == ((rd_T38 l1 x5_1).f0)) = true := by simpa using c8))
         clear c8
         by_cases c10 : ((rd_T38 l0 x5_1).f1).toList = ((rd_T38 l1 x5_1).f1).toList
         ·rw [if_pos c10] at H
          have c10b0 : (((rd_T38 l0 x5_1).f1).toList == ((rd_T38 l1 x5_1).f1).toList) = true := beq_iff_eq.mpr c10
          have c10b1 : (((rd_T38 l0 x5_1).f1).toList != ((rd_T38 l1 x5_1).f1).toList) = false := bne_eq_false_iff_eq.mpr c10
          clear c10
          have H' := a_ H
          clear H
          try go_wp2
          have n0_ := a_ (below_drew1 HB.out)
          clear HB
          have HB := n0_
          clear n0_
          have p235 : 0 ≤ (x5_1 : Int) := od_
          have q235 : x5_1 < (l0.length : Int) := od_
          obtain ⟨ad235, A235_2, c235_2, e235, hx235_0, hx235_1, hx235_2, hx235_3, hl235_2, hi235_2⟩ := at_T38 HR0.out x5_1 p235 q235
          have hw235_3 := hx235_3
          have hw235_2 := hx235_2
          have hw235_1 := hx235_1
          have hw235_0 := hx235_0
          cases e235
          try replace hx235_0 := up_ HB.out hx235_0
          try replace hx235_1 := up_ HB.out hx235_1
          try replace hx235_2 := up_ HB.out hx235_2
          try replace hx235_3 := up_ HB.out hx235_3
          have HR235_2 := a_ hi235_2
          have HC235_2 := a_ hl235_2
          clear hi235_2 hl235_2
          replace p235 := eq_true p235
          replace q235 := eq_true q235
          have p236 : 0 ≤ (x5_1 : Int) := od_
          have q236 : x5_1 < (l1.length : Int) := od_
          obtain ⟨ad236, A236_2, c236_2, e236, hx236_0, hx236_1, hx236_2, hx236_3, hl236_2, hi236_2⟩ := at_T38 HR1.out x5_1 p236 q236
          have hw236_3 := hx236_3
          have hw236_2 := hx236_2
          have hw236_1 := hx236_1
          have hw236_0 := hx236_0
          cases e236
          try replace hx236_0 := up_ HB.out hx236_0
          try replace hx236_1 := up_ HB.out hx236_1
          try replace hx236_2 := up_ HB.out hx236_2
          try replace hx236_3 := up_ HB.out hx236_3
          have HR236_2 := a_ hi236_2
          have HC236_2 := a_ hl236_2
          clear hi236_2 hl236_2
          replace p236 := eq_true p236
          replace q236 := eq_true q236
          have p237 : 0 ≤ (x5_1 : Int) := od_
          have q237 : x5_1 < (l0.length : Int) := od_
          obtain ⟨ad237, A237_2, c237_2, e237, hx237_0, hx237_1, hx237_2, hx237_3, hl237_2, hi237_2⟩ := at_T38 HR0.out x5_1 p237 q237
          have hw237_3 := hx237_3
          have hw237_2 := hx237_2
          have hw237_1 := hx237_1
          have hw237_0 := hx237_0
          obtain rfl : ad235 = ad237 := (by injection e237)
          try replace hx237_0 := up_ HB.out hx237_0
          try replace hx237_1 := up_ HB.out hx237_1
          try replace hx237_2 := up_ HB.out hx237_2
          try replace hx237_3 := up_ HB.out hx237_3
          have HR237_2 := a_ hi237_2
          have HC237_2 := a_ hl237_2
          clear hi237_2 hl237_2
          replace p237 := eq_true p237
          replace q237 := eq_true q237
          have ea_ := Option.some.inj (hx235_2.symm.trans hx237_2)
          injection ea_ with ea_ en_ ec_
          subst ea_
          subst ec_
          clear en_
          have p238 : 0 ≤ (x5_1 : Int) := od_
          have q238 : x5_1 < (l1.length : Int) := od_
          obtain ⟨ad238, A238_2, c238_2, e238, hx238_0, hx238_1, hx238_2, hx238_3, hl238_2, hi238_2⟩ := at_T38 HR1.out x5_1 p238 q238
          have hw238_3 := hx238_3
          have hw238_2 := hx238_2
          have hw238_1 := hx238_1
          have hw238_0 := hx238_0
          obtain rfl : ad236 = ad238 := (by injection e238)
          try replace hx238_0 := up_ HB.out hx238_0
          try replace hx238_1 := up_ HB.out hx238_1
          try replace hx238_2 := up_ HB.out hx238_2
          try replace hx238_3 := up_ HB.out hx238_3
          have HR238_2 := a_ hi238_2
          have HC238_2 := a_ hl238_2
          clear hi238_2 hl238_2
          replace p238 := eq_true p238
          replace q238 := eq_true q238
          have ea_ := Option.some.inj (hx236_2.symm.trans hx238_2)
          injection ea_ with ea_ en_ ec_
          subst ea_
          subst ec_
          clear en_
          have p239 : 0 ≤ (x5_1 : Int) := od_
          have q239 : x5_1 < (l0.length : Int) := od_
          obtain ⟨ad239, A239_2, c239_2, e239, hx239_0, hx239_1, hx239_2, hx239_3, hl239_2, hi239_2⟩ := at_T38 HR0.out x5_1 p239 q239
          have hw239_3 := hx239_3
          have hw239_2 := hx239_2
          have hw239_1 := hx239_1
          have hw239_0 := hx239_0
          obtain rfl : ad235 = ad239 := (by injection e239)
          try replace hx239_0 := up_ HB.out hx239_0
          try replace hx239_1 := up_ HB.out hx239_1
          try replace hx239_2 := up_ HB.out hx239_2
          try replace hx239_3 := up_ HB.out hx239_3
          have HR239_2 := a_ hi239_2
          have HC239_2 := a_ hl239_2
          clear hi239_2 hl239_2
          replace p239 := eq_true p239
          replace q239 := eq_true q239
          have ea_ := Option.some.inj (hx235_2.symm.trans hx239_2)
          injection ea_ with ea_ en_ ec_
          subst ea_
          subst ec_
          clear en_
          have p240 : 0 ≤ (x5_1 : Int) := od_
          have q240 : x5_1 < (l1.length : Int) := od_
          obtain ⟨ad240, A240_2, c240_2, e240, hx240_0, hx240_1, hx240_2, hx240_3, hl240_2, hi240_2⟩ := at_T38 HR1.out x5_1 p240 q240
          have hw240_3 := hx240_3
          have hw240_2 := hx240_2
          have hw240_1 := hx240_1
          have hw240_0 := hx240_0
          obtain rfl : ad236 = ad240 := (by injection e240)
          try replace hx240_0 := up_ HB.out hx240_0
          try replace hx240_1 := up_ HB.out hx240_1
          try replace hx240_2 := up_ HB.out hx240_2
          try replace hx240_3 := up_ HB.out hx240_3
          have HR240_2 := a_ hi240_2
          have HC240_2 := a_ hl240_2
          clear hi240_2 hl240_2
          replace p240 := eq_true p240
          replace q240 := eq_true q240
          have ea_ := Option.some.inj (hx236_2.symm.trans hx240_2)
          injection ea_ with ea_ en_ ec_
          subst ea_
          subst ec_
          clear en_
          refine start_ (n := 39) (S := fun w' => w'.cell? (ad235.add ((x5_1).toNat * 4)) = some (.bool ((rd_T38 l0 x5_1).f0)) ∧ w'.cell? ⟨(ad235.add ((x5_1).toNat * 4)).block, (ad235.add ((x5_1).toNat * 4)).off + 1, none⟩ = some (.string ((rd_T38 l0 x5_1).f1)) ∧ w'.cell? ⟨(ad235.add ((x5_1).toNat * 4)).block, (ad235.add ((x5_1).toNat * 4)).off + 2, none⟩ = some (.slice A235_2 ((rd_T38 l0 x5_1).f2).length c235_2) ∧ w'.cell? ⟨(ad235.add ((x5_1).toNat * 4)).block, (ad235.add ((x5_1).toNat * 4)).off + 3, none⟩ = some (.int .i64 ((rd_T38 l0 x5_1).f3)) ∧ w'.cell? (ad236.add ((x5_1).toNat * 4)) = some (.bool ((rd_T38 l1 x5_1).f0)) ∧ w'.cell? ⟨(ad236.add ((x5_1).toNat * 4)).block, (ad236.add ((x5_1).toNat * 4)).off + 1, none⟩ = some (.string ((rd_T38 l1 x5_1).f1)) ∧ w'.cell? ⟨(ad236.add ((x5_1).toNat * 4)).block, (ad236.add ((x5_1).toNat * 4)).off + 2, none⟩ = some (.slice A236_2 ((rd_T38 l1 x5_1).f2).length c236_2) ∧ w'.cell? ⟨(ad236.add ((x5_1).toNat * 4)).block, (ad236.add ((x5_1).toNat * 4)).off + 3, none⟩ = some (.int .i64 ((rd_T38 l1 x5_1).f3)) ∧ w'.cell? (ad235.add ((x5_1).toNat * 4)) = some (.bool ((rd_T38 l0 x5_1).f0)) ∧ w'.cell? ⟨(ad235.add ((x5_1).toNat * 4)).block, (ad235.add ((x5_1).toNat * 4)).off + 1, none⟩ = some (.string ((rd_T38 l0 x5_1).f1)) ∧ w'.cell? ⟨(ad235.add ((x5_1).toNat * 4)).block, (ad235.add ((x5_1).toNat * 4)).off + 2, none⟩ = some (.slice A235_2 ((rd_T38 l0 x5_1).f2).length c235_2) ∧ w'.cell? ⟨(ad235.add ((x5_1).toNat * 4)).block, (ad235.add ((x5_1).toNat * 4)).off + 3, none⟩ = some (.int .i64 ((rd_T38 l0 x5_1).f3)) ∧ w'.cell? (ad236.add ((x5_1).toNat * 4)) = some (.bool ((rd_T38 l1 x5_1).f0)) ∧ w'.cell? ⟨(ad236.add ((x5_1).toNat * 4)).block, (ad236.add ((x5_1).toNat * 4)).off + 1, none⟩ = some (.string ((rd_T38 l1 x5_1).f1)) ∧ w'.cell? ⟨(ad236.add ((x5_1).toNat * 4)).block, (ad236.add ((x5_1).toNat * 4)).off + 2, none⟩ = some (.slice A236_2 ((rd_T38 l1 x5_1).f2).length c236_2) ∧ w'.cell? ⟨(ad236.add ((x5_1).toNat * 4)).block, (ad236.add ((x5_1).toNat * 4)).off + 3, none⟩ = some (.int .i64 ((rd_T38 l1 x5_1).f3)) ∧ w'.cell? (ad235.add ((x5_1).toNat * 4)) = some (.bool ((rd_T38 l0 x5_1).f0)) ∧ w'.cell? ⟨(ad235.add ((x5_1).toNat * 4)).block, (ad235.add ((x5_1).toNat * 4)).off + 1, none⟩ = some (.string ((rd_T38 l0 x5_1).f1)) ∧ w'.cell? ⟨(ad235.add ((x5_1).toNat * 4)).block, (ad235.add ((x5_1).toNat * 4)).off + 2, none⟩ = some (.slice A235_2 ((rd_T38 l0 x5_1).f2).length c235_2) ∧ w'.cell? ⟨(ad235.add ((x5_1).toNat * 4)).block, (ad235.add ((x5_1).toNat * 4)).off + 3, none⟩ = some (.int .i64 ((rd_T38 l0 x5_1).f3)) ∧ w'.cell? (ad236.add ((x5_1).toNat * 4)) = some (.bool ((rd_T38 l1 x5_1).f0)) ∧ w'.cell? ⟨(ad236.add ((x5_1).toNat * 4)).block, (ad236.add ((x5_1).toNat * 4)).off + 1, none⟩ = some (.string ((rd_T38 l1 x5_1).f1)) ∧ w'.cell? ⟨(ad236.add ((x5_1).toNat * 4)).block, (ad236.add ((x5_1).toNat * 4)).off + 2, none⟩ = some (.slice A236_2 ((rd_T38 l1 x5_1).f2).length c236_2) ∧ w'.cell? ⟨(ad236.add ((x5_1).toNat * 4)).block, (ad236.add ((x5_1).toNat * 4)).off + 3, none⟩ = some (.int .i64 ((rd_T38 l1 x5_1).f3))) (ds := []) #[false, false, false, false, false, false, false, false, false, false, false, false, false, false, false, false, false, false, false, false, false, false, false, false, false, false, false, false, false, false, false, false, false, false, false, false, false, false, false] (by kernel_rfl) rfl rfl ⟨(up_ HB.out hw235_0), (up_ HB.out hw235_1), (up_ HB.out hw235_2), (up_ HB.out hw235_3), (up_ HB.out hw236_0), (up_ HB.out hw236_1), (up_ HB.out hw236_2), (up_ HB.out hw236_3), (up_ HB.out hw237_0), (up_ HB.out hw237_1), (up_ HB.out hw237_2), (up_ HB.out hw237_3), (up_ HB.out hw238_0), (up_ HB.out hw238_1), (up_ HB.out hw238_2), (up_ HB.out hw238_3), (up_ HB.out hw239_0), (up_ HB.out hw239_1), (up_ HB.out hw239_2), (up_ HB.out hw239_3), (up_ HB.out hw240_0), (up_ HB.out hw240_1), (up_ HB.out hw240_2), (up_ HB.out hw240_3)⟩ (fun hHeld => ?_); refine with_tabW variorumref06_Same.tab6 variorumref06_Same.bits6 (fun HT_ HW_ => ?_)
          generalize wr.drew = w11 at HB HR235_2 HR236_2 HR237_2 HR238_2 HR239_2 HR240_2 hx235_0 hx235_1 hx235_2 hx235_3 hx236_0 hx236_1 hx236_2 hx236_3 hx237_0 hx237_1 hx237_2 hx237_3 hx238_0 hx238_1 hx238_2 hx238_3 hx239_0 hx239_1 hx239_2 hx239_3 hx240_0 hx240_1 hx240_2 hx240_3 hHeld ⊢
          refine pure_ (i := 0) (N := some 18) #[true, false, false, false, false, false, false, false, false, false, false, false, false, false, false, false, false, false, false, false, false, false, false, false, false, false, false, false, false, false, false, false, false, false, false, false, false, false, false] rfl rfl (any_of HT_.out (by kernel_rfl)) (fun _ _ _ h => h) (Or.inl ⟨by rfl, fun w' => by go_simp; with_reducible rfl⟩) (by simp only [Act.put, List.setIfInBounds_toArray, List.set_cons_zero, List.set_cons_succ, i64_w, i32_w]; rfl) ?_
          refine pure_ (i := 1) (N := some 19) #[true, true, false, false, false, false, false, false, false, false, false, false, false, false, false, false, false, false, false, false, false, false, false, false, false, false, false, false, false, false, false, false, false, false, false, false, false, false, false] rfl rfl (any_of HT_.out (by kernel_rfl)) (fun _ _ _ h => h) (Or.inl ⟨by rfl, fun w' => by go_simp; with_reducible rfl⟩) (by simp only [Act.put, List.setIfInBounds_toArray, List.set_cons_zero, List.set_cons_succ, i64_w, i32_w]; rfl) ?_
          refine pure_ (i := 2) (N := some 20) #[true, true, true, false, false, false, false, false, false, false, false, false, false, false, false, false, false, false, false, false, false, false, false, false, false, false, false, false, false, false, false, false, false, false, false, false, false, false, false] rfl rfl (any_of HT_.out (by kernel_rfl)) (fun _ _ _ h => h) (Or.inl ⟨by rfl, fun w' => by go_simp; with_reducible rfl⟩) (by simp only [Act.put, List.setIfInBounds_toArray, List.set_cons_zero, List.set_cons_succ, i64_w, i32_w]; rfl) ?_
          refine pure_ (i := 3) (N := some 21) #[true, true, true, true, false, false, false, false, false, false, false, false, false, false, false, false, false, false, false, false, false, false, false, false, false, false, false, false, false, false, false, false, false, false, false, false, false, false, false] rfl rfl (any_of HT_.out (by kernel_rfl)) (fun _ _ _ h => h) (Or.inl ⟨by rfl, fun w' => by go_simp; with_reducible rfl⟩) (by simp only [Act.put, List.setIfInBounds_toArray, List.set_cons_zero, List.set_cons_succ, i64_w, i32_w]; rfl) ?_
          refine pure_ (i := 5) (N := some 23) #[true, true, true, true, false, true, false, false, false, false, false, false, false, false, false, false, false, false, false, false, false, false, false, false, false, false, false, false, false, false, false, false, false, false, false, false, false, false, false] rfl rfl (any_of HT_.out (by kernel_rfl)) (fun _ _ _ h => h) (Or.inl ⟨by rfl, fun w' => by go_simp; with_reducible rfl⟩) (by simp only [Act.put, List.setIfInBounds_toArray, List.set_cons_zero, List.set_cons_succ, i64_w, i32_w]; rfl) ?_
          refine pure_ (i := 6) (N := some 24) #[true, true, true, true, false, true, true, false, false, false, false, false, false, false, false, false, false, false, false, false, false, false, false, false, false, false, false, false, false, false, false, false, false, false, false, false, false, false, false] rfl rfl (any_of HT_.out (by kernel_rfl)) (fun _ _ _ h => h) (Or.inl ⟨by rfl, fun w' => by go_simp; with_reducible rfl⟩) (by simp only [Act.put, List.setIfInBounds_toArray, List.set_cons_zero, List.set_cons_succ, i64_w, i32_w]; rfl) ?_
          refine pure_ (i := 7) (N := some 25) #[true, true, true, true, false, true, true, true, false, false, false, false, false, false, false, false, false, false, false, false, false, false, false, false, false, false, false, false, false, false, false, false, false, false, false, false, false, false, false] rfl rfl (any_of HT_.out (by kernel_rfl)) (fun _ _ _ h => h) (Or.inl ⟨by rfl, fun w' => by go_simp; with_reducible rfl⟩) (by simp only [Act.put, List.setIfInBounds_toArray, List.set_cons_zero, List.set_cons_succ, i64_w, i32_w]; rfl) ?_
          refine pure_ (i := 8) (N := some 26) #[true, true, true, true, false, true, true, true, true, false, false, false, false, false, false, false, false, false, false, false, false, false, false, false, false, false, false, false, false, false, false, false, false, false, false, false, false, false, false] rfl rfl (any_of HT_.out (by kernel_rfl)) (fun _ _ _ h => h) (Or.inl ⟨by rfl, fun w' => by go_simp; with_reducible rfl⟩) (by simp only [Act.put, List.setIfInBounds_toArray, List.set_cons_zero, List.set_cons_succ, i64_w, i32_w]; rfl) ?_
          refine take_ (i := 4) (N := some 22) (v := ?_) (a' := ?_) #[true, true, true, true, true, true, true, true, true, false, false, false, false, false, false, false, false, false, false, false, false, false, false, false, false, false, false, false, false, false, false, false, false, false, false, false, false, false, false] rfl rfl (take_ofW HT_.out HW_.out (by kernel_rfl)) (fun _ _ _ h => h) (Or.inl ⟨by rfl, ?_⟩) hHeld ?_ ?_
          rotate_left
          ·rintro w' ⟨s0, s1, s2, s3, s4, s5, s6, s7, s8, s9, s10, s11, s12, s13, s14, s15, s16, s17, s18, s19, s20, s21, s22, s23⟩
           go_simp
           with_reducible rfl
          rotate_left
          ·simp only [Act.put, List.setIfInBounds_toArray, List.set_cons_zero, List.set_cons_succ, i64_w, i32_w]
           rfl
          refine take_ (i := 9) (N := some 27) (v := ?_) (a' := ?_) #[true, true, true, true, true, true, true, true, true, true, false, false, false, false, false, false, false, false, false, false, false, false, false, false, false, false, false, false, false, false, false, false, false, false, false, false, false, false, false] rfl rfl (take_ofW HT_.out HW_.out (by kernel_rfl)) (fun _ _ _ h => h) (Or.inl ⟨by rfl, ?_⟩) hHeld ?_ ?_
          rotate_left
          ·rintro w' ⟨s0, s1, s2, s3, s4, s5, s6, s7, s8, s9, s10, s11, s12, s13, s14, s15, s16, s17, s18, s19, s20, s21, s22, s23⟩
           go_simp
           with_reducible rfl
          rotate_left
          ·simp only [Act.put, List.setIfInBounds_toArray, List.set_cons_zero, List.set_cons_succ, i64_w, i32_w]
           rfl
          refine pure_ (i := 10) (N := some 28) #[true, true, true, true, true, true, true, true, true, true, true, false, false, false, false, false, false, false, false, false, false, false, false, false, false, false, false, false, false, false, false, false, false, false, false, false, false, false, false] rfl rfl (any_of HT_.out (by kernel_rfl)) (fun _ _ _ h => h) (Or.inl ⟨by rfl, fun w' => by go_simp; with_reducible rfl⟩) (by simp only [Act.put, List.setIfInBounds_toArray, List.set_cons_zero, List.set_cons_succ, i64_w, i32_w]; rfl) ?_
          refine pure_ (i := 11) (N := some 29) #[true, true, true, true, true, true, true, true, true, true, true, true, false, false, false, false, false, false, false, false, false, false, false, false, false, false, false, false, false, false, false, false, false, false, false, false, false, false, false] rfl rfl (any_of HT_.out (by kernel_rfl)) (fun _ _ _ h => h) (Or.inl ⟨by rfl, fun w' => by go_simp; with_reducible rfl⟩) (by simp only [Act.put, List.setIfInBounds_toArray, List.set_cons_zero, List.set_cons_succ, i64_w, i32_w]; rfl) ?_
          refine pure_ (i := 12) (N := some 30) #[true, true, true, true, true, true, true, true, true, true, true, true, true, false, false, false, false, false, false, false, false, false, false, false, false, false, false, false, false, false, false, false, false, false, false, false, false, false, false] rfl rfl (any_of HT_.out (by kernel_rfl)) (fun _ _ _ h => h) (Or.inl ⟨by rfl, fun w' => by go_simp; with_reducible rfl⟩) (by simp only [Act.put, List.setIfInBounds_toArray, List.set_cons_zero, List.set_cons_succ, i64_w, i32_w]; rfl) ?_
          refine pure_ (i := 13) (N := some 31) #[true, true, true, true, true, true, true, true, true, true, true, true, true, true, false, false, false, false, false, false, false, false, false, false, false, false, false, false, false, false, false, false, false, false, false, false, false, false, false] rfl rfl (any_of HT_.out (by kernel_rfl)) (fun _ _ _ h => h) (Or.inl ⟨by rfl, fun w' => by go_simp; with_reducible rfl⟩) (by simp only [Act.put, List.setIfInBounds_toArray, List.set_cons_zero, List.set_cons_succ, i64_w, i32_w]; rfl) ?_
          refine pure_ (i := 14) (N := some 32) #[true, true, true, true, true, true, true, true, true, true, true, true, true, true, true, false, false, false, false, false, false, false, false, false, false, false, false, false, false, false, false, false, false, false, false, false, false, false, false] rfl rfl (any_of HT_.out (by kernel_rfl)) (fun _ _ _ h => h) (Or.inl ⟨by rfl, fun w' => by go_simp; with_reducible rfl⟩) (by simp only [Act.put, List.setIfInBounds_toArray, List.set_cons_zero, List.set_cons_succ, i64_w, i32_w]; rfl) ?_
          refine pure_ (i := 15) (N := some 33) #[true, true, true, true, true, true, true, true, true, true, true, true, true, true, true, true, false, false, false, false, false, false, false, false, false, false, false, false, false, false, false, false, false, false, false, false, false, false, false] rfl rfl (any_of HT_.out (by kernel_rfl)) (fun _ _ _ h => h) (Or.inl ⟨by rfl, fun w' => by go_simp; with_reducible rfl⟩) (by simp only [Act.put, List.setIfInBounds_toArray, List.set_cons_zero, List.set_cons_succ, i64_w, i32_w]; rfl) ?_
          refine pure_ (i := 17) (N := some 35) #[true, true, true, true, true, true, true, true, true, true, true, true, true, true, true, true, false, true, false, false, false, false, false, false, false, false, false, false, false, false, false, false, false, false, false, false, false, false, false] rfl rfl (any_of HT_.out (by kernel_rfl)) (fun _ _ _ h => h) (Or.inl ⟨by rfl, fun w' => by go_simp; with_reducible rfl⟩) (by simp only [Act.put, List.setIfInBounds_toArray, List.set_cons_zero, List.set_cons_succ, i64_w, i32_w]; rfl) ?_
          refine pure_ (i := 18) (N := some 36) #[true, true, true, true, true, true, true, true, true, true, true, true, true, true, true, true, false, true, true, false, false, false, false, false, false, false, false, false, false, false, false, false, false, false, false, false, false, false, false] rfl rfl (any_of HT_.out (by kernel_rfl)) (fun _ _ _ h => h) (Or.inl ⟨by rfl, fun w' => by go_simp; with_reducible rfl⟩) (by simp only [Act.put, List.setIfInBounds_toArray, List.set_cons_zero, List.set_cons_succ, i64_w, i32_w]; rfl) ?_
          refine pure_ (i := 19) (N := some 37) #[true, true, true, true, true, true, true, true, true, true, true, true, true, true, true, true, false, true, true, true, false, false, false, false, false, false, false, false, false, false, false, false, false, false, false, false, false, false, false] rfl rfl (any_of HT_.out (by kernel_rfl)) (fun _ _ _ h => h) (Or.inl ⟨by rfl, fun w' => by go_simp; with_reducible rfl⟩) (by simp only [Act.put, List.setIfInBounds_toArray, List.set_cons_zero, List.set_cons_succ, i64_w, i32_w]; rfl) ?_
          refine pure_ (i := 20) (N := some 38) #[true, true, true, true, true, true, true, true, true, true, true, true, true, true, true, true, false, true, true, true, true, false, false, false, false, false, false, false, false, false, false, false, false, false, false, false, false, false, false] rfl rfl (any_of HT_.out (by kernel_rfl)) (fun _ _ _ h => h) (Or.inl ⟨by rfl, fun w' => by go_simp; with_reducible rfl⟩) (by simp only [Act.put, List.setIfInBounds_toArray, List.set_cons_zero, List.set_cons_succ, i64_w, i32_w]; rfl) ?_
          refine take_ (i := 16) (N := some 34) (v := ?_) (a' := ?_) #[true, true, true, true, true, true, true, true, true, true, true, true, true, true, true, true, true, true, true, true, true, false, false, false, false, false, false, false, false, false, false, false, false, false, false, false, false, false, false] rfl rfl (take_ofW HT_.out HW_.out (by kernel_rfl)) (fun _ _ _ h => h) (Or.inl ⟨by rfl, ?_⟩) hHeld ?_ ?_
          rotate_left
          ·rintro w' ⟨s0, s1, s2, s3, s4, s5, s6, s7, s8, s9, s10, s11, s12, s13, s14, s15, s16, s17, s18, s19, s20, s21, s22, s23⟩
           go_simp
           with_reducible rfl
          rotate_left
          ·simp only [Act.put, List.setIfInBounds_toArray, List.set_cons_zero, List.set_cons_succ, i64_w, i32_w]
           rfl
          refine take_ (i := 21) (N := some 39) (v := ?_) (a' := ?_) #[true, true, true, true, true, true, true, true, true, true, true, true, true, true, true, true, true, true, true, true, true, true, false, false, false, false, false, false, false, false, false, false, false, false, false, false, false, false, false] rfl rfl (take_ofW HT_.out HW_.out (by kernel_rfl)) (fun _ _ _ h => h) (Or.inl ⟨by rfl, ?_⟩) hHeld ?_ ?_
          rotate_left
          ·rintro w' ⟨s0, s1, s2, s3, s4, s5, s6, s7, s8, s9, s10, s11, s12, s13, s14, s15, s16, s17, s18, s19, s20, s21, s22, s23⟩
           go_simp
           with_reducible rfl
          rotate_left
          ·simp only [Act.put, List.setIfInBounds_toArray, List.set_cons_zero, List.set_cons_succ, i64_w, i32_w]
           rfl
          refine pure_ (i := 22) (N := some 40) #[true, true, true, true, true, true, true, true, true, true, true, true, true, true, true, true, true, true, true, true, true, true, true, false, false, false, false, false, false, false, false, false, false, false, false, false, false, false, false] rfl rfl (any_of HT_.out (by kernel_rfl)) (fun _ _ _ h => h) (Or.inl ⟨by rfl, fun w' => by go_simp; with_reducible rfl⟩) (by simp only [Act.put, List.setIfInBounds_toArray, List.set_cons_zero, List.set_cons_succ, i64_w, i32_w]; rfl) ?_
          refine pure_ (i := 23) (N := some 41) #[true, true, true, true, true, true, true, true, true, true, true, true, true, true, true, true, true, true, true, true, true, true, true, true, false, false, false, false, false, false, false, false, false, false, false, false, false, false, false] rfl rfl (any_of HT_.out (by kernel_rfl)) (fun _ _ _ h => h) (Or.inl ⟨by rfl, fun w' => by go_simp; with_reducible rfl⟩) (by simp only [Act.put, List.setIfInBounds_toArray, List.set_cons_zero, List.set_cons_succ, i64_w, i32_w]; rfl) ?_
          refine pure_ (i := 24) (N := some 42) #[true, true, true, true, true, true, true, true, true, true, true, true, true, true, true, true, true, true, true, true, true, true, true, true, true, false, false, false, false, false, false, false, false, false, false, false, false, false, false] rfl rfl (any_of HT_.out (by kernel_rfl)) (fun _ _ _ h => h) (Or.inl ⟨by rfl, fun w' => by go_simp; with_reducible rfl⟩) (by simp only [Act.put, List.setIfInBounds_toArray, List.set_cons_zero, List.set_cons_succ, i64_w, i32_w]; rfl) ?_
          refine pure_ (i := 25) (N := some 43) #[true, true, true, true, true, true, true, true, true, true, true, true, true, true, true, true, true, true, true, true, true, true, true, true, true, true, false, false, false, false, false, false, false, false, false, false, false, false, false] rfl rfl (any_of HT_.out (by kernel_rfl)) (fun _ _ _ h => h) (Or.inl ⟨by rfl, fun w' => by go_simp; with_reducible rfl⟩) (by simp only [Act.put, List.setIfInBounds_toArray, List.set_cons_zero, List.set_cons_succ, i64_w, i32_w]; rfl) ?_
          refine pure_ (i := 26) (N := some 44) #[true, true, true, true, true, true, true, true, true, true, true, true, true, true, true, true, true, true, true, true, true, true, true, true, true, true, true, false, false, false, false, false, false, false, false, false, false, false, false] rfl rfl (any_of HT_.out (by kernel_rfl)) (fun _ _ _ h => h) (Or.inl ⟨by rfl, fun w' => by go_simp; with_reducible rfl⟩) (by simp only [Act.put, List.setIfInBounds_toArray, List.set_cons_zero, List.set_cons_succ, i64_w, i32_w]; rfl) ?_
          refine pure_ (i := 27) (N := some 45) #[true, true, true, true, true, true, true, true, true, true, true, true, true, true, true, true, true, true, true, true, true, true, true, true, true, true, true, true, false, false, false, false, false, false, false, false, false, false, false] rfl rfl (any_of HT_.out (by kernel_rfl)) (fun _ _ _ h => h) (Or.inl ⟨by rfl, fun w' => by go_simp; with_reducible rfl⟩) (by simp only [Act.put, List.setIfInBounds_toArray, List.set_cons_zero, List.set_cons_succ, i64_w, i32_w]; rfl) ?_
          refine pure_ (i := 28) (N := some 46) #[true, true, true, true, true, true, true, true, true, true, true, true, true, true, true, true, true, true, true, true, true, true, true, true, true, true, true, true, true, false, false, false, false, false, false, false, false, false, false] rfl rfl (any_of HT_.out (by kernel_rfl)) (fun _ _ _ h => h) (Or.inl ⟨by rfl, fun w' => by go_simp; with_reducible rfl⟩) (by simp only [Act.put, List.setIfInBounds_toArray, List.set_cons_zero, List.set_cons_succ, i64_w, i32_w]; rfl) ?_
          refine pure_ (i := 31) (N := some 49) #[true, true, true, true, true, true, true, true, true, true, true, true, true, true, true, true, true, true, true, true, true, true, true, true, true, true, true, true, true, false, false, true, false, false, false, false, false, false, false] rfl rfl (any_of HT_.out (by kernel_rfl)) (fun _ _ _ h => h) (Or.inl ⟨by rfl, fun w' => by go_simp; with_reducible rfl⟩) (by simp only [Act.put, List.setIfInBounds_toArray, List.set_cons_zero, List.set_cons_succ, i64_w, i32_w]; rfl) ?_
          refine pure_ (i := 32) (N := some 50) #[true, true, true, true, true, true, true, true, true, true, true, true, true, true, true, true, true, true, true, true, true, true, true, true, true, true, true, true, true, false, false, true, true, false, false, false, false, false, false] rfl rfl (any_of HT_.out (by kernel_rfl)) (fun _ _ _ h => h) (Or.inl ⟨by rfl, fun w' => by go_simp; with_reducible rfl⟩) (by simp only [Act.put, List.setIfInBounds_toArray, List.set_cons_zero, List.set_cons_succ, i64_w, i32_w]; rfl) ?_
          refine pure_ (i := 33) (N := some 51) #[true, true, true, true, true, true, true, true, true, true, true, true, true, true, true, true, true, true, true, true, true, true, true, true, true, true, true, true, true, false, false, true, true, true, false, false, false, false, false] rfl rfl (any_of HT_.out (by kernel_rfl)) (fun _ _ _ h => h) (Or.inl ⟨by rfl, fun w' => by go_simp; with_reducible rfl⟩) (by simp only [Act.put, List.setIfInBounds_toArray, List.set_cons_zero, List.set_cons_succ, i64_w, i32_w]; rfl) ?_
          refine pure_ (i := 34) (N := some 52) #[true, true, true, true, true, true, true, true, true, true, true, true, true, true, true, true, true, true, true, true, true, true, true, true, true, true, true, true, true, false, false, true, true, true, true, false, false, false, false] rfl rfl (any_of HT_.out (by kernel_rfl)) (fun _ _ _ h => h) (Or.inl ⟨by rfl, fun w' => by go_simp; with_reducible rfl⟩) (by simp only [Act.put, List.setIfInBounds_toArray, List.set_cons_zero, List.set_cons_succ, i64_w, i32_w]; rfl) ?_
          refine take_ (i := 29) (N := some 47) (v := ?_) (a' := ?_) #[true, true, true, true, true, true, true, true, true, true, true, true, true, true, true, true, true, true, true, true, true, true, true, true, true, true, true, true, true, true, false, true, true, true, true, false, false, false, false] rfl rfl (take_ofW HT_.out HW_.out (by kernel_rfl)) (fun _ _ _ h => h) (Or.inl ⟨by rfl, ?_⟩) hHeld ?_ ?_
          rotate_left
          ·rintro w' ⟨s0, s1, s2, s3, s4, s5, s6, s7, s8, s9, s10, s11, s12, s13, s14, s15, s16, s17, s18, s19, s20, s21, s22, s23⟩
           go_simp
           with_reducible rfl
          rotate_left
          ·simp only [Act.put, List.setIfInBounds_toArray, List.set_cons_zero, List.set_cons_succ, i64_w, i32_w]
           rfl
          refine pure_ (i := 30) (N := some 48) #[true, true, true, true, true, true, true, true, true, true, true, true, true, true, true, true, true, true, true, true, true, true, true, true, true, true, true, true, true, true, true, true, true, true, true, false, false, false, false] rfl rfl (any_of HT_.out (by kernel_rfl)) (fun _ _ _ h => h) (Or.inl ⟨by rfl, fun w' => by go_simp; with_reducible rfl⟩) (by simp only [Act.put, List.setIfInBounds_toArray, List.set_cons_zero, List.set_cons_succ, i64_w, i32_w]; rfl) ?_
          refine take_ (i := 35) (N := some 53) (v := ?_) (a' := ?_) #[true, true, true, true, true, true, true, true, true, true, true, true, true, true, true, true, true, true, true, true, true, true, true, true, true, true, true, true, true, true, true, true, true, true, true, true, false, false, false] rfl rfl (take_ofW HT_.out HW_.out (by kernel_rfl)) (fun _ _ _ h => h) (Or.inl ⟨by rfl, ?_⟩) hHeld ?_ ?_
          rotate_left
          ·rintro w' ⟨s0, s1, s2, s3, s4, s5, s6, s7, s8, s9, s10, s11, s12, s13, s14, s15, s16, s17, s18, s19, s20, s21, s22, s23⟩
           go_simp
           with_reducible rfl
          rotate_left
          ·simp only [Act.put, List.setIfInBounds_toArray, List.set_cons_zero, List.set_cons_succ, i64_w, i32_w]
           rfl
          refine pure_ (i := 36) (N := some 54) #[true, true, true, true, true, true, true, true, true, true, true, true, true, true, true, true, true, true, true, true, true, true, true, true, true, true, true, true, true, true, true, true, true, true, true, true, true, false, false] rfl rfl (any_of HT_.out (by kernel_rfl)) (fun _ _ _ h => h) (Or.inl ⟨by rfl, fun w' => by go_simp; with_reducible rfl⟩) (by simp only [Act.put, List.setIfInBounds_toArray, List.set_cons_zero, List.set_cons_succ, i64_w, i32_w]; rfl) ?_
          refine pure_ (i := 37) (N := some 55) #[true, true, true, true, true, true, true, true, true, true, true, true, true, true, true, true, true, true, true, true, true, true, true, true, true, true, true, true, true, true, true, true, true, true, true, true, true, true, false] rfl rfl (any_of HT_.out (by kernel_rfl)) (fun _ _ _ h => h) (Or.inl ⟨by rfl, fun w' => by go_simp; with_reducible rfl⟩) (by simp only [Act.put, List.setIfInBounds_toArray, List.set_cons_zero, List.set_cons_succ, i64_w, i32_w]; rfl) ?_
          refine pure_ (i := 38) (N := some 56) #[true, true, true, true, true, true, true, true, true, true, true, true, true, true, true, true, true, true, true, true, true, true, true, true, true, true, true, true, true, true, true, true, true, true, true, true, true, true, true] rfl rfl (any_of HT_.out (by kernel_rfl)) (fun _ _ _ h => h) (Or.inl ⟨by rfl, fun w' => by go_simp; with_reducible rfl⟩) (by simp only [Act.put, List.setIfInBounds_toArray, List.set_cons_zero, List.set_cons_succ, i64_w, i32_w]; rfl) ?_
          refine done_ (done_of HT_.out (by kernel_rfl)) ?_
          try go_wp2
          go_meet
          case rel => exact ⟨_, (((((rd_T38 l0 x5_1).f2).length : Int) != (((rd_T38 l1 x5_1).f2).length : Int))), (by first | rfl | (simp; done) | (simp [*]; done)), H', ⟨by have := HK1.out; first | omega | exact Nat.le_refl _⟩, ⟨bv_ HB.out⟩⟩
         ·rw [if_neg c10] at H
          have c10b0 : (((rd_T38 l0 x5_1).f1).toList == ((rd_T38 l1 x5_1).f1).toList) = false := beq_eq_false_iff_ne.mpr c10
          have c10b1 : (((rd_T38 l0 x5_1).f1).toList != ((rd_T38 l1 x5_1).f1).toList) = true := bne_iff_ne.mpr c10
          have H' := a_ H
          clear H
          try go_wp2
          have n0_ := a_ (below_drew1 HB.out)
          clear HB
          have HB := n0_
          clear n0_
          have p235 : 0 ≤ (x5_1 : Int) := od_
          have q235 : x5_1 < (l0.length : Int) := od_
          obtain ⟨ad235, A235_2, c235_2, e235, hx235_0, hx235_1, hx235_2, hx235_3, hl235_2, hi235_2⟩ := at_T38 HR0.out x5_1 p235 q235
          have hw235_3 := hx235_3
          have hw235_2 := hx235_2
          have hw235_1 := hx235_1
          have hw235_0 := hx235_0
          cases e235
          try replace hx235_0 := up_ HB.out hx235_0
          try replace hx235_1 := up_ HB.out hx235_1
          try replace hx235_2 := up_ HB.out hx235_2
          try replace hx235_3 := up_ HB.out hx235_3
          have HR235_2 := a_ hi235_2
          have HC235_2 := a_ hl235_2
          clear hi235_2 hl235_2
          replace p235 := eq_true p235
          replace q235 := eq_true q235
          have p236 : 0 ≤ (x5_1 : Int) := od_
          have q236 : x5_1 < (l1.length : Int) := od_
          obtain ⟨ad236, A236_2, c236_2, e236, hx236_0, hx236_1, hx236_2, hx236_3, hl236_2, hi236_2⟩ := at_T38 HR1.out x5_1 p236 q236
          have hw236_3 := hx236_3
          have hw236_2 := hx236_2
          have hw236_1 := hx236_1
          have hw236_0 := hx236_0
          cases e236
          try replace hx236_0 := up_ HB.out hx236_0
          try replace hx236_1 := up_ HB.out hx236_1
          try replace hx236_2 := up_ HB.out hx236_2
          try replace hx236_3 := up_ HB.out hx236_3
          have HR236_2 := a_ hi236_2
          have HC236_2 := a_ hl236_2
          clear hi236_2 hl236_2
          replace p236 := eq_true p236
          replace q236 := eq_true q236
          have p237 : 0 ≤ (x5_1 : Int) := od_
          have q237 : x5_1 < (l0.length : Int) := od_
          obtain ⟨ad237, A237_2, c237_2, e237, hx237_0, hx237_1, hx237_2, hx237_3, hl237_2, hi237_2⟩ := at_T38 HR0.out x5_1 p237 q237
          have hw237_3 := hx237_3
          have hw237_2 := hx237_2
          have hw237_1 := hx237_1
          have hw237_0 := hx237_0
          obtain rfl : ad235 = ad237 := (by injection e237)
          try replace hx237_0 := up_ HB.out hx237_0
          try replace hx237_1 := up_ HB.out hx237_1
          try replace hx237_2 := up_ HB.out hx237_2
          try replace hx237_3 := up_ HB.out hx237_3
          have HR237_2 := a_ hi237_2
          have HC237_2 := a_ hl237_2
          clear hi237_2 hl237_2
          replace p237 := eq_true p237
          replace q237 := eq_true q237
          have ea_ := Option.some.inj (hx235_2.symm.trans hx237_2)
          injection ea_ with ea_ en_ ec_
          subst ea_
          subst ec_
          clear en_
          have p238 : 0 ≤ (x5_1 : Int) := od_
          have q238 : x5_1 < (l1.length : Int) := od_
          obtain ⟨ad238, A238_2, c238_2, e238, hx238_0, hx238_1, hx238_2, hx238_3, hl238_2, hi238_2⟩ := at_T38 HR1.out x5_1 p238 q238
          have hw238_3 := hx238_3
          have hw238_2 := hx238_2
          have hw238_1 := hx238_1
          have hw238_0 := hx238_0
          obtain rfl : ad236 = ad238 := (by injection e238)
          try replace hx238_0 := up_ HB.out hx238_0
          try replace hx238_1 := up_ HB.out hx238_1
          try replace hx238_2 := up_ HB.out hx238_2
          try replace hx238_3 := up_ HB.out hx238_3
          have HR238_2 := a_ hi238_2
          have HC238_2 := a_ hl238_2
          clear hi238_2 hl238_2
          replace p238 := eq_true p238
          replace q238 := eq_true q238
          have ea_ := Option.some.inj (hx236_2.symm.trans hx238_2)
          injection ea_ with ea_ en_ ec_
          subst ea_
          subst ec_
          clear en_
          refine start_ (n := 39) (S := fun w' => w'.cell? (ad235.add ((x5_1).toNat * 4)) = some (.bool ((rd_T38 l0 x5_1).f0)) ∧ w'.cell? ⟨(ad235.add ((x5_1).toNat * 4)).block, (ad235.add ((x5_1).toNat * 4)).off + 1, none⟩ = some (.string ((rd_T38 l0 x5_1).f1)) ∧ w'.cell? ⟨(ad235.add ((x5_1).toNat * 4)).block, (ad235.add ((x5_1).toNat * 4)).off + 2, none⟩ = some (.slice A235_2 ((rd_T38 l0 x5_1).f2).length c235_2) ∧ w'.cell? ⟨(ad235.add ((x5_1).toNat * 4)).block, (ad235.add ((x5_1).toNat * 4)).off + 3, none⟩ = some (.int .i64 ((rd_T38 l0 x5_1).f3)) ∧ w'.cell? (ad236.add ((x5_1).toNat * 4)) = some (.bool ((rd_T38 l1 x5_1).f0)) ∧ w'.cell? ⟨(ad236.add ((x5_1).toNat * 4)).block, (ad236.add ((x5_1).toNat * 4)).off + 1, none⟩ = some (.string ((rd_T38 l1 x5_1).f1)) ∧ w'.cell? ⟨(ad236.add ((x5_1).toNat * 4)).block, (ad236.add ((x5_1).toNat * 4)).off + 2, none⟩ = some (.slice A236_2 ((rd_T38 l1 x5_1).f2).length c236_2) ∧ w'.cell? ⟨(ad236.add ((x5_1).toNat * 4)).block, (ad236.add ((x5_1).toNat * 4)).off + 3, none⟩ = some (.int .i64 ((rd_T38 l1 x5_1).f3)) ∧ w'.cell? (ad235.add ((x5_1).toNat * 4)) = some (.bool ((rd_T38 l0 x5_1).f0)) ∧ w'.cell? ⟨(ad235.add ((x5_1).toNat * 4)).block, (ad235.add ((x5_1).toNat * 4)).off + 1, none⟩ = some (.string ((rd_T38 l0 x5_1).f1)) ∧ w'.cell? ⟨(ad235.add ((x5_1).toNat * 4)).block, (ad235.add ((x5_1).toNat * 4)).off + 2, none⟩ = some (.slice A235_2 ((rd_T38 l0 x5_1).f2).length c235_2) ∧ w'.cell? ⟨(ad235.add ((x5_1).toNat * 4)).block, (ad235.add ((x5_1).toNat * 4)).off + 3, none⟩ = some (.int .i64 ((rd_T38 l0 x5_1).f3)) ∧ w'.cell? (ad236.add ((x5_1).toNat * 4)) = some (.bool ((rd_T38 l1 x5_1).f0)) ∧ w'.cell? ⟨(ad236.add ((x5_1).toNat * 4)).block, (ad236.add ((x5_1).toNat * 4)).off + 1, none⟩ = some (.string ((rd_T38 l1 x5_1).f1)) ∧ w'.cell? ⟨(ad236.add ((x5_1).toNat * 4)).block, (ad236.add ((x5_1).toNat * 4)).off + 2, none⟩ = some (.slice A236_2 ((rd_T38 l1 x5_1).f2).length c236_2) ∧ w'.cell? ⟨(ad236.add ((x5_1).toNat * 4)).block, (ad236.add ((x5_1).toNat * 4)).off + 3, none⟩ = some (.int .i64 ((rd_T38 l1 x5_1).f3))) (ds := []) #[false, false, false, false, false, false, false, false, false, false, false, false, false, false, false, false, false, false, false, false, false, false, false, false, false, false, false, false, false, false, false, false, false, false, false, false, false, false, false] (by kernel_rfl) rfl rfl ⟨(up_ HB.out hw235_0), (up_ HB.out hw235_1), (up_ HB.out hw235_2), (up_ HB.out hw235_3), (up_ HB.out hw236_0), (up_ HB.out hw236_1), (up_ HB.out hw236_2), (up_ HB.out hw236_3), (up_ HB.out hw237_0), (up_ HB.out hw237_1), (up_ HB.out hw237_2), (up_ HB.out hw237_3), (up_ HB.out hw238_0), (up_ HB.out hw238_1), (up_ HB.out hw238_2), (up_ HB.out hw238_3)⟩ (fun hHeld => ?_); refine with_tabW variorumref06_Same.tab6 variorumref06_Same.bits6 (fun HT_ HW_ => ?_)
          generalize wr.drew = w12 at HB HR235_2 HR236_2 HR237_2 HR238_2 hx235_0 hx235_1 hx235_2 hx235_3 hx236_0 hx236_1 hx236_2 hx236_3 hx237_0 hx237_1 hx237_2 hx237_3 hx238_0 hx238_1 hx238_2 hx238_3 hHeld ⊢
          refine pure_ (i := 0) (N := some 18) #[true, false, false, false, false, false, false, false, false, false, false, false, false, false, false, false, false, false, false, false, false, false, false, false, false, false, false, false, false, false, false, false, false, false, false, false, false, false, false] rfl rfl (any_of HT_.out (by kernel_rfl)) (fun _ _ _ h => h) (Or.inl ⟨by rfl, fun w' => by go_simp; with_reducible rfl⟩) (by simp only [Act.put, List.setIfInBounds_toArray, List.set_cons_zero, List.set_cons_succ, i64_w, i32_w]; rfl) ?_
          refine pure_ (i := 1) (N := some 19) #[true, true, false, false, false, false, false, false, false, false, false, false, false, false, false, false, false, false, false, false, false, false, false, false, false, false, false, false, false, false, false, false, false, false, false, false, false, false, false] rfl rfl (any_of HT_.out (by kernel_rfl)) (fun _ _ _ h => h) (Or.inl ⟨by rfl, fun w' => by go_simp; with_reducible rfl⟩) (by simp only [Act.put, List.setIfInBounds_toArray, List.set_cons_zero, List.set_cons_succ, i64_w, i32_w]; rfl) ?_
          refine pure_ (i := 2) (N := some 20) #[true, true, true, false, false, false, false, false, false, false, false, false, false, false, false, false, false, false, false, false, false, false, false, false, false, false, false, false, false, false, false, false, false, false, false, false, false, false, false] rfl rfl (any_of HT_.out (by kernel_rfl)) (fun _ _ _ h => h) (Or.inl ⟨by rfl, fun w' => by go_simp; with_reducible rfl⟩) (by simp only [Act.put, List.setIfInBounds_toArray, List.set_cons_zero, List.set_cons_succ, i64_w, i32_w]; rfl) ?_
          refine pure_ (i := 3) (N := some 21) #[true, true, true, true, false, false, false, false, false, false, false, false, false, false, false, false, false, false, false, false, false, false, false, false, false, false, false, false, false, false, false, false, false, false, false, false, false, false, false] rfl rfl (any_of HT_.out (by kernel_rfl)) (fun _ _ _ h => h) (Or.inl ⟨by rfl, fun w' => by go_simp; with_reducible rfl⟩) (by simp only [Act.put, List.setIfInBounds_toArray, List.set_cons_zero, List.set_cons_succ, i64_w, i32_w]; rfl) ?_
          refine pure_ (i := 5) (N := some 23) #[true, true, true, true, false, true, false, false, false, false, false, false, false, false, false, false, false, false, false, false, false, false, false, false, false, false, false, false, false, false, false, false, false, false, false, false, false, false, false] rfl rfl (any_of HT_.out (by kernel_rfl)) (fun _ _ _ h => h) (Or.inl ⟨by rfl, fun w' => by go_simp; with_reducible rfl⟩) (by simp only [Act.put, List.setIfInBounds_toArray, List.set_cons_zero, List.set_cons_succ, i64_w, i32_w]; rfl) ?_
          refine pure_ (i := 6) (N := some 24) #[true, true, true, true, false, true, true, false, false, false, false, false, false, false, false, false, false, false, false, false, false, false, false, false, false, false, false, false, false, false, false, false, false, false, false, false, false, false, false] rfl rfl (any_of HT_.out (by kernel_rfl)) (fun _ _ _ h => h) (Or.inl ⟨by rfl, fun w' => by go_simp; with_reducible rfl⟩) (by simp only [Act.put, List.setIfInBounds_toArray, List.set_cons_zero, List.set_cons_succ, i64_w, i32_w]; rfl) ?_
          refine pure_ (i := 7) (N := some 25) #[true, true, true, true, false, true, true, true, false, false, false, false, false, false, false, false, false, false, false, false, false, false, false, false, false, false, false, false, false, false, false, false, false, false, false, false, false, false, false] rfl rfl (any_of HT_.out (by kernel_rfl)) (fun _ _ _ h => h) (Or.inl ⟨by rfl, fun w' => by go_simp; with_reducible rfl⟩) (by simp only [Act.put, List.setIfInBounds_toArray, List.set_cons_zero, List.set_cons_succ, i64_w, i32_w]; rfl) ?_
          refine pure_ (i := 8) (N := some 26) #[true, true, true, true, false, true, true, true, true, false, false, false, false, false, false, false, false, false, false, false, false, false, false, false, false, false, false, false, false, false, false, false, false, false, false, false, false, false, false] rfl rfl (any_of HT_.out (by kernel_rfl)) (fun _ _ _ h => h) (Or.inl ⟨by rfl, fun w' => by go_simp; with_reducible rfl⟩) (by simp only [Act.put, List.setIfInBounds_toArray, List.set_cons_zero, List.set_cons_succ, i64_w, i32_w]; rfl) ?_
          refine take_ (i := 4) (N := some 22) (v := ?_) (a' := ?_) #[true, true, true, true, true, true, true, true, true, false, false, false, false, false, false, false, false, false, false, false, false, false, false, false, false, false, false, false, false, false, false, false, false, false, false, false, false, false, false] rfl rfl (take_ofW HT_.out HW_.out (by kernel_rfl)) (fun _ _ _ h => h) (Or.inl ⟨by rfl, ?_⟩) hHeld ?_ ?_
          rotate_left
          ·rintro w' ⟨s0, s1, s2, s3, s4, s5, s6, s7, s8, s9, s10, s11, s12, s13, s14, s15⟩
           go_simp
           with_reducible rfl
          rotate_left
          ·simp only [Act.put, List.setIfInBounds_toArray, List.set_cons_zero, List.set_cons_succ, i64_w, i32_w]
           rfl
          refine take_ (i := 9) (N := some 27) (v := ?_) (a' := ?_) #[true, true, true, true, true, true, true, true, true, true, false, false, false, false, false, false, false, false, false, false, false, false, false, false, false, false, false, false, false, false, false, false, false, false, false, false, false, false, false] rfl rfl (take_ofW HT_.out HW_.out (by kernel_rfl)) (fun _ _ _ h => h) (Or.inl ⟨by rfl, ?_⟩) hHeld ?_ ?_
          rotate_left
          ·rintro w' ⟨s0, s1, s2, s3, s4, s5, s6, s7, s8, s9, s10, s11, s12, s13, s14, s15⟩
           go_simp
           with_reducible rfl
          rotate_left
          ·simp only [Act.put, List.setIfInBounds_toArray, List.set_cons_zero, List.set_cons_succ, i64_w, i32_w]
           rfl
          refine pure_ (i := 10) (N := some 28) #[true, true, true, true, true, true, true, true, true, true, true, false, false, false, false, false, false, false, false, false, false, false, false, false, false, false, false, false, false, false, false, false, false, false, false, false, false, false, false] rfl rfl (any_of HT_.out (by kernel_rfl)) (fun _ _ _ h => h) (Or.inl ⟨by rfl, fun w' => by go_simp; with_reducible rfl⟩) (by simp only [Act.put, List.setIfInBounds_toArray, List.set_cons_zero, List.set_cons_succ, i64_w, i32_w]; rfl) ?_
          refine pure_ (i := 11) (N := some 29) #[true, true, true, true, true, true, true, true, true, true, true, true, false, false, false, false, false, false, false, false, false, false, false, false, false, false, false, false, false, false, false, false, false, false, false, false, false, false, false] rfl rfl (any_of HT_.out (by kernel_rfl)) (fun _ _ _ h => h) (Or.inl ⟨by rfl, fun w' => by go_simp; with_reducible rfl⟩) (by simp only [Act.put, List.setIfInBounds_toArray, List.set_cons_zero, List.set_cons_succ, i64_w, i32_w]; rfl) ?_
          refine pure_ (i := 12) (N := some 30) #[true, true, true, true, true, true, true, true, true, true, true, true, true, false, false, false, false, false, false, false, false, false, false, false, false, false, false, false, false, false, false, false, false, false, false, false, false, false, false] rfl rfl (any_of HT_.out (by kernel_rfl)) (fun _ _ _ h => h) (Or.inl ⟨by rfl, fun w' => by go_simp; with_reducible rfl⟩) (by simp only [Act.put, List.setIfInBounds_toArray, List.set_cons_zero, List.set_cons_succ, i64_w, i32_w]; rfl) ?_
          refine pure_ (i := 13) (N := some 31) #[true, true, true, true, true, true, true, true, true, true, true, true, true, true, false, false, false, false, false, false, false, false, false, false, false, false, false, false, false, false, false, false, false, false, false, false, false, false, false] rfl rfl (any_of HT_.out (by kernel_rfl)) (fun _ _ _ h => h) (Or.inl ⟨by rfl, fun w' => by go_simp; with_reducible rfl⟩) (by simp only [Act.put, List.setIfInBounds_toArray, List.set_cons_zero, List.set_cons_succ, i64_w, i32_w]; rfl) ?_
          refine pure_ (i := 14) (N := some 32) #[true, true, true, true, true, true, true, true, true, true, true, true, true, true, true, false, false, false, false, false, false, false, false, false, false, false, false, false, false, false, false, false, false, false, false, false, false, false, false] rfl rfl (any_of HT_.out (by kernel_rfl)) (fun _ _ _ h => h) (Or.inl ⟨by rfl, fun w' => by go_simp; with_reducible rfl⟩) (by simp only [Act.put, List.setIfInBounds_toArray, List.set_cons_zero, List.set_cons_succ, i64_w, i32_w]; rfl) ?_
          refine pure_ (i := 15) (N := some 33) #[true, true, true, true, true, true, true, true, true, true, true, true, true, true, true, true, false, false, false, false, false, false, false, false, false, false, false, false, false, false, false, false, false, false, false, false, false, false, false] rfl rfl (any_of HT_.out (by kernel_rfl)) (fun _ _ _ h => h) (Or.inl ⟨by rfl, fun w' => by go_simp; with_reducible rfl⟩) (by simp only [Act.put, List.setIfInBounds_toArray, List.set_cons_zero, List.set_cons_succ, i64_w, i32_w]; rfl) ?_
          refine pure_ (i := 17) (N := some 35) #[true, true, true, true, true, true, true, true, true, true, true, true, true, true, true, true, false, true, false, false, false, false, false, false, false, false, false, false, false, false, false, false, false, false, false, false, false, false, false] rfl rfl (any_of HT_.out (by kernel_rfl)) (fun _ _ _ h => h) (Or.inl ⟨by rfl, fun w' => by go_simp; with_reducible rfl⟩) (by simp only [Act.put, List.setIfInBounds_toArray, List.set_cons_zero, List.set_cons_succ, i64_w, i32_w]; rfl) ?_
          refine pure_ (i := 18) (N := some 36) #[true, true, true, true, true, true, true, true, true, true, true, true, true, true, true, true, false, true, true, false, false, false, false, false, false, false, false, false, false, false, false, false, false, false, false, false, false, false, false] rfl rfl (any_of HT_.out (by kernel_rfl)) (fun _ _ _ h => h) (Or.inl ⟨by rfl, fun w' => by go_simp; with_reducible rfl⟩) (by simp only [Act.put, List.setIfInBounds_toArray, List.set_cons_zero, List.set_cons_succ, i64_w, i32_w]; rfl) ?_
          refine pure_ (i := 19) (N := some 37) #[true, true, true, true, true, true, true, true, true, true, true, true, true, true, true, true, false, true, true, true, false, false, false, false, false, false, false, false, false, false, false, false, false, false, false, false, false, false, false] rfl rfl (any_of HT_.out (by kernel_rfl)) (fun _ _ _ h => h) (Or.inl ⟨by rfl, fun w' => by go_simp; with_reducible rfl⟩) (by simp only [Act.put, List.setIfInBounds_toArray, List.set_cons_zero, List.set_cons_succ, i64_w, i32_w]; rfl) ?_
          refine pure_ (i := 20) (N := some 38) #[true, true, true, true, true, true, true, true, true, true, true, true, true, true, true, true, false, true, true, true, true, false, false, false, false, false, false, false, false, false, false, false, false, false, false, false, false, false, false] rfl rfl (any_of HT_.out (by kernel_rfl)) (fun _ _ _ h => h) (Or.inl ⟨by rfl, fun w' => by go_simp; with_reducible rfl⟩) (by simp only [Act.put, List.setIfInBounds_toArray, List.set_cons_zero, List.set_cons_succ, i64_w, i32_w]; rfl) ?_
          refine take_ (i := 16) (N := some 34) (v := ?_) (a' := ?_) #[true, true, true, true, true, true, true, true, true, true, true, true, true, true, true, true, true, true, true, true, true, false, false, false, false, false, false, false, false, false, false, false, false, false, false, false, false, false, false] rfl rfl (take_ofW HT_.out HW_.out (by kernel_rfl)) (fun _ _ _ h => h) (Or.inl ⟨by rfl, ?_⟩) hHeld ?_ ?_
          rotate_left
          ·rintro w' ⟨s0, s1, s2, s3, s4, s5, s6, s7, s8, s9, s10, s11, s12, s13, s14, s15⟩
           go_simp
           with_reducible rfl
          rotate_left
          ·simp only [Act.put, List.setIfInBounds_toArray, List.set_cons_zero, List.set_cons_succ, i64_w, i32_w]
           rfl
          refine take_ (i := 21) (N := some 39) (v := ?_) (a' := ?_) #[true, true, true, true, true, true, true, true, true, true, true, true, true, true, true, true, true, true, true, true, true, true, false, false, false, false, false, false, false, false, false, false, false, false, false, false, false, false, false] rfl rfl (take_ofW HT_.out HW_.out (by kernel_rfl)) (fun _ _ _ h => h) (Or.inl ⟨by rfl, ?_⟩) hHeld ?_ ?_
          rotate_left
          ·rintro w' ⟨s0, s1, s2, s3, s4, s5, s6, s7, s8, s9, s10, s11, s12, s13, s14, s15⟩
           go_simp
           with_reducible rfl
          rotate_left
          ·simp only [Act.put, List.setIfInBounds_toArray, List.set_cons_zero, List.set_cons_succ, i64_w, i32_w]
           rfl
          refine pure_ (i := 22) (N := some 40) #[true, true, true, true, true, true, true, true, true, true, true, true, true, true, true, true, true, true, true, true, true, true, true, false, false, false, false, false, false, false, false, false, false, false, false, false, false, false, false] rfl rfl (any_of HT_.out (by kernel_rfl)) (fun _ _ _ h => h) (Or.inl ⟨by rfl, fun w' => by go_simp; with_reducible rfl⟩) (by simp only [Act.put, List.setIfInBounds_toArray, List.set_cons_zero, List.set_cons_succ, i64_w, i32_w]; rfl) ?_
          refine pure_ (i := 23) (N := some 41) #[true, true, true, true, true, true, true, true, true, true, true, true, true, true, true, true, true, true, true, true, true, true, true, true, false, false, false, false, false, false, false, false, false, false, false, false, false, false, false] rfl rfl (any_of HT_.out (by kernel_rfl)) (fun _ _ _ h => h) (Or.inl ⟨by rfl, fun w' => by go_simp; with_reducible rfl⟩) (by simp only [Act.put, List.setIfInBounds_toArray, List.set_cons_zero, List.set_cons_succ, i64_w, i32_w]; rfl) ?_
          refine pure_ (i := 24) (N := some 42) #[true, true, true, true, true, true, true, true, true, true, true, true, true, true, true, true, true, true, true, true, true, true, true, true, true, false, false, false, false, false, false, false, false, false, false, false, false, false, false] rfl rfl (any_of HT_.out (by kernel_rfl)) (fun _ _ _ h => h) (Or.inl ⟨by rfl, fun w' => by go_simp; with_reducible rfl⟩) (by simp only [Act.put, List.setIfInBounds_toArray, List.set_cons_zero, List.set_cons_succ, i64_w, i32_w]; rfl) ?_
          refine pure_ (i := 25) (N := some 43) (v := undef) (a' := ?_) #[true, true, true, true, true, true, true, true, true, true, true, true, true, true, true, true, true, true, true, true, true, true, true, true, true, true, false, false, false, false, false, false, false, false, false, false, false, false, false] rfl rfl (any_of HT_.out (by kernel_rfl)) (fun _ _ _ h => h) (Or.inr ⟨by rfl, rfl⟩) ?_ ?_
          rotate_left
          ·simp only [Act.put, List.setIfInBounds_toArray, List.set_cons_zero, List.set_cons_succ, i64_w, i32_w]
           rfl
          refine pure_ (i := 26) (N := some 44) (v := undef) (a' := ?_) #[true, true, true, true, true, true, true, true, true, true, true, true, true, true, true, true, true, true, true, true, true, true, true, true, true, true, true, false, false, false, false, false, false, false, false, false, false, false, false] rfl rfl (any_of HT_.out (by kernel_rfl)) (fun _ _ _ h => h) (Or.inr ⟨by rfl, rfl⟩) ?_ ?_
          rotate_left
          ·simp only [Act.put, List.setIfInBounds_toArray, List.set_cons_zero, List.set_cons_succ, i64_w, i32_w]
           rfl
          refine pure_ (i := 27) (N := some 45) (v := undef) (a' := ?_) #[true, true, true, true, true, true, true, true, true, true, true, true, true, true, true, true, true, true, true, true, true, true, true, true, true, true, true, true, false, false, false, false, false, false, false, false, false, false, false] rfl rfl (any_of HT_.out (by kernel_rfl)) (fun _ _ _ h => h) (Or.inr ⟨by rfl, rfl⟩) ?_ ?_
          rotate_left
          ·simp only [Act.put, List.setIfInBounds_toArray, List.set_cons_zero, List.set_cons_succ, i64_w, i32_w]
           rfl
          refine pure_ (i := 28) (N := some 46) (v := undef) (a' := ?_) #[true, true, true, true, true, true, true, true, true, true, true, true, true, true, true, true, true, true, true, true, true, true, true, true, true, true, true, true, true, false, false, false, false, false, false, false, false, false, false] rfl rfl (any_of HT_.out (by kernel_rfl)) (fun _ _ _ h => h) (Or.inr ⟨by rfl, rfl⟩) ?_ ?_
          rotate_left
          ·simp only [Act.put, List.setIfInBounds_toArray, List.set_cons_zero, List.set_cons_succ, i64_w, i32_w]
           rfl
          refine pure_ (i := 29) (N := some 47) (v := undef) (a' := ?_) #[true, true, true, true, true, true, true, true, true, true, true, true, true, true, true, true, true, true, true, true, true, true, true, true, true, true, true, true, true, true, false, false, false, false, false, false, false, false, false] rfl rfl (any_of HT_.out (by kernel_rfl)) (fun _ _ _ h => h) (Or.inr ⟨by rfl, rfl⟩) ?_ ?_
          rotate_left
          ·simp only [Act.put, List.setIfInBounds_toArray, List.set_cons_zero, List.set_cons_succ, i64_w, i32_w]
           rfl
          refine pure_ (i := 30) (N := some 48) (v := undef) (a' := ?_) #[true, true, true, true, true, true, true, true, true, true, true, true, true, true, true, true, true, true, true, true, true, true, true, true, true, true, true, true, true, true, true, false, false, false, false, false, false, false, false] rfl rfl (any_of HT_.out (by kernel_rfl)) (fun _ _ _ h => h) (Or.inr ⟨by rfl, rfl⟩) ?_ ?_
          rotate_left
          ·simp only [Act.put, List.setIfInBounds_toArray, List.set_cons_zero, List.set_cons_succ, i64_w, i32_w]
           rfl
          refine pure_ (i := 31) (N := some 49) (v := undef) (a' := ?_) #[true, true, true, true, true, true, true, true, true, true, true, true, true, true, true, true, true, true, true, true, true, true, true, true, true, true, true, true, true, true, true, true, false, false, false, false, false, false, false] rfl rfl (any_of HT_.out (by kernel_rfl)) (fun _ _ _ h => h) (Or.inr ⟨by rfl, rfl⟩) ?_ ?_
          rotate_left
          ·simp only [Act.put, List.setIfInBounds_toArray, List.set_cons_zero, List.set_cons_succ, i64_w, i32_w]
           rfl
          refine pure_ (i := 32) (N := some 50) (v := undef) (a' := ?_) #[true, true, true, true, true, true, true, true, true, true, true, true, true, true, true, true, true, true, true, true, true, true, true, true, true, true, true, true, true, true, true, true, true, false, false, false, false, false, false] rfl rfl (any_of HT_.out (by kernel_rfl)) (fun _ _ _ h => h) (Or.inr ⟨by rfl, rfl⟩) ?_ ?_
          rotate_left
          ·simp only [Act.put, List.setIfInBounds_toArray, List.set_cons_zero, List.set_cons_succ, i64_w, i32_w]
           rfl
          refine pure_ (i := 33) (N := some 51) (v := undef) (a' := ?_) #[true, true, true, true, true, true, true, true, true, true, true, true, true, true, true, true, true, true, true, true, true, true, true, true, true, true, true, true, true, true, true, true, true, true, false, false, false, false, false] rfl rfl (any_of HT_.out (by kernel_rfl)) (fun _ _ _ h => h) (Or.inr ⟨by rfl, rfl⟩) ?_ ?_
          rotate_left
          ·simp only [Act.put, List.setIfInBounds_toArray, List.set_cons_zero, List.set_cons_succ, i64_w, i32_w]
           rfl
          refine pure_ (i := 34) (N := some 52) (v := undef) (a' := ?_) #[true, true, true, true, true, true, true, true, true, true, true, true, true, true, true, true, true, true, true, true, true, true, true, true, true, true, true, true, true, true, true, true, true, true, true, false, false, false, false] rfl rfl (any_of HT_.out (by kernel_rfl)) (fun _ _ _ h => h) (Or.inr ⟨by rfl, rfl⟩) ?_ ?_
          rotate_left
          ·simp only [Act.put, List.setIfInBounds_toArray, List.set_cons_zero, List.set_cons_succ, i64_w, i32_w]
           rfl
          refine pure_ (i := 35) (N := some 53) (v := undef) (a' := ?_) #[true, true, true, true, true, true, true, true, true, true, true, true, true, true, true, true, true, true, true, true, true, true, true, true, true, true, true, true, true, true, true, true, true, true, true, true, false, false, false] rfl rfl (any_of HT_.out (by kernel_rfl)) (fun _ _ _ h => h) (Or.inr ⟨by rfl, rfl⟩) ?_ ?_
          rotate_left
          ·simp only [Act.put, List.setIfInBounds_toArray, List.set_cons_zero, List.set_cons_succ, i64_w, i32_w]
           rfl
          refine pure_ (i := 36) (N := some 54) (v := undef) (a' := ?_) #[true, true, true, true, true, true, true, true, true, true, true, true, true, true, true, true, true, true, true, true, true, true, true, true, true, true, true, true, true, true, true, true, true, true, true, true, true, false, false] rfl rfl (any_of HT_.out (by kernel_rfl)) (fun _ _ _ h => h) (Or.inr ⟨by rfl, rfl⟩) ?_ ?_
          rotate_left
          ·simp only [Act.put, List.setIfInBounds_toArray, List.set_cons_zero, List.set_cons_succ, i64_w, i32_w]
           rfl
          refine pure_ (i := 37) (N := some 55) (v := undef) (a' := ?_) #[true, true, true, true, true, true, true, true, true, true, true, true, true, true, true, true, true, true, true, true, true, true, true, true, true, true, true, true, true, true, true, true, true, true, true, true, true, true, false] rfl rfl (any_of HT_.out (by kernel_rfl)) (fun _ _ _ h => h) (Or.inr ⟨by rfl, rfl⟩) ?_ ?_
          rotate_left
          ·simp only [Act.put, List.setIfInBounds_toArray, List.set_cons_zero, List.set_cons_succ, i64_w, i32_w]
           rfl
          refine pure_ (i := 38) (N := some 56) #[true, true, true, true, true, true, true, true, true, true, true, true, true, true, true, true, true, true, true, true, true, true, true, true, true, true, true, true, true, true, true, true, true, true, true, true, true, true, true] rfl rfl (any_of HT_.out (by kernel_rfl)) (fun _ _ _ h => h) (Or.inl ⟨by rfl, fun w' => by go_simp; with_reducible rfl⟩) (by simp only [Act.put, List.setIfInBounds_toArray, List.set_cons_zero, List.set_cons_succ, i64_w, i32_w]; rfl) ?_
          refine done_ (done_of HT_.out (by kernel_rfl)) ?_
          try go_wp2
          go_meet
          case rel => exact ⟨_, (true), (by first | rfl | (simp; done) | (simp [*]; done)), H', ⟨by have := HK1.out; first | omega | exact Nat.le_refl _⟩, ⟨bv_ HB.out⟩⟩
       ·rw [if_neg c7] at H
        exact absurd H (by simp)
      ·rw [if_neg c6] at H
       exact absurd H (by simp)
     case rest =>
      clear HC5
      try clear c1
      try clear c2
      try clear p2
      try clear q2
      try clear hx2
      try clear c6
      try clear c7
      try clear c10
      try clear c10b0
      try clear c10b1
      try clear hx235_0
      try clear hx235_1
      try clear hx235_2
      try clear hx235_3
      try clear hx236_0
      try clear hx236_1
      try clear hx236_2
      try clear hx236_3
      try clear hx237_0
      try clear hx237_1
      try clear hx237_2
      try clear hx237_3
      try clear hx238_0
      try clear hx238_1
      try clear hx238_2
      try clear hx238_3
      try clear p235
      try clear p236
      try clear p237
      try clear p238
      try clear q235
      try clear q236
      try clear q237
      try clear q238
      obtain ⟨kq, x56_4, rfl, HA, HJ4, HB⟩ := hcut
      cases kq with
      | zero => exact absurd HA.out (by simp [variorumref06_Same.j1])
      | succ kj4 =>
       have H := HA.out
       clear HA
       simp only [variorumref06_Same.j1] at H
       by_cases c13 : x56_4 = true
       ·subst c13
        have H1 : (some false) = some r := by rw [if_pos rfl] at H; exact H
        clear H
        have H := H1
        clear H1
        obtain rfl := Option.some.inj H
        go_wp2
        go_ret
        exact ⟨by first | rfl | (simp [errW_none, errW_some] <;> rfl) | (simp [*, errW_none, errW_some] <;> rfl), bv_ HB.out⟩
       ·replace c13 := Bool.eq_false_iff.mpr c13
        subst c13
        have H1 : (variorumref06_Same.l1 kj4 l0 l1 x5_1 0) = some r := by rw [if_neg (show ¬ (false = true) by decide)] at H; exact H
        clear H
        have H := H1
        clear H1
        have H' := a_ H
        clear H
        go_wp2
        go_loopg [6] kj4 (fun kq v6 w' => ∃ (x6_3 : Int), v6 = .int .i64 x6_3 ∧ Aside0 (variorumref06_Same.l1 kq l0 l1 x5_1 x6_3 = some r) ∧ Aside0 (kq ≤ kj4) ∧ Aside0 (Below w.heap.size w w'))
        case atStart => exact ⟨(0), (by first | rfl | (simp; done) | (simp [*]; done)), H', ⟨Nat.le_refl _⟩, ⟨bv_ HB.out⟩⟩
        case round =>
         clear H'
         try clear c1
         try clear c2
         try clear p2
         try clear q2
         try clear hx2
         try clear c6
         try clear c7
         try clear c10
         try clear c10b0
         try clear c10b1
         try clear c13
         try clear hx235_0
         try clear hx235_1
         try clear hx235_2
         try clear hx235_3
         try clear hx236_0
         try clear hx236_1
         try clear hx236_2
         try clear hx236_3
         try clear hx237_0
         try clear hx237_1
         try clear hx237_2
         try clear hx237_3
         try clear hx238_0
         try clear hx238_1
         try clear hx238_2
         try clear hx238_3
         try clear p2
         try clear p235
         try clear p236
         try clear p237
         try clear p238
         try clear q2
         try clear q235
         try clear q236
         try clear q237
         try clear q238
         obtain ⟨x6_3, rfl, HA, HK3, HB⟩ := hrel
         cases gk with
         | zero => exact absurd HA.out (by simp [variorumref06_Same.l1])
         | succ k3 =>
          have H := HA.out
          clear HA
          simp only [variorumref06_Same.l1] at H
          by_cases c14 : 0 ≤ x5_1
          ·rw [if_pos c14] at H
           have c14b0 : decide (0 ≤ x5_1) = true := decide_eq_true c14
           clear c14
           by_cases c15 : x5_1 < (l0.length : Int)
           ·rw [if_pos c15] at H
            have c15b0 : decide (x5_1 < (l0.length : Int)) = true := decide_eq_true c15
            clear c15
            by_cases c16 : x6_3 < (((rd_T38 l0 x5_1).f2).length : Int)
            ·rw [if_pos c16] at H
             have c16b0 : decide (x6_3 < (((rd_T38 l0 x5_1).f2).length : Int)) = true := decide_eq_true c16
             clear c16
             by_cases c17 : 0 ≤ x6_3
             ·rw [if_pos c17] at H
              have c17b0 : decide (0 ≤ x6_3) = true := decide_eq_true c17
              clear c17
              by_cases c18 : x5_1 < (l1.length : Int)
              ·rw [if_pos c18] at H
               have c18b0 : decide (x5_1 < (l1.length : Int)) = true := decide_eq_true c18
               clear c18
               by_cases c19 : x6_3 < (((rd_T38 l1 x5_1).f2).length : Int)
               ·rw [if_pos c19] at H
                have c19b0 : decide (x6_3 < (((rd_T38 l1 x5_1).f2).length : Int)) = true := decide_eq_true c19
                clear c19
                replace H := Option.bind_eq_some_iff.mp H
                obtain ⟨t246, A200, H⟩ := H
                replace H : (if t246 = true then (variorumref06_Same.l1 k3 l0 l1 x5_1 (wrap64 (x6_3 + 1))) else (some false)) = some r := H
                have A20 := a_ A200
                clear A200
                by_cases c21 : t246 = true
                ·subst c21
                 have H1 : (variorumref06_Same.l1 k3 l0 l1 x5_1 (wrap64 (x6_3 + 1))) = some r := by rw [if_pos rfl] at H; exact H
                 clear H
                 have H := H1
                 clear H1
                 have H' := a_ H
                 clear H
                 have p241 : 0 ≤ (x5_1 : Int) := od_
                 have q241 : x5_1 < (l0.length : Int) := od_
                 obtain ⟨ad241, A241_2, c241_2, e241, hx241_0, hx241_1, hx241_2, hx241_3, hl241_2, hi241_2⟩ := at_T38 HR0.out x5_1 p241 q241
                 cases e241
                 try replace hx241_0 := up_ HB.out hx241_0
                 try replace hx241_1 := up_ HB.out hx241_1
                 try replace hx241_2 := up_ HB.out hx241_2
                 try replace hx241_3 := up_ HB.out hx241_3
                 have HR241_2 := a_ hi241_2
                 have HC241_2 := a_ hl241_2
                 clear hi241_2 hl241_2
                 replace p241 := eq_true p241
                 replace q241 := eq_true q241
                 try go_wp2
                 have n0_ := a_ (below_drew1 HB.out)
                 clear HB
                 have HB := n0_
                 clear n0_
                 have p242 : 0 ≤ (x5_1 : Int) := od_
                 have q242 : x5_1 < (l0.length : Int) := od_
                 obtain ⟨ad242, A242_2, c242_2, e242, hx242_0, hx242_1, hx242_2, hx242_3, hl242_2, hi242_2⟩ := at_T38 HR0.out x5_1 p242 q242
                 have hw242_3 := hx242_3
                 have hw242_2 := hx242_2
                 have hw242_1 := hx242_1
                 have hw242_0 := hx242_0
                 obtain rfl : ad241 = ad242 := (by injection e242)
                 try replace hx242_0 := up_ HB.out hx242_0
                 try replace hx242_1 := up_ HB.out hx242_1
                 try replace hx242_2 := up_ HB.out hx242_2
                 try replace hx242_3 := up_ HB.out hx242_3
                 have HR242_2 := a_ hi242_2
                 have HC242_2 := a_ hl242_2
                 clear hi242_2 hl242_2
                 replace p242 := eq_true p242
                 replace q242 := eq_true q242
                 have p243 : 0 ≤ (x6_3 : Int) := od_
                 have q243 : x6_3 < (((rd_T38 l0 x5_1).f2).length : Int) := od_
                 obtain ⟨ad243, A243_0, c243_0, e243, hx243_0, hl243_0, hi243_0⟩ := at_L5 HR242_2.out x6_3 p243 q243
                 have hw243_0 := hx243_0
                 cases e243
                 try replace hx243_0 := up_ HB.out hx243_0
                 have HR243_0 := a_ hi243_0
                 have HC243_0 := a_ hl243_0
                 clear hi243_0 hl243_0
                 replace p243 := eq_true p243
                 replace q243 := eq_true q243
                 have p244 : 0 ≤ (x5_1 : Int) := od_
                 have q244 : x5_1 < (l1.length : Int) := od_
                 obtain ⟨ad244, A244_2, c244_2, e244, hx244_0, hx244_1, hx244_2, hx244_3, hl244_2, hi244_2⟩ := at_T38 HR1.out x5_1 p244 q244
                 have hw244_3 := hx244_3
                 have hw244_2 := hx244_2
                 have hw244_1 := hx244_1
                 have hw244_0 := hx244_0
                 cases e244
                 try replace hx244_0 := up_ HB.out hx244_0
                 try replace hx244_1 := up_ HB.out hx244_1
                 try replace hx244_2 := up_ HB.out hx244_2
                 try replace hx244_3 := up_ HB.out hx244_3
                 have HR244_2 := a_ hi244_2
                 have HC244_2 := a_ hl244_2
                 clear hi244_2 hl244_2
                 replace p244 := eq_true p244
                 replace q244 := eq_true q244
                 have p245 : 0 ≤ (x6_3 : Int) := od_
                 have q245 : x6_3 < (((rd_T38 l1 x5_1).f2).length : Int) := od_
                 obtain ⟨ad245, A245_0, c245_0, e245, hx245_0, hl245_0, hi245_0⟩ := at_L5 HR244_2.out x6_3 p245 q245
                 have hw245_0 := hx245_0
                 cases e245
                 try replace hx245_0 := up_ HB.out hx245_0
                 have HR245_0 := a_ hi245_0
                 have HC245_0 := a_ hl245_0
                 clear hi245_0 hl245_0
                 replace p245 := eq_true p245
                 replace q245 := eq_true q245
                 refine start_ (n := 18) (S := fun w' => w'.cell? (ad241.add ((x5_1).toNat * 4)) = some (.bool ((rd_T38 l0 x5_1).f0)) ∧ w'.cell? ⟨(ad241.add ((x5_1).toNat * 4)).block, (ad241.add ((x5_1).toNat * 4)).off + 1, none⟩ = some (.string ((rd_T38 l0 x5_1).f1)) ∧ w'.cell? ⟨(ad241.add ((x5_1).toNat * 4)).block, (ad241.add ((x5_1).toNat * 4)).off + 2, none⟩ = some (.slice (some ad243) ((rd_T38 l0 x5_1).f2).length c242_2) ∧ w'.cell? ⟨(ad241.add ((x5_1).toNat * 4)).block, (ad241.add ((x5_1).toNat * 4)).off + 3, none⟩ = some (.int .i64 ((rd_T38 l0 x5_1).f3)) ∧ w'.cell? (ad243.add (x6_3).toNat) = some (.slice A243_0 (rd_L5 ((rd_T38 l0 x5_1).f2) x6_3).length c243_0) ∧ w'.cell? (ad244.add ((x5_1).toNat * 4)) = some (.bool ((rd_T38 l1 x5_1).f0)) ∧ w'.cell? ⟨(ad244.add ((x5_1).toNat * 4)).block, (ad244.add ((x5_1).toNat * 4)).off + 1, none⟩ = some (.string ((rd_T38 l1 x5_1).f1)) ∧ w'.cell? ⟨(ad244.add ((x5_1).toNat * 4)).block, (ad244.add ((x5_1).toNat * 4)).off + 2, none⟩ = some (.slice (some ad245) ((rd_T38 l1 x5_1).f2).length c244_2) ∧ w'.cell? ⟨(ad244.add ((x5_1).toNat * 4)).block, (ad244.add ((x5_1).toNat * 4)).off + 3, none⟩ = some (.int .i64 ((rd_T38 l1 x5_1).f3)) ∧ w'.cell? (ad245.add (x6_3).toNat) = some (.slice A245_0 (rd_L5 ((rd_T38 l1 x5_1).f2) x6_3).length c245_0)) (ds := []) #[false, false, false, false, false, false, false, false, false, false, false, false, false, false, false, false, false, false] (by kernel_rfl) rfl rfl ⟨(up_ HB.out hw242_0), (up_ HB.out hw242_1), (up_ HB.out hw242_2), (up_ HB.out hw242_3), (up_ HB.out hw243_0), (up_ HB.out hw244_0), (up_ HB.out hw244_1), (up_ HB.out hw244_2), (up_ HB.out hw244_3), (up_ HB.out hw245_0)⟩ (fun hHeld => ?_); refine with_tabW variorumref06_Same.tab11 variorumref06_Same.bits11 (fun HT_ HW_ => ?_)
                 generalize wr.drew = w22 at HB HR242_2 HR243_0 HR244_2 HR245_0 hx242_0 hx242_1 hx242_2 hx242_3 hx243_0 hx244_0 hx244_1 hx244_2 hx244_3 hx245_0 hHeld ⊢
                 refine pure_ (i := 0) (N := some 67) #[true, false, false, false, false, false, false, false, false, false, false, false, false, false, false, false, false, false] rfl rfl (any_of HT_.out (by kernel_rfl)) (fun _ _ _ h => h) (Or.inl ⟨by rfl, fun w' => by go_simp; with_reducible rfl⟩) (by simp only [Act.put, List.setIfInBounds_toArray, List.set_cons_zero, List.set_cons_succ, i64_w, i32_w]; rfl) ?_
                 refine pure_ (i := 1) (N := some 68) #[true, true, false, false, false, false, false, false, false, false, false, false, false, false, false, false, false, false] rfl rfl (any_of HT_.out (by kernel_rfl)) (fun _ _ _ h => h) (Or.inl ⟨by rfl, fun w' => by go_simp; with_reducible rfl⟩) (by simp only [Act.put, List.setIfInBounds_toArray, List.set_cons_zero, List.set_cons_succ, i64_w, i32_w]; rfl) ?_
                 refine pure_ (i := 2) (N := some 69) #[true, true, true, false, false, false, false, false, false, false, false, false, false, false, false, false, false, false] rfl rfl (any_of HT_.out (by kernel_rfl)) (fun _ _ _ h => h) (Or.inl ⟨by rfl, fun w' => by go_simp; with_reducible rfl⟩) (by simp only [Act.put, List.setIfInBounds_toArray, List.set_cons_zero, List.set_cons_succ, i64_w, i32_w]; rfl) ?_
                 refine pure_ (i := 3) (N := some 70) #[true, true, true, true, false, false, false, false, false, false, false, false, false, false, false, false, false, false] rfl rfl (any_of HT_.out (by kernel_rfl)) (fun _ _ _ h => h) (Or.inl ⟨by rfl, fun w' => by go_simp; with_reducible rfl⟩) (by simp only [Act.put, List.setIfInBounds_toArray, List.set_cons_zero, List.set_cons_succ, i64_w, i32_w]; rfl) ?_
                 refine pure_ (i := 5) (N := some 72) #[true, true, true, true, false, true, false, false, false, false, false, false, false, false, false, false, false, false] rfl rfl (any_of HT_.out (by kernel_rfl)) (fun _ _ _ h => h) (Or.inl ⟨by rfl, fun w' => by go_simp; with_reducible rfl⟩) (by simp only [Act.put, List.setIfInBounds_toArray, List.set_cons_zero, List.set_cons_succ, i64_w, i32_w]; rfl) ?_
                 refine pure_ (i := 8) (N := some 75) #[true, true, true, true, false, true, false, false, true, false, false, false, false, false, false, false, false, false] rfl rfl (any_of HT_.out (by kernel_rfl)) (fun _ _ _ h => h) (Or.inl ⟨by rfl, fun w' => by go_simp; with_reducible rfl⟩) (by simp only [Act.put, List.setIfInBounds_toArray, List.set_cons_zero, List.set_cons_succ, i64_w, i32_w]; rfl) ?_
                 refine pure_ (i := 9) (N := some 76) #[true, true, true, true, false, true, false, false, true, true, false, false, false, false, false, false, false, false] rfl rfl (any_of HT_.out (by kernel_rfl)) (fun _ _ _ h => h) (Or.inl ⟨by rfl, fun w' => by go_simp; with_reducible rfl⟩) (by simp only [Act.put, List.setIfInBounds_toArray, List.set_cons_zero, List.set_cons_succ, i64_w, i32_w]; rfl) ?_
                 refine pure_ (i := 10) (N := some 77) #[true, true, true, true, false, true, false, false, true, true, true, false, false, false, false, false, false, false] rfl rfl (any_of HT_.out (by kernel_rfl)) (fun _ _ _ h => h) (Or.inl ⟨by rfl, fun w' => by go_simp; with_reducible rfl⟩) (by simp only [Act.put, List.setIfInBounds_toArray, List.set_cons_zero, List.set_cons_succ, i64_w, i32_w]; rfl) ?_
                 refine pure_ (i := 11) (N := some 78) #[true, true, true, true, false, true, false, false, true, true, true, true, false, false, false, false, false, false] rfl rfl (any_of HT_.out (by kernel_rfl)) (fun _ _ _ h => h) (Or.inl ⟨by rfl, fun w' => by go_simp; with_reducible rfl⟩) (by simp only [Act.put, List.setIfInBounds_toArray, List.set_cons_zero, List.set_cons_succ, i64_w, i32_w]; rfl) ?_
                 refine pure_ (i := 13) (N := some 80) #[true, true, true, true, false, true, false, false, true, true, true, true, false, true, false, false, false, false] rfl rfl (any_of HT_.out (by kernel_rfl)) (fun _ _ _ h => h) (Or.inl ⟨by rfl, fun w' => by go_simp; with_reducible rfl⟩) (by simp only [Act.put, List.setIfInBounds_toArray, List.set_cons_zero, List.set_cons_succ, i64_w, i32_w]; rfl) ?_
                 refine take_ (i := 4) (N := some 71) (v := ?_) (a' := ?_) #[true, true, true, true, true, true, false, false, true, true, true, true, false, true, false, false, false, false] rfl rfl (take_ofW HT_.out HW_.out (by kernel_rfl)) (fun _ _ _ h => h) (Or.inl ⟨by rfl, ?_⟩) hHeld ?_ ?_
                 rotate_left
                 ·rintro w' ⟨s0, s1, s2, s3, s4, s5, s6, s7, s8, s9⟩
                  go_simp
                  with_reducible rfl
                 rotate_left
                 ·simp only [Act.put, List.setIfInBounds_toArray, List.set_cons_zero, List.set_cons_succ, i64_w, i32_w]
                  rfl
                 refine pure_ (i := 6) (N := some 73) #[true, true, true, true, true, true, true, false, true, true, true, true, false, true, false, false, false, false] rfl rfl (any_of HT_.out (by kernel_rfl)) (fun _ _ _ h => h) (Or.inl ⟨by rfl, fun w' => by go_simp; with_reducible rfl⟩) (by simp only [Act.put, List.setIfInBounds_toArray, List.set_cons_zero, List.set_cons_succ, i64_w, i32_w]; rfl) ?_
                 refine take_ (i := 7) (N := some 74) (v := ?_) (a' := ?_) #[true, true, true, true, true, true, true, true, true, true, true, true, false, true, false, false, false, false] rfl rfl (take_ofW HT_.out HW_.out (by kernel_rfl)) (fun _ _ _ h => h) (Or.inl ⟨by rfl, ?_⟩) hHeld ?_ ?_
                 rotate_left
                 ·rintro w' ⟨s0, s1, s2, s3, s4, s5, s6, s7, s8, s9⟩
                  go_simp
                  with_reducible rfl
                 rotate_left
                 ·simp only [Act.put, List.setIfInBounds_toArray, List.set_cons_zero, List.set_cons_succ, i64_w, i32_w]
                  rfl
                 refine take_ (i := 12) (N := some 79) (v := ?_) (a' := ?_) #[true, true, true, true, true, true, true, true, true, true, true, true, true, true, false, false, false, false] rfl rfl (take_ofW HT_.out HW_.out (by kernel_rfl)) (fun _ _ _ h => h) (Or.inl ⟨by rfl, ?_⟩) hHeld ?_ ?_
                 rotate_left
                 ·rintro w' ⟨s0, s1, s2, s3, s4, s5, s6, s7, s8, s9⟩
                  go_simp
                  with_reducible rfl
                 rotate_left
                 ·simp only [Act.put, List.setIfInBounds_toArray, List.set_cons_zero, List.set_cons_succ, i64_w, i32_w]
                  rfl
                 refine pure_ (i := 14) (N := some 81) #[true, true, true, true, true, true, true, true, true, true, true, true, true, true, true, false, false, false] rfl rfl (any_of HT_.out (by kernel_rfl)) (fun _ _ _ h => h) (Or.inl ⟨by rfl, fun w' => by go_simp; with_reducible rfl⟩) (by simp only [Act.put, List.setIfInBounds_toArray, List.set_cons_zero, List.set_cons_succ, i64_w, i32_w]; rfl) ?_
                 refine take_ (i := 15) (N := some 82) (v := ?_) (a' := ?_) #[true, true, true, true, true, true, true, true, true, true, true, true, true, true, true, true, false, false] rfl rfl (take_ofW HT_.out HW_.out (by kernel_rfl)) (fun _ _ _ h => h) (Or.inl ⟨by rfl, ?_⟩) hHeld ?_ ?_
                 rotate_left
                 ·rintro w' ⟨s0, s1, s2, s3, s4, s5, s6, s7, s8, s9⟩
                  go_simp
                  with_reducible rfl
                 rotate_left
                 ·simp only [Act.put, List.setIfInBounds_toArray, List.set_cons_zero, List.set_cons_succ, i64_w, i32_w]
                  rfl
                 refine one_ (i := 16) (N := some 83) #[true, true, true, true, true, true, true, true, true, true, true, true, true, true, true, true, true, false] rfl rfl (one_of HT_.out (by kernel_rfl)) (by decide) (fun K hK => ?_)
                 refine goes_ Try.func25 (by kernel_rfl) rfl #[.slice A243_0 (rd_L5 ((rd_T38 l0 x5_1).f2) x6_3).length c243_0, .slice A245_0 (rd_L5 ((rd_T38 l1 x5_1).f2) x6_3).length c245_0] (by rfl) rfl rfl (by (try simp only [List.map_toArray, List.map_cons, List.map_nil]); first | done | rfl | (simp only [List.length_drop, List.length_take]; rfl) | (simp only [*]; first | done | rfl)) ?_
                 with_reducible refine (ih k3 (by have := HK1.out; have := HJ4.out; have := HK3.out; omega) _ _ (rd_L5 ((rd_T38 l0 x5_1).f2) x6_3) _ _ (rd_L5 ((rd_T38 l1 x5_1).f2) x6_3) true _ ?side1 ?side2 ?side3 ?side4 A20.out).mono ?_
                 (case side1 => exact cw_ HR243_0.out HB.out)
                 (case side2 => exact HC243_0.out)
                 (case side3 => exact cw_ HR245_0.out HB.out)
                 (case side4 => exact HC245_0.out)
                 rintro e w23 ⟨rfl, hb⟩
                 refine ⟨_, rfl, ?_⟩
                 have n0_ := a_ (bs_ HB.out hb)
                 clear HB
                 have HB := n0_
                 clear n0_
                 (try clear hb)
                 (try clear hb2)
                 (try clear hk)
                 (try clear hi)
                 refine hK.out _ _ ⟨(up_ HB.out hw242_0), (up_ HB.out hw242_1), (up_ HB.out hw242_2), (up_ HB.out hw242_3), (up_ HB.out hw243_0), (up_ HB.out hw244_0), (up_ HB.out hw244_1), (up_ HB.out hw244_2), (up_ HB.out hw244_3), (up_ HB.out hw245_0)⟩ (fun hHeld => ?_)
                 clear hK K
                 refine norm_ (a' := ?_) ?_ ?_
                 rotate_left
                 ·show Act.put _ (some 83) _ = _
                  simp only [Act.put, List.setIfInBounds_toArray, List.set_cons_zero, List.set_cons_succ, i64_w, i32_w]
                  rfl
                 refine pure_ (i := 17) (N := some 84) #[true, true, true, true, true, true, true, true, true, true, true, true, true, true, true, true, true, true] rfl rfl (any_of HT_.out (by kernel_rfl)) (fun _ _ _ h => h) (Or.inl ⟨by rfl, fun w' => by go_simp; with_reducible rfl⟩) (by simp only [Act.put, List.setIfInBounds_toArray, List.set_cons_zero, List.set_cons_succ, i64_w, i32_w]; rfl) ?_
                 refine done_ (done_of HT_.out (by kernel_rfl)) ?_
                 try go_wp2
                 go_roundg k3
                 case measure => have := HK1.out; have := HJ4.out; have := HK3.out; omega
                 case rel => exact ⟨(wrap64 (x6_3 + 1)), (by first | rfl | (simp; done) | (simp [*]; done)), H', ⟨by have := HK1.out; have := HJ4.out; have := HK3.out; omega⟩, ⟨bv_ HB.out⟩⟩
                ·replace c21 := Bool.eq_false_iff.mpr c21
                 subst c21
                 have H1 : (some false) = some r := by rw [if_neg (show ¬ (false = true) by decide)] at H; exact H
                 clear H
                 have H := H1
                 clear H1
                 obtain rfl := Option.some.inj H
                 have p241 : 0 ≤ (x5_1 : Int) := od_
                 have q241 : x5_1 < (l0.length : Int) := od_
                 obtain ⟨ad241, A241_2, c241_2, e241, hx241_0, hx241_1, hx241_2, hx241_3, hl241_2, hi241_2⟩ := at_T38 HR0.out x5_1 p241 q241
                 cases e241
                 try replace hx241_0 := up_ HB.out hx241_0
                 try replace hx241_1 := up_ HB.out hx241_1
                 try replace hx241_2 := up_ HB.out hx241_2
                 try replace hx241_3 := up_ HB.out hx241_3
                 have HR241_2 := a_ hi241_2
                 have HC241_2 := a_ hl241_2
                 clear hi241_2 hl241_2
                 replace p241 := eq_true p241
                 replace q241 := eq_true q241
                 try go_wp2
                 have n0_ := a_ (below_drew1 HB.out)
                 clear HB
                 have HB := n0_
                 clear n0_
                 have p242 : 0 ≤ (x5_1 : Int) := od_
                 have q242 : x5_1 < (l0.length : Int) := od_
                 obtain ⟨ad242, A242_2, c242_2, e242, hx242_0, hx242_1, hx242_2, hx242_3, hl242_2, hi242_2⟩ := at_T38 HR0.out x5_1 p242 q242
                 have hw242_3 := hx242_3
                 have hw242_2 := hx242_2
                 have hw242_1 := hx242_1
                 have hw242_0 := hx242_0
                 obtain rfl : ad241 = ad242 := (by injection e242)
                 try replace hx242_0 := up_ HB.out hx242_0
                 try replace hx242_1 := up_ HB.out hx242_1
                 try replace hx242_2 := up_ HB.out hx242_2
                 try replace hx242_3 := up_ HB.out hx242_3
                 have HR242_2 := a_ hi242_2
                 have HC242_2 := a_ hl242_2
                 clear hi242_2 hl242_2
                 replace p242 := eq_true p242
                 replace q242 := eq_true q242
                 have p243 : 0 ≤ (x6_3 : Int) := od_
                 have q243 : x6_3 < (((rd_T38 l0 x5_1).f2).length : Int) := od_
                 obtain ⟨ad243, A243_0, c243_0, e243, hx243_0, hl243_0, hi243_0⟩ := at_L5 HR242_2.out x6_3 p243 q243
                 have hw243_0 := hx243_0
                 cases e243
                 try replace hx243_0 := up_ HB.out hx243_0
                 have HR243_0 := a_ hi243_0
                 have HC243_0 := a_ hl243_0
                 clear hi243_0 hl243_0
                 replace p243 := eq_true p243
                 replace q243 := eq_true q243
                 have p244 : 0 ≤ (x5_1 : Int) := od_
                 have q244 : x5_1 < (l1.length : Int) := od_
                 obtain ⟨ad244, A244_2, c244_2, e244, hx244_0, hx244_1, hx244_2, hx244_3, hl244_2, hi244_2⟩ := at_T38 HR1.out x5_1 p244 q244
                 have hw244_3 := hx244_3
                 have hw244_2 := hx244_2
                 have hw244_1 := hx244_1
                 have hw244_0 := hx244_0
                 cases e244
                 try replace hx244_0 := up_ HB.out hx244_0
                 try replace hx244_1 := up_ HB.out hx244_1
                 try replace hx244_2 := up_ HB.out hx244_2
                 try replace hx244_3 := up_ HB.out hx244_3
                 have HR244_2 := a_ hi244_2
                 have HC244_2 := a_ hl244_2
                 clear hi244_2 hl244_2
                 replace p244 := eq_true p244
                 replace q244 := eq_true q244
                 have p245 : 0 ≤ (x6_3 : Int) := od_
                 have q245 : x6_3 < (((rd_T38 l1 x5_1).f2).length : Int) := od_
                 obtain ⟨ad245, A245_0, c245_0, e245, hx245_0, hl245_0, hi245_0⟩ := at_L5 HR244_2.out x6_3 p245 q245
                 have hw245_0 := hx245_0
                 cases e245
                 try replace hx245_0 := up_ HB.out hx245_0
                 have HR245_0 := a_ hi245_0
                 have HC245_0 := a_ hl245_0
                 clear hi245_0 hl245_0
                 replace p245 := eq_true p245
                 replace q245 := eq_true q245
                 refine start_ (n := 18) (S := fun w' => w'.cell? (ad241.add ((x5_1).toNat * 4)) = some (.bool ((rd_T38 l0 x5_1).f0)) ∧ w'.cell? ⟨(ad241.add ((x5_1).toNat * 4)).block, (ad241.add ((x5_1).toNat * 4)).off + 1, none⟩ = some (.string ((rd_T38 l0 x5_1).f1)) ∧ w'.cell? ⟨(ad241.add ((x5_1).toNat * 4)).block, (ad241.add ((x5_1).toNat * 4)).off + 2, none⟩ = some (.slice (some ad243) ((rd_T38 l0 x5_1).f2).length c242_2) ∧ w'.cell? ⟨(ad241.add ((x5_1).toNat * 4)).block, (ad241.add ((x5_1).toNat * 4)).off + 3, none⟩ = some (.int .i64 ((rd_T38 l0 x5_1).f3)) ∧ w'.cell? (ad243.add (x6_3).toNat) = some (.slice A243_0 (rd_L5 ((rd_T38 l0 x5_1).f2) x6_3).length c243_0) ∧ w'.cell? (ad244.add ((x5_1).toNat * 4)) = some (.bool ((rd_T38 l1 x5_1).f0)) ∧ w'.cell? ⟨(ad244.add ((x5_1).toNat * 4)).block, (ad244.add ((x5_1).toNat * 4)).off + 1, none⟩ = some (.string ((rd_T38 l1 x5_1).f1)) ∧ w'.cell? ⟨(ad244.add ((x5_1).toNat * 4)).block, (ad244.add ((x5_1).toNat * 4)).off + 2, none⟩ = some (.slice (some ad245) ((rd_T38 l1 x5_1).f2).length c244_2) ∧ w'.cell? ⟨(ad244.add ((x5_1).toNat * 4)).block, (ad244.add ((x5_1).toNat * 4)).off + 3, none⟩ = some (.int .i64 ((rd_T38 l1 x5_1).f3)) ∧ w'.cell? (ad245.add (x6_3).toNat) = some (.slice A245_0 (rd_L5 ((rd_T38 l1 x5_1).f2) x6_3).length c245_0)) (ds := []) #[false, false, false, false, false, false, false, false, false, false, false, false, false, false, false, false, false, false] (by kernel_rfl) rfl rfl ⟨(up_ HB.out hw242_0), (up_ HB.out hw242_1), (up_ HB.out hw242_2), (up_ HB.out hw242_3), (up_ HB.out hw243_0), (up_ HB.out hw244_0), (up_ HB.out hw244_1), (up_ HB.out hw244_2), (up_ HB.out hw244_3), (up_ HB.out hw245_0)⟩ (fun hHeld => ?_); refine with_tabW variorumref06_Same.tab11 variorumref06_Same.bits11 (fun HT_ HW_ => ?_)
                 generalize wr.drew = w24 at HB HR242_2 HR243_0 HR244_2 HR245_0 hx242_0 hx242_1 hx242_2 hx242_3 hx243_0 hx244_0 hx244_1 hx244_2 hx244_3 hx245_0 hHeld ⊢
                 refine pure_ (i := 0) (N := some 67) #[true, false, false, false, false, false, false, false, false, false, false, false, false, false, false, false, false, false] rfl rfl (any_of HT_.out (by kernel_rfl)) (fun _ _ _ h => h) (Or.inl ⟨by rfl, fun w' => by go_simp; with_reducible rfl⟩) (by simp only [Act.put, List.setIfInBounds_toArray, List.set_cons_zero, List.set_cons_succ, i64_w, i32_w]; rfl) ?_
                 refine pure_ (i := 1) (N := some 68) #[true, true, false, false, false, false, false, false, false, false, false, false, false, false, false, false, false, false] rfl rfl (any_of HT_.out (by kernel_rfl)) (fun _ _ _ h => h) (Or.inl ⟨by rfl, fun w' => by go_simp; with_reducible rfl⟩) (by simp only [Act.put, List.setIfInBounds_toArray, List.set_cons_zero, List.set_cons_succ, i64_w, i32_w]; rfl) ?_
                 refine pure_ (i := 2) (N := some 69) #[true, true, true, false, false, false, false, false, false, false, false, false, false, false, false, false, false, false] rfl rfl (any_of HT_.out (by kernel_rfl)) (fun _ _ _ h => h) (Or.inl ⟨by rfl, fun w' => by go_simp; with_reducible rfl⟩) (by simp only [Act.put, List.setIfInBounds_toArray, List.set_cons_zero, List.set_cons_succ, i64_w, i32_w]; rfl) ?_
                 refine pure_ (i := 3) (N := some 70) #[true, true, true, true, false, false, false, false, false, false, false, false, false, false, false, false, false, false] rfl rfl (any_of HT_.out (by kernel_rfl)) (fun _ _ _ h => h) (Or.inl ⟨by rfl, fun w' => by go_simp; with_reducible rfl⟩) (by simp only [Act.put, List.setIfInBounds_toArray, List.set_cons_zero, List.set_cons_succ, i64_w, i32_w]; rfl) ?_
                 refine pure_ (i := 5) (N := some 72) #[true, true, true, true, false, true, false, false, false, false, false, false, false, false, false, false, false, false] rfl rfl (any_of HT_.out (by kernel_rfl)) (fun _ _ _ h => h) (Or.inl ⟨by rfl, fun w' => by go_simp; with_reducible rfl⟩) (by simp only [Act.put, List.setIfInBounds_toArray, List.set_cons_zero, List.set_cons_succ, i64_w, i32_w]; rfl) ?_
                 refine pure_ (i := 8) (N := some 75) #[true, true, true, true, false, true, false, false, true, false, false, false, false, false, false, false, false, false] rfl rfl (any_of HT_.out (by kernel_rfl)) (fun _ _ _ h => h) (Or.inl ⟨by rfl, fun w' => by go_simp; with_reducible rfl⟩) (by simp only [Act.put, List.setIfInBounds_toArray, List.set_cons_zero, List.set_cons_succ, i64_w, i32_w]; rfl) ?_
                 refine pure_ (i := 9) (N := some 76) #[true, true, true, true, false, true, false, false, true, true, false, false, false, false, false, false, false, false] rfl rfl (any_of HT_.out (by kernel_rfl)) (fun _ _ _ h => h) (Or.inl ⟨by rfl, fun w' => by go_simp; with_reducible rfl⟩) (by simp only [Act.put, List.setIfInBounds_toArray, List.set_cons_zero, List.set_cons_succ, i64_w, i32_w]; rfl) ?_
                 refine pure_ (i := 10) (N := some 77) #[true, true, true, true, false, true, false, false, true, true, true, false, false, false, false, false, false, false] rfl rfl (any_of HT_.out (by kernel_rfl)) (fun _ _ _ h => h) (Or.inl ⟨by rfl, fun w' => by go_simp; with_reducible rfl⟩) (by simp only [Act.put, List.setIfInBounds_toArray, List.set_cons_zero, List.set_cons_succ, i64_w, i32_w]; rfl) ?_
                 refine pure_ (i := 11) (N := some 78) #[true, true, true, true, false, true, false, false, true, true, true, true, false, false, false, false, false, false] rfl rfl (any_of HT_.out (by kernel_rfl)) (fun _ _ _ h => h) (Or.inl ⟨by rfl, fun w' => by go_simp; with_reducible rfl⟩) (by simp only [Act.put, List.setIfInBounds_toArray, List.set_cons_zero, List.set_cons_succ, i64_w, i32_w]; rfl) ?_
                 refine pure_ (i := 13) (N := some 80) #[true, true, true, true, false, true, false, false, true, true, true, true, false, true, false, false, false, false] rfl rfl (any_of HT_.out (by kernel_rfl)) (fun _ _ _ h => h) (Or.inl ⟨by rfl, fun w' => by go_simp; with_reducible rfl⟩) (by simp only [Act.put, List.setIfInBounds_toArray, List.set_cons_zero, List.set_cons_succ, i64_w, i32_w]; rfl) ?_
                 refine take_ (i := 4) (N := some 71) (v := ?_) (a' := ?_) #[true, true, true, true, true, true, false, false, true, true, true, true, false, true, false, false, false, false] rfl rfl (take_ofW HT_.out HW_.out (by kernel_rfl)) (fun _ _ _ h => h) (Or.inl ⟨by rfl, ?_⟩) hHeld ?_ ?_
                 rotate_left
                 ·rintro w' ⟨s0, s1, s2, s3, s4, s5, s6, s7, s8, s9⟩
                  go_simp
                  with_reducible rfl
                 rotate_left
                 ·simp only [Act.put, List.setIfInBounds_toArray, List.set_cons_zero, List.set_cons_succ, i64_w, i32_w]
                  rfl
                 refine pure_ (i := 6) (N := some 73) #[true, true, true, true, true, true, true, false, true, true, true, true, false, true, false, false, false, false] rfl rfl (any_of HT_.out (by kernel_rfl)) (fun _ _ _ h => h) (Or.inl ⟨by rfl, fun w' => by go_simp; with_reducible rfl⟩) (by simp only [Act.put, List.setIfInBounds_toArray, List.set_cons_zero, List.set_cons_succ, i64_w, i32_w]; rfl) ?_
                 refine take_ (i := 7) (N := some 74) (v := ?_) (a' := ?_) #[true, true, true, true, true, true, true, true, true, true, true, true, false, true, false, false, false, false] rfl rfl (take_ofW HT_.out HW_.out (by kernel_rfl)) (fun _ _ _ h => h) (Or.inl ⟨by rfl, ?_⟩) hHeld ?_ ?_
                 rotate_left
                 ·rintro w' ⟨s0, s1, s2, s3, s4, s5, s6, s7, s8, s9⟩
                  go_simp
                  with_reducible rfl
                 rotate_left
                 ·simp only [Act.put, List.setIfInBounds_toArray, List.set_cons_zero, List.set_cons_succ, i64_w, i32_w]
                  rfl
                 refine take_ (i := 12) (N := some 79) (v := ?_) (a' := ?_) #[true, true, true, true, true, true, true, true, true, true, true, true, true, true, false, false, false, false] rfl rfl (take_ofW HT_.out HW_.out (by kernel_rfl)) (fun _ _ _ h => h) (Or.inl ⟨by rfl, ?_⟩) hHeld ?_ ?_
                 rotate_left
                 ·rintro w' ⟨s0, s1, s2, s3, s4, s5, s6, s7, s8, s9⟩
                  go_simp
                  with_reducible rfl
                 rotate_left
                 ·simp only [Act.put, List.setIfInBounds_toArray, List.set_cons_zero, List.set_cons_succ, i64_w, i32_w]
                  rfl
                 refine pure_ (i := 14) (N := some 81) #[true, true, true, true, true, true, true, true, true, true, true, true, true, true, true, false, false, false] rfl rfl (any_of HT_.out (by kernel_rfl)) (fun _ _ _ h => h) (Or.inl ⟨by rfl, fun w' => by go_simp; with_reducible rfl⟩) (by simp only [Act.put, List.setIfInBounds_toArray, List.set_cons_zero, List.set_cons_succ, i64_w, i32_w]; rfl) ?_
                 refine take_ (i := 15) (N := some 82) (v := ?_) (a' := ?_) #[true, true, true, true, true, true, true, true, true, true, true, true, true, true, true, true, false, false] rfl rfl (take_ofW HT_.out HW_.out (by kernel_rfl)) (fun _ _ _ h => h) (Or.inl ⟨by rfl, ?_⟩) hHeld ?_ ?_
                 rotate_left
                 ·rintro w' ⟨s0, s1, s2, s3, s4, s5, s6, s7, s8, s9⟩
                  go_simp
                  with_reducible rfl
                 rotate_left
                 ·simp only [Act.put, List.setIfInBounds_toArray, List.set_cons_zero, List.set_cons_succ, i64_w, i32_w]
                  rfl
                 refine one_ (i := 16) (N := some 83) #[true, true, true, true, true, true, true, true, true, true, true, true, true, true, true, true, true, false] rfl rfl (one_of HT_.out (by kernel_rfl)) (by decide) (fun K hK => ?_)
                 refine goes_ Try.func25 (by kernel_rfl) rfl #[.slice A243_0 (rd_L5 ((rd_T38 l0 x5_1).f2) x6_3).length c243_0, .slice A245_0 (rd_L5 ((rd_T38 l1 x5_1).f2) x6_3).length c245_0] (by rfl) rfl rfl (by (try simp only [List.map_toArray, List.map_cons, List.map_nil]); first | done | rfl | (simp only [List.length_drop, List.length_take]; rfl) | (simp only [*]; first | done | rfl)) ?_
                 with_reducible refine (ih k3 (by have := HK1.out; have := HJ4.out; have := HK3.out; omega) _ _ (rd_L5 ((rd_T38 l0 x5_1).f2) x6_3) _ _ (rd_L5 ((rd_T38 l1 x5_1).f2) x6_3) false _ ?side1 ?side2 ?side3 ?side4 A20.out).mono ?_
                 (case side1 => exact cw_ HR243_0.out HB.out)
                 (case side2 => exact HC243_0.out)
                 (case side3 => exact cw_ HR245_0.out HB.out)
                 (case side4 => exact HC245_0.out)
                 rintro e w25 ⟨rfl, hb⟩
                 refine ⟨_, rfl, ?_⟩
                 have n0_ := a_ (bs_ HB.out hb)
                 clear HB
                 have HB := n0_
                 clear n0_
                 (try clear hb)
                 (try clear hb2)
                 (try clear hk)
                 (try clear hi)
                 refine hK.out _ _ ⟨(up_ HB.out hw242_0), (up_ HB.out hw242_1), (up_ HB.out hw242_2), (up_ HB.out hw242_3), (up_ HB.out hw243_0), (up_ HB.out hw244_0), (up_ HB.out hw244_1), (up_ HB.out hw244_2), (up_ HB.out hw244_3), (up_ HB.out hw245_0)⟩ (fun hHeld => ?_)
                 clear hK K
                 refine norm_ (a' := ?_) ?_ ?_
                 rotate_left
                 ·show Act.put _ (some 83) _ = _
                  simp only [Act.put, List.setIfInBounds_toArray, List.set_cons_zero, List.set_cons_succ, i64_w, i32_w]
                  rfl
                 refine pure_ (i := 17) (N := some 84) #[true, true, true, true, true, true, true, true, true, true, true, true, true, true, true, true, true, true] rfl rfl (any_of HT_.out (by kernel_rfl)) (fun _ _ _ h => h) (Or.inl ⟨by rfl, fun w' => by go_simp; with_reducible rfl⟩) (by simp only [Act.put, List.setIfInBounds_toArray, List.set_cons_zero, List.set_cons_succ, i64_w, i32_w]; rfl) ?_
                 refine done_ (done_of HT_.out (by kernel_rfl)) ?_
                 try go_wp2
                 go_ret
                 exact ⟨by first | rfl | (simp [errW_none, errW_some] <;> rfl) | (simp [*, errW_none, errW_some] <;> rfl), bv_ HB.out⟩
               ·rw [if_neg c19] at H
                exact absurd H (by simp)
              ·rw [if_neg c18] at H
               exact absurd H (by simp)
             ·rw [if_neg c17] at H
              exact absurd H (by simp)
            ·rw [if_neg c16] at H
             have c16b0 : decide (x6_3 < (((rd_T38 l0 x5_1).f2).length : Int)) = false := decide_eq_false c16
             clear c16
             have H' := a_ H
             clear H
             have p241 : 0 ≤ (x5_1 : Int) := od_
             have q241 : x5_1 < (l0.length : Int) := od_
             obtain ⟨ad241, A241_2, c241_2, e241, hx241_0, hx241_1, hx241_2, hx241_3, hl241_2, hi241_2⟩ := at_T38 HR0.out x5_1 p241 q241
             cases e241
             try replace hx241_0 := up_ HB.out hx241_0
             try replace hx241_1 := up_ HB.out hx241_1
             try replace hx241_2 := up_ HB.out hx241_2
             try replace hx241_3 := up_ HB.out hx241_3
             have HR241_2 := a_ hi241_2
             have HC241_2 := a_ hl241_2
             clear hi241_2 hl241_2
             replace p241 := eq_true p241
             replace q241 := eq_true q241
             go_wp2
             go_roundg k3
             case measure => have := HK1.out; have := HJ4.out; have := HK3.out; omega
             case rel => exact ⟨(wrap64 (x5_1 + 1)), (by first | rfl | (simp; done) | (simp [*]; done)), H', ⟨by have := HK1.out; have := HJ4.out; have := HK3.out; omega⟩, ⟨bv_ HB.out⟩⟩
           ·rw [if_neg c15] at H
            exact absurd H (by simp)
          ·rw [if_neg c14] at H
           exact absurd H (by simp)
    ·rw [if_neg c4] at H
     have c4b0 : decide (x5_1 < (l0.length : Int)) = false := decide_eq_false c4
     clear c4
     obtain rfl := Option.some.inj H
     go_wp2
     go_ret
     exact ⟨by first | rfl | (simp [errW_none, errW_some] <;> rfl) | (simp [*, errW_none, errW_some] <;> rfl), bv_ HB.out⟩
 ·rw [if_neg c3] at H
  have c3b0 : ((l0.length : Int) == (l1.length : Int)) = false := beq_eq_false_iff_ne.mpr c3
  have c3b1 : ((l0.length : Int) != (l1.length : Int)) = true := bne_iff_ne.mpr c3
  have c3b2 : (l0.length == l1.length) = false := by first | simpa using c3 | (simp at c3 ⊢; omega)
  obtain rfl := Option.some.inj H
  go_enter Try.func25, Try.ntmps25
  go_wp2
  go_ret
  exact ⟨by first | rfl | (simp [errW_none, errW_some] <;> rfl) | (simp [*, errW_none, errW_some] <;> rfl), bv_ HB.out⟩

end Go.Proofs.Ytjppjlhhdfkloaa.PTp

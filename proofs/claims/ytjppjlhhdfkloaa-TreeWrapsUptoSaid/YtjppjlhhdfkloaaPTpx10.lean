/- Written by a program of this session: functions of the given program as plain Lean functions, the walks that show it, and the row of each law, for every input that its statement speaks of. -/
import Derived.Test.YtjppjlhhdfkloaaPTpx0
import Derived.Test.YtjppjlhhdfkloaaPTpx9
namespace Go.Proofs.Ytjppjlhhdfkloaa.PTp
open Go.RowKit Go.Proofs.YtjppjlhhdfkloaaW.PrintWords Go.Proofs.YtjppjlhhdfkloaaW.PrintLast Go.Proofs.YtjppjlhhdfkloaaW.PrintMore
attribute [local go_sem] max2_int min2_int max_two min_two max_three min_three max_four min_four   -- for this text's walks alone
set_option linter.unusedVariables false
set_option linter.unusedSimpArgs false

/-! ### variorumref06_Places: function 10 -/
mutual
def variorumref06_Places.l0 : Nat → List (S38) → List (S38) → Int → Option (Bool)
 | 0, _, _, _ => none
 | k + 1, x0, x1, x5 => if x5 < (x0.length : Int) then (if 0 ≤ x5 then (if x5 < (x1.length : Int) then (if ((rd_T38 x0 x5).f3) = ((rd_T38 x1 x5).f3) then (variorumref06_Places.l1 k x0 x1 x5 0) else (some false)) else (none)) else (none)) else (some true)
def variorumref06_Places.l1 : Nat → List (S38) → List (S38) → Int → Int → Option (Bool)
 | 0, _, _, _, _ => none
 | k + 1, x0, x1, x5, x6 => if 0 ≤ x5 then (if x5 < (x0.length : Int) then (if x6 < (((rd_T38 x0 x5).f2).length : Int) then (if 0 ≤ x6 then (if x5 < (x1.length : Int) then (if x6 < (((rd_T38 x1 x5).f2).length : Int) then ((variorumref06_Places.f k (rd_L5 ((rd_T38 x0 x5).f2) x6) (rd_L5 ((rd_T38 x1 x5).f2) x6)).bind fun t255 => (if t255 = true then (variorumref06_Places.l1 k x0 x1 x5 (wrap64 (x6 + 1))) else (some false))) else (none)) else (none)) else (none)) else (variorumref06_Places.l0 k x0 x1 (wrap64 (x5 + 1)))) else (none)) else (none)
def variorumref06_Places.f : Nat → List (S38) → List (S38) → Option (Bool)
 | 0, _, _ => none
 | k + 1, l0, l1 => (variorumref06_Same.f k l0 l1).bind fun t247 => (if t247 = true then (variorumref06_Places.l0 k l0 l1 0) else (some false))
end
theorem variorumref06_Places.mono_l : ∀ k, (∀ y0 y1, LeO (variorumref06_Places.f k y0 y1) (variorumref06_Places.f (k + 1) y0 y1)) ∧ (∀ y0 y1 y2, LeO (variorumref06_Places.l0 k y0 y1 y2) (variorumref06_Places.l0 (k + 1) y0 y1 y2)) ∧ (∀ y0 y1 y2 y3, LeO (variorumref06_Places.l1 k y0 y1 y2 y3) (variorumref06_Places.l1 (k + 1) y0 y1 y2 y3))
 | 0 => ⟨fun _ _ r h => by simp [variorumref06_Places.f] at h, fun _ _ _ r h => by simp [variorumref06_Places.l0] at h, fun _ _ _ _ r h => by simp [variorumref06_Places.l1] at h⟩
 | k + 1 => by
  obtain ⟨ih0, ih1, ih2⟩ := variorumref06_Places.mono_l k
  refine ⟨?_, ?_, ?_⟩
  ·intro y0 y1
   unfold variorumref06_Places.f
   repeat' first | (with_reducible first | exact ih0 _ _ | exact ih1 _ _ _ | exact ih2 _ _ _ _ | exact variorumref06_Same.mono _ _ _ | exact LeO.refl _ | exact LeO.none _ | refine LeO.ite ?_ ?_ | refine LeO.bind ?_ (fun _ => ?_)) | exact LeO.none _ | refine LeO.ite ?_ ?_ | refine LeO.bind ?_ (fun _ => ?_)
  ·intro y0 y1 y2
   unfold variorumref06_Places.l0
   repeat' first | (with_reducible first | exact ih0 _ _ | exact ih1 _ _ _ | exact ih2 _ _ _ _ | exact variorumref06_Same.mono _ _ _ | exact LeO.refl _ | exact LeO.none _ | refine LeO.ite ?_ ?_ | refine LeO.bind ?_ (fun _ => ?_)) | exact LeO.none _ | refine LeO.ite ?_ ?_ | refine LeO.bind ?_ (fun _ => ?_)
  ·intro y0 y1 y2 y3
   unfold variorumref06_Places.l1
   repeat' first | (with_reducible first | exact ih0 _ _ | exact ih1 _ _ _ | exact ih2 _ _ _ _ | exact variorumref06_Same.mono _ _ _ | exact LeO.refl _ | exact LeO.none _ | refine LeO.ite ?_ ?_ | refine LeO.bind ?_ (fun _ => ?_)) | exact LeO.none _ | refine LeO.ite ?_ ?_ | refine LeO.bind ?_ (fun _ => ?_)
theorem variorumref06_Places.mono : ∀ a0 a1 k, LeO (variorumref06_Places.f k a0 a1) (variorumref06_Places.f (k + 1) a0 a1) := by
 intro a0 a1 k
 obtain ⟨ih0, ih1, ih2⟩ := variorumref06_Places.mono_l k
 exact ih0 a0 a1
def variorumref06_Places.T6 : Bool × List (List Nat × List Nat) := (true, [([], []), ([], []), ([0, 1], [0, 1]), ([2], [2]), ([3], [3]), ([], []), ([], []), ([5, 6], [5, 6]), ([7], [7]), ([8], [8]), ([4, 9], [4, 9])])
def variorumref06_Places.B6 : List Nat := [0, 0, 3, 7, 15, 0, 0, 96, 224, 480, 1023]
theorem variorumref06_Places.tab6 : rtab .any (opsOf Try.f10 6) = variorumref06_Places.T6 := by kernel_rfl
theorem variorumref06_Places.bits6 : waitsOk variorumref06_Places.T6.2 variorumref06_Places.B6 = true := by kernel_rfl
def variorumref06_Places.T11 : Bool × List (List Nat × List Nat) := (true, [([], []), ([], []), ([0, 1], [0, 1]), ([2], [2]), ([3], [3]), ([], []), ([4, 5], [4, 5]), ([6], [6]), ([], []), ([], []), ([8, 9], [8, 9]), ([10], [10]), ([11], [11]), ([], []), ([12, 13], [12, 13]), ([14], [14]), ([7, 15], [7, 15]), ([16], [16])])
def variorumref06_Places.B11 : List Nat := [0, 0, 3, 7, 15, 0, 63, 127, 0, 0, 768, 1792, 3840, 0, 16128, 32512, 65535, 131071]
theorem variorumref06_Places.tab11 : rtab .any (opsOf Try.f10 11) = variorumref06_Places.T11 := by kernel_rfl
theorem variorumref06_Places.bits11 : waitsOk variorumref06_Places.T11.2 variorumref06_Places.B11 = true := by kernel_rfl
set_option maxHeartbeats 8000000 in
set_option maxRecDepth 100000 in
theorem variorumref06_Places.calls (k : Nat) : ∀ (A0 : Option Addr) (c0 : Nat) (l0 : List (S38)) (A1 : Option Addr) (c1 : Nat) (l1 : List (S38)) (r : Bool) (w : World) (hr0 : Kd.C k38 w A0 l0.length l0) (hc0 : l0.length ≤ c0) (hr1 : Kd.C k38 w A1 l1.length l1) (hc1 : l1.length ≤ c1) (h : variorumref06_Places.f k l0 l1 = some r),
  Calls Try.prog 10 #[.slice A0 l0.length c0, .slice A1 l1.length c1] w fun e w' => e = .returned (.bool r) ∧ Below w.heap.size w w' := by
 induction k using Nat.strongRecOn with
 | _ k ih =>
 intro A0 c0 l0 A1 c1 l1 r w hr0 hc0 hr1 hc1 h
 cases k with
 | zero => exact absurd h (by simp [variorumref06_Places.f])
 | succ k =>
 simp only [variorumref06_Places.f] at h
 have HR0 := a_ hr0
 have HC0 := a_ hc0
 clear hr0 hc0
 have HR1 := a_ hr1
 have HC1 := a_ hc1
 clear hr1 hc1
 have HB := a_ (Below.refl w.heap.size w)
 have H : ((variorumref06_Same.f k l0 l1).bind fun t247 => (if t247 = true then (variorumref06_Places.l0 k l0 l1 0) else (some false))) = some r := h
 clear h
 replace H := Option.bind_eq_some_iff.mp H
 obtain ⟨t247, A30, H⟩ := H
 replace H : (if t247 = true then (variorumref06_Places.l0 k l0 l1 0) else (some false)) = some r := H
 have A3 := a_ A30
 clear A30
 by_cases c4 : t247 = true
 ·subst c4
  have H1 : (variorumref06_Places.l0 k l0 l1 0) = some r := by rw [if_pos rfl] at H; exact H
  clear H
  have H := H1
  clear H1
  have H' := a_ H
  clear H
  go_enter Try.func10, Try.ntmps10
  go_wp2_with (first | ((with_reducible refine gate_callee (f := 25) rfl ?_); refine gl_ (some 9) Try.func25 (by kernel_rfl) #[.slice A0 l0.length c0, .slice A1 l1.length c1] ?_; (with_reducible refine (variorumref06_Same.calls k _ _ l0 _ _ l1 true _ ?side1 ?side2 ?side3 ?side4 A3.out).mono ?_); (case side1 => repeat (first | exact HR0.out | (with_reducible refine Kd.C_alloc ?_ _) | (with_reducible refine Kd.C_drewN ?_ _) | (with_reducible refine Kd.C_drew ?_))); (case side2 => exact HC0.out); (case side3 => repeat (first | exact HR1.out | (with_reducible refine Kd.C_alloc ?_ _) | (with_reducible refine Kd.C_drewN ?_ _) | (with_reducible refine Kd.C_drew ?_))); (case side4 => exact HC1.out); rintro e w5 ⟨rfl, hb⟩; refine ⟨_, rfl, ?_⟩; have n0_ := a_ (bs_ HB.out hb); clear HB; have HB := n0_; clear n0_; (try clear hb); (try clear hb2); (try clear hk); (try clear hi)))
  go_loopg [5] k (fun kq v5 w' => ∃ (x5_1 : Int), v5 = .int .i64 x5_1 ∧ Aside0 (variorumref06_Places.l0 kq l0 l1 x5_1 = some r) ∧ Aside0 (kq ≤ k) ∧ Aside0 (Below w.heap.size w w'))
  case atStart => exact ⟨(0), (by first | rfl | (simp; done) | (simp [*]; done)), H', ⟨Nat.le_refl _⟩, ⟨bv_ HB.out⟩⟩
  case round =>
   clear H'
   try clear c1
   try clear c2
   try clear p2
   try clear c4
   obtain ⟨x5_1, rfl, HA, HK1, HB⟩ := hrel
   cases gk with
   | zero => exact absurd HA.out (by simp [variorumref06_Places.l0])
   | succ k1 =>
    have H := HA.out
    clear HA
    simp only [variorumref06_Places.l0] at H
    by_cases c6 : x5_1 < (l0.length : Int)
    ·rw [if_pos c6] at H
     have c6b0 : decide (x5_1 < (l0.length : Int)) = true := decide_eq_true c6
     clear c6
     by_cases c7 : 0 ≤ x5_1
     ·rw [if_pos c7] at H
      have c7b0 : decide (0 ≤ x5_1) = true := decide_eq_true c7
      clear c7
      by_cases c8 : x5_1 < (l1.length : Int)
      ·rw [if_pos c8] at H
       have c8b0 : decide (x5_1 < (l1.length : Int)) = true := decide_eq_true c8
       clear c8
       by_cases c9 : ((rd_T38 l0 x5_1).f3) = ((rd_T38 l1 x5_1).f3)
       ·rw [if_pos c9] at H
        have c9b0 : (((rd_T38 l0 x5_1).f3) == ((rd_T38 l1 x5_1).f3)) = true := beq_iff_eq.mpr c9
        have c9b1 : (((rd_T38 l0 x5_1).f3) != ((rd_T38 l1 x5_1).f3)) = false := bne_eq_false_iff_eq.mpr c9
        clear c9
        have H' := a_ H
        clear H
        try go_wp2
        have n0_ := a_ (below_drew1 HB.out)
        clear HB
        have HB := n0_
        clear n0_
        have p248 : 0 ≤ (x5_1 : Int) := od_
        have q248 : x5_1 < (l0.length : Int) := od_
        obtain ⟨ad248, A248_2, c248_2, e248, hx248_0, hx248_1, hx248_2, hx248_3, hl248_2, hi248_2⟩ := at_T38 HR0.out x5_1 p248 q248
        have hw248_3 := hx248_3
        have hw248_2 := hx248_2
        have hw248_1 := hx248_1
        have hw248_0 := hx248_0
        cases e248
        try replace hx248_0 := up_ HB.out hx248_0
        try replace hx248_1 := up_ HB.out hx248_1
        try replace hx248_2 := up_ HB.out hx248_2
        try replace hx248_3 := up_ HB.out hx248_3
        have HR248_2 := a_ hi248_2
        have HC248_2 := a_ hl248_2
        clear hi248_2 hl248_2
        replace p248 := eq_true p248
        replace q248 := eq_true q248
        have p249 : 0 ≤ (x5_1 : Int) := od_
        have q249 : x5_1 < (l1.length : Int) := od_
        obtain ⟨ad249, A249_2, c249_2, e249, hx249_0, hx249_1, hx249_2, hx249_3, hl249_2, hi249_2⟩ := at_T38 HR1.out x5_1 p249 q249
        have hw249_3 := hx249_3
        have hw249_2 := hx249_2
        have hw249_1 := hx249_1
        have hw249_0 := hx249_0
        cases e249
        try replace hx249_0 := up_ HB.out hx249_0
        try replace hx249_1 := up_ HB.out hx249_1
        try replace hx249_2 := up_ HB.out hx249_2
        try replace hx249_3 := up_ HB.out hx249_3
        have HR249_2 := a_ hi249_2
        have HC249_2 := a_ hl249_2
        clear hi249_2 hl249_2
        replace p249 := eq_true p249
        replace q249 := eq_true q249
        refine start_ (n := 11) (S := fun w' => w'.cell? (ad248.add ((x5_1).toNat * 4)) = some (.bool ((rd_T38 l0 x5_1).f0)) ∧ w'.cell? ⟨(ad248.add ((x5_1).toNat * 4)).block, (ad248.add ((x5_1).toNat * 4)).off + 1, none⟩ = some (.string ((rd_T38 l0 x5_1).f1)) ∧ w'.cell? ⟨(ad248.add ((x5_1).toNat * 4)).block, (ad248.add ((x5_1).toNat * 4)).off + 2, none⟩ = some (.slice A248_2 ((rd_T38 l0 x5_1).f2).length c248_2) ∧ w'.cell? ⟨(ad248.add ((x5_1).toNat * 4)).block, (ad248.add ((x5_1).toNat * 4)).off + 3, none⟩ = some (.int .i64 ((rd_T38 l0 x5_1).f3)) ∧ w'.cell? (ad249.add ((x5_1).toNat * 4)) = some (.bool ((rd_T38 l1 x5_1).f0)) ∧ w'.cell? ⟨(ad249.add ((x5_1).toNat * 4)).block, (ad249.add ((x5_1).toNat * 4)).off + 1, none⟩ = some (.string ((rd_T38 l1 x5_1).f1)) ∧ w'.cell? ⟨(ad249.add ((x5_1).toNat * 4)).block, (ad249.add ((x5_1).toNat * 4)).off + 2, none⟩ = some (.slice A249_2 ((rd_T38 l1 x5_1).f2).length c249_2) ∧ w'.cell? ⟨(ad249.add ((x5_1).toNat * 4)).block, (ad249.add ((x5_1).toNat * 4)).off + 3, none⟩ = some (.int .i64 ((rd_T38 l1 x5_1).f3))) (ds := []) #[false, false, false, false, false, false, false, false, false, false, false] (by kernel_rfl) rfl rfl ⟨(up_ HB.out hw248_0), (up_ HB.out hw248_1), (up_ HB.out hw248_2), (up_ HB.out hw248_3), (up_ HB.out hw249_0), (up_ HB.out hw249_1), (up_ HB.out hw249_2), (up_ HB.out hw249_3)⟩ (fun hHeld => ?_); refine with_tabW variorumref06_Places.tab6 variorumref06_Places.bits6 (fun HT_ HW_ => ?_)
        generalize wr.drew = w10 at HB HR248_2 HR249_2 hx248_0 hx248_1 hx248_2 hx248_3 hx249_0 hx249_1 hx249_2 hx249_3 hHeld ⊢
        refine pure_ (i := 0) (N := some 17) #[true, false, false, false, false, false, false, false, false, false, false] rfl rfl (any_of HT_.out (by kernel_rfl)) (fun _ _ _ h => h) (Or.inl ⟨by rfl, fun w' => by go_simp; with_reducible rfl⟩) (by simp only [Act.put, List.setIfInBounds_toArray, List.set_cons_zero, List.set_cons_succ, i64_w, i32_w]; rfl) ?_
        refine pure_ (i := 1) (N := some 18) #[true, true, false, false, false, false, false, false, false, false, false] rfl rfl (any_of HT_.out (by kernel_rfl)) (fun _ _ _ h => h) (Or.inl ⟨by rfl, fun w' => by go_simp; with_reducible rfl⟩) (by simp only [Act.put, List.setIfInBounds_toArray, List.set_cons_zero, List.set_cons_succ, i64_w, i32_w]; rfl) ?_
        refine pure_ (i := 2) (N := some 19) #[true, true, true, false, false, false, false, false, false, false, false] rfl rfl (any_of HT_.out (by kernel_rfl)) (fun _ _ _ h => h) (Or.inl ⟨by rfl, fun w' => by go_simp; with_reducible rfl⟩) (by simp only [Act.put, List.setIfInBounds_toArray, List.set_cons_zero, List.set_cons_succ, i64_w, i32_w]; rfl) ?_
        refine pure_ (i := 3) (N := some 20) #[true, true, true, true, false, false, false, false, false, false, false] rfl rfl (any_of HT_.out (by kernel_rfl)) (fun _ _ _ h => h) (Or.inl ⟨by rfl, fun w' => by go_simp; with_reducible rfl⟩) (by simp only [Act.put, List.setIfInBounds_toArray, List.set_cons_zero, List.set_cons_succ, i64_w, i32_w]; rfl) ?_
        refine pure_ (i := 5) (N := some 22) #[true, true, true, true, false, true, false, false, false, false, false] rfl rfl (any_of HT_.out (by kernel_rfl)) (fun _ _ _ h => h) (Or.inl ⟨by rfl, fun w' => by go_simp; with_reducible rfl⟩) (by simp only [Act.put, List.setIfInBounds_toArray, List.set_cons_zero, List.set_cons_succ, i64_w, i32_w]; rfl) ?_
        refine pure_ (i := 6) (N := some 23) #[true, true, true, true, false, true, true, false, false, false, false] rfl rfl (any_of HT_.out (by kernel_rfl)) (fun _ _ _ h => h) (Or.inl ⟨by rfl, fun w' => by go_simp; with_reducible rfl⟩) (by simp only [Act.put, List.setIfInBounds_toArray, List.set_cons_zero, List.set_cons_succ, i64_w, i32_w]; rfl) ?_
        refine pure_ (i := 7) (N := some 24) #[true, true, true, true, false, true, true, true, false, false, false] rfl rfl (any_of HT_.out (by kernel_rfl)) (fun _ _ _ h => h) (Or.inl ⟨by rfl, fun w' => by go_simp; with_reducible rfl⟩) (by simp only [Act.put, List.setIfInBounds_toArray, List.set_cons_zero, List.set_cons_succ, i64_w, i32_w]; rfl) ?_
        refine pure_ (i := 8) (N := some 25) #[true, true, true, true, false, true, true, true, true, false, false] rfl rfl (any_of HT_.out (by kernel_rfl)) (fun _ _ _ h => h) (Or.inl ⟨by rfl, fun w' => by go_simp; with_reducible rfl⟩) (by simp only [Act.put, List.setIfInBounds_toArray, List.set_cons_zero, List.set_cons_succ, i64_w, i32_w]; rfl) ?_
        refine take_ (i := 4) (N := some 21) (v := ?_) (a' := ?_) #[true, true, true, true, true, true, true, true, true, false, false] rfl rfl (take_ofW HT_.out HW_.out (by kernel_rfl)) (fun _ _ _ h => h) (Or.inl ⟨by rfl, ?_⟩) hHeld ?_ ?_
        rotate_left
        ·rintro w' ⟨s0, s1, s2, s3, s4, s5, s6, s7⟩
         go_simp
         with_reducible rfl
        rotate_left
        ·simp only [Act.put, List.setIfInBounds_toArray, List.set_cons_zero, List.set_cons_succ, i64_w, i32_w]
         rfl
        refine take_ (i := 9) (N := some 26) (v := ?_) (a' := ?_) #[true, true, true, true, true, true, true, true, true, true, false] rfl rfl (take_ofW HT_.out HW_.out (by kernel_rfl)) (fun _ _ _ h => h) (Or.inl ⟨by rfl, ?_⟩) hHeld ?_ ?_
        rotate_left
        ·rintro w' ⟨s0, s1, s2, s3, s4, s5, s6, s7⟩
         go_simp
         with_reducible rfl
        rotate_left
        ·simp only [Act.put, List.setIfInBounds_toArray, List.set_cons_zero, List.set_cons_succ, i64_w, i32_w]
         rfl
        refine pure_ (i := 10) (N := some 27) #[true, true, true, true, true, true, true, true, true, true, true] rfl rfl (any_of HT_.out (by kernel_rfl)) (fun _ _ _ h => h) (Or.inl ⟨by rfl, fun w' => by go_simp; with_reducible rfl⟩) (by simp only [Act.put, List.setIfInBounds_toArray, List.set_cons_zero, List.set_cons_succ, i64_w, i32_w]; rfl) ?_
        refine done_ (done_of HT_.out (by kernel_rfl)) ?_
        try go_wp2
        go_loopg [6] k1 (fun kq v6 w' => ∃ (x6_2 : Int), v6 = .int .i64 x6_2 ∧ Aside0 (variorumref06_Places.l1 kq l0 l1 x5_1 x6_2 = some r) ∧ Aside0 (kq ≤ k1) ∧ Aside0 (Below w.heap.size w w'))
        case atStart => exact ⟨(0), (by first | rfl | (simp; done) | (simp [*]; done)), H', ⟨Nat.le_refl _⟩, ⟨bv_ HB.out⟩⟩
        case round =>
         clear H'
         try clear c1
         try clear c2
         try clear p2
         try clear q2
         try clear hx2
         try clear c4
         try clear c6
         try clear c6b0
         try clear c7
         try clear c7b0
         try clear c8
         try clear c8b0
         try clear c9
         try clear c9b0
         try clear c9b1
         try clear c10
         try clear hx248_0
         try clear hx248_1
         try clear hx248_2
         try clear hx248_3
         try clear hx249_0
         try clear hx249_1
         try clear hx249_2
         try clear hx249_3
         try clear p2
         try clear p248
         try clear p249
         try clear q248
         try clear q249
         obtain ⟨x6_2, rfl, HA, HK2, HB⟩ := hrel
         cases gk with
         | zero => exact absurd HA.out (by simp [variorumref06_Places.l1])
         | succ k2 =>
          have H := HA.out
          clear HA
          simp only [variorumref06_Places.l1] at H
          by_cases c11 : 0 ≤ x5_1
          ·rw [if_pos c11] at H
           have c11b0 : decide (0 ≤ x5_1) = true := decide_eq_true c11
           clear c11
           by_cases c12 : x5_1 < (l0.length : Int)
           ·rw [if_pos c12] at H
            have c12b0 : decide (x5_1 < (l0.length : Int)) = true := decide_eq_true c12
            clear c12
            by_cases c13 : x6_2 < (((rd_T38 l0 x5_1).f2).length : Int)
            ·rw [if_pos c13] at H
             have c13b0 : decide (x6_2 < (((rd_T38 l0 x5_1).f2).length : Int)) = true := decide_eq_true c13
             clear c13
             by_cases c14 : 0 ≤ x6_2
             ·rw [if_pos c14] at H
              have c14b0 : decide (0 ≤ x6_2) = true := decide_eq_true c14
              clear c14
              by_cases c15 : x5_1 < (l1.length : Int)
              ·rw [if_pos c15] at H
               have c15b0 : decide (x5_1 < (l1.length : Int)) = true := decide_eq_true c15
               clear c15
               by_cases c16 : x6_2 < (((rd_T38 l1 x5_1).f2).length : Int)
               ·rw [if_pos c16] at H
                have c16b0 : decide (x6_2 < (((rd_T38 l1 x5_1).f2).length : Int)) = true := decide_eq_true c16
                clear c16
                replace H := Option.bind_eq_some_iff.mp H
                obtain ⟨t255, A170, H⟩ := H
                replace H : (if t255 = true then (variorumref06_Places.l1 k2 l0 l1 x5_1 (wrap64 (x6_2 + 1))) else (some false)) = some r := H
                have A17 := a_ A170
                clear A170
                by_cases c18 : t255 = true
                ·subst c18
                 have H1 : (variorumref06_Places.l1 k2 l0 l1 x5_1 (wrap64 (x6_2 + 1))) = some r := by rw [if_pos rfl] at H; exact H
                 clear H
                 have H := H1
                 clear H1
                 have H' := a_ H
                 clear H
                 have p250 : 0 ≤ (x5_1 : Int) := od_
                 have q250 : x5_1 < (l0.length : Int) := od_
                 obtain ⟨ad250, A250_2, c250_2, e250, hx250_0, hx250_1, hx250_2, hx250_3, hl250_2, hi250_2⟩ := at_T38 HR0.out x5_1 p250 q250
                 obtain rfl : ad248 = ad250 := (by injection e250)
                 try replace hx250_0 := up_ HB.out hx250_0
                 try replace hx250_1 := up_ HB.out hx250_1
                 try replace hx250_2 := up_ HB.out hx250_2
                 try replace hx250_3 := up_ HB.out hx250_3
                 have HR250_2 := a_ hi250_2
                 have HC250_2 := a_ hl250_2
                 clear hi250_2 hl250_2
                 replace p250 := eq_true p250
                 replace q250 := eq_true q250
                 try go_wp2
                 have n0_ := a_ (below_drew1 HB.out)
                 clear HB
                 have HB := n0_
                 clear n0_
                 have p251 : 0 ≤ (x5_1 : Int) := od_
                 have q251 : x5_1 < (l0.length : Int) := od_
                 obtain ⟨ad251, A251_2, c251_2, e251, hx251_0, hx251_1, hx251_2, hx251_3, hl251_2, hi251_2⟩ := at_T38 HR0.out x5_1 p251 q251
                 have hw251_3 := hx251_3
                 have hw251_2 := hx251_2
                 have hw251_1 := hx251_1
                 have hw251_0 := hx251_0
                 obtain rfl : ad248 = ad251 := (by injection e251)
                 try replace hx251_0 := up_ HB.out hx251_0
                 try replace hx251_1 := up_ HB.out hx251_1
                 try replace hx251_2 := up_ HB.out hx251_2
                 try replace hx251_3 := up_ HB.out hx251_3
                 have HR251_2 := a_ hi251_2
                 have HC251_2 := a_ hl251_2
                 clear hi251_2 hl251_2
                 replace p251 := eq_true p251
                 replace q251 := eq_true q251
                 have p252 : 0 ≤ (x6_2 : Int) := od_
                 have q252 : x6_2 < (((rd_T38 l0 x5_1).f2).length : Int) := od_
                 obtain ⟨ad252, A252_0, c252_0, e252, hx252_0, hl252_0, hi252_0⟩ := at_L5 HR251_2.out x6_2 p252 q252
                 have hw252_0 := hx252_0
                 cases e252
                 try replace hx252_0 := up_ HB.out hx252_0
                 have HR252_0 := a_ hi252_0
                 have HC252_0 := a_ hl252_0
                 clear hi252_0 hl252_0
                 replace p252 := eq_true p252
                 replace q252 := eq_true q252
                 have p253 : 0 ≤ (x5_1 : Int) := od_
                 have q253 : x5_1 < (l1.length : Int) := od_
                 obtain ⟨ad253, A253_2, c253_2, e253, hx253_0, hx253_1, hx253_2, hx253_3, hl253_2, hi253_2⟩ := at_T38 HR1.out x5_1 p253 q253
                 have hw253_3 := hx253_3
                 have hw253_2 := hx253_2
                 have hw253_1 := hx253_1
                 have hw253_0 := hx253_0
                 obtain rfl : ad249 = ad253 := (by injection e253)
                 try replace hx253_0 := up_ HB.out hx253_0
                 try replace hx253_1 := up_ HB.out hx253_1
                 try replace hx253_2 := up_ HB.out hx253_2
                 try replace hx253_3 := up_ HB.out hx253_3
                 have HR253_2 := a_ hi253_2
                 have HC253_2 := a_ hl253_2
                 clear hi253_2 hl253_2
                 replace p253 := eq_true p253
                 replace q253 := eq_true q253
                 have p254 : 0 ≤ (x6_2 : Int) := od_
                 have q254 : x6_2 < (((rd_T38 l1 x5_1).f2).length : Int) := od_
                 obtain ⟨ad254, A254_0, c254_0, e254, hx254_0, hl254_0, hi254_0⟩ := at_L5 HR253_2.out x6_2 p254 q254
                 have hw254_0 := hx254_0
                 cases e254
                 try replace hx254_0 := up_ HB.out hx254_0
                 have HR254_0 := a_ hi254_0
                 have HC254_0 := a_ hl254_0
                 clear hi254_0 hl254_0
                 replace p254 := eq_true p254
                 replace q254 := eq_true q254
                 refine start_ (n := 18) (S := fun w' => w'.cell? (ad248.add ((x5_1).toNat * 4)) = some (.bool ((rd_T38 l0 x5_1).f0)) ∧ w'.cell? ⟨(ad248.add ((x5_1).toNat * 4)).block, (ad248.add ((x5_1).toNat * 4)).off + 1, none⟩ = some (.string ((rd_T38 l0 x5_1).f1)) ∧ w'.cell? ⟨(ad248.add ((x5_1).toNat * 4)).block, (ad248.add ((x5_1).toNat * 4)).off + 2, none⟩ = some (.slice (some ad252) ((rd_T38 l0 x5_1).f2).length c251_2) ∧ w'.cell? ⟨(ad248.add ((x5_1).toNat * 4)).block, (ad248.add ((x5_1).toNat * 4)).off + 3, none⟩ = some (.int .i64 ((rd_T38 l0 x5_1).f3)) ∧ w'.cell? (ad252.add (x6_2).toNat) = some (.slice A252_0 (rd_L5 ((rd_T38 l0 x5_1).f2) x6_2).length c252_0) ∧ w'.cell? (ad249.add ((x5_1).toNat * 4)) = some (.bool ((rd_T38 l1 x5_1).f0)) ∧ w'.cell? ⟨(ad249.add ((x5_1).toNat * 4)).block, (ad249.add ((x5_1).toNat * 4)).off + 1, none⟩ = some (.string ((rd_T38 l1 x5_1).f1)) ∧ w'.cell? ⟨(ad249.add ((x5_1).toNat * 4)).block, (ad249.add ((x5_1).toNat * 4)).off + 2, none⟩ = some (.slice (some ad254) ((rd_T38 l1 x5_1).f2).length c253_2) ∧ w'.cell? ⟨(ad249.add ((x5_1).toNat * 4)).block, (ad249.add ((x5_1).toNat * 4)).off + 3, none⟩ = some (.int .i64 ((rd_T38 l1 x5_1).f3)) ∧ w'.cell? (ad254.add (x6_2).toNat) = some (.slice A254_0 (rd_L5 ((rd_T38 l1 x5_1).f2) x6_2).length c254_0)) (ds := []) #[false, false, false, false, false, false, false, false, false, false, false, false, false, false, false, false, false, false] (by kernel_rfl) rfl rfl ⟨(up_ HB.out hw251_0), (up_ HB.out hw251_1), (up_ HB.out hw251_2), (up_ HB.out hw251_3), (up_ HB.out hw252_0), (up_ HB.out hw253_0), (up_ HB.out hw253_1), (up_ HB.out hw253_2), (up_ HB.out hw253_3), (up_ HB.out hw254_0)⟩ (fun hHeld => ?_); refine with_tabW variorumref06_Places.tab11 variorumref06_Places.bits11 (fun HT_ HW_ => ?_)
                 generalize wr.drew = w19 at HB HR251_2 HR252_0 HR253_2 HR254_0 hx251_0 hx251_1 hx251_2 hx251_3 hx252_0 hx253_0 hx253_1 hx253_2 hx253_3 hx254_0 hHeld ⊢
                 refine pure_ (i := 0) (N := some 38) #[true, false, false, false, false, false, false, false, false, false, false, false, false, false, false, false, false, false] rfl rfl (any_of HT_.out (by kernel_rfl)) (fun _ _ _ h => h) (Or.inl ⟨by rfl, fun w' => by go_simp; with_reducible rfl⟩) (by simp only [Act.put, List.setIfInBounds_toArray, List.set_cons_zero, List.set_cons_succ, i64_w, i32_w]; rfl) ?_
                 refine pure_ (i := 1) (N := some 39) #[true, true, false, false, false, false, false, false, false, false, false, false, false, false, false, false, false, false] rfl rfl (any_of HT_.out (by kernel_rfl)) (fun _ _ _ h => h) (Or.inl ⟨by rfl, fun w' => by go_simp; with_reducible rfl⟩) (by simp only [Act.put, List.setIfInBounds_toArray, List.set_cons_zero, List.set_cons_succ, i64_w, i32_w]; rfl) ?_
                 refine pure_ (i := 2) (N := some 40) #[true, true, true, false, false, false, false, false, false, false, false, false, false, false, false, false, false, false] rfl rfl (any_of HT_.out (by kernel_rfl)) (fun _ _ _ h => h) (Or.inl ⟨by rfl, fun w' => by go_simp; with_reducible rfl⟩) (by simp only [Act.put, List.setIfInBounds_toArray, List.set_cons_zero, List.set_cons_succ, i64_w, i32_w]; rfl) ?_
                 refine pure_ (i := 3) (N := some 41) #[true, true, true, true, false, false, false, false, false, false, false, false, false, false, false, false, false, false] rfl rfl (any_of HT_.out (by kernel_rfl)) (fun _ _ _ h => h) (Or.inl ⟨by rfl, fun w' => by go_simp; with_reducible rfl⟩) (by simp only [Act.put, List.setIfInBounds_toArray, List.set_cons_zero, List.set_cons_succ, i64_w, i32_w]; rfl) ?_
                 refine pure_ (i := 5) (N := some 43) #[true, true, true, true, false, true, false, false, false, false, false, false, false, false, false, false, false, false] rfl rfl (any_of HT_.out (by kernel_rfl)) (fun _ _ _ h => h) (Or.inl ⟨by rfl, fun w' => by go_simp; with_reducible rfl⟩) (by simp only [Act.put, List.setIfInBounds_toArray, List.set_cons_zero, List.set_cons_succ, i64_w, i32_w]; rfl) ?_
                 refine pure_ (i := 8) (N := some 46) #[true, true, true, true, false, true, false, false, true, false, false, false, false, false, false, false, false, false] rfl rfl (any_of HT_.out (by kernel_rfl)) (fun _ _ _ h => h) (Or.inl ⟨by rfl, fun w' => by go_simp; with_reducible rfl⟩) (by simp only [Act.put, List.setIfInBounds_toArray, List.set_cons_zero, List.set_cons_succ, i64_w, i32_w]; rfl) ?_
                 refine pure_ (i := 9) (N := some 47) #[true, true, true, true, false, true, false, false, true, true, false, false, false, false, false, false, false, false] rfl rfl (any_of HT_.out (by kernel_rfl)) (fun _ _ _ h => h) (Or.inl ⟨by rfl, fun w' => by go_simp; with_reducible rfl⟩) (by simp only [Act.put, List.setIfInBounds_toArray, List.set_cons_zero, List.set_cons_succ, i64_w, i32_w]; rfl) ?_
                 refine pure_ (i := 10) (N := some 48) #[true, true, true, true, false, true, false, false, true, true, true, false, false, false, false, false, false, false] rfl rfl (any_of HT_.out (by kernel_rfl)) (fun _ _ _ h => h) (Or.inl ⟨by rfl, fun w' => by go_simp; with_reducible rfl⟩) (by simp only [Act.put, List.setIfInBounds_toArray, List.set_cons_zero, List.set_cons_succ, i64_w, i32_w]; rfl) ?_
                 refine pure_ (i := 11) (N := some 49) #[true, true, true, true, false, true, false, false, true, true, true, true, false, false, false, false, false, false] rfl rfl (any_of HT_.out (by kernel_rfl)) (fun _ _ _ h => h) (Or.inl ⟨by rfl, fun w' => by go_simp; with_reducible rfl⟩) (by simp only [Act.put, List.setIfInBounds_toArray, List.set_cons_zero, List.set_cons_succ, i64_w, i32_w]; rfl) ?_
                 refine pure_ (i := 13) (N := some 51) #[true, true, true, true, false, true, false, false, true, true, true, true, false, true, false, false, false, false] rfl rfl (any_of HT_.out (by kernel_rfl)) (fun _ _ _ h => h) (Or.inl ⟨by rfl, fun w' => by go_simp; with_reducible rfl⟩) (by simp only [Act.put, List.setIfInBounds_toArray, List.set_cons_zero, List.set_cons_succ, i64_w, i32_w]; rfl) ?_
                 refine take_ (i := 4) (N := some 42) (v := ?_) (a' := ?_) #[true, true, true, true, true, true, false, false, true, true, true, true, false, true, false, false, false, false] rfl rfl (take_ofW HT_.out HW_.out (by kernel_rfl)) (fun _ _ _ h => h) (Or.inl ⟨by rfl, ?_⟩) hHeld ?_ ?_
                 rotate_left
                 ·rintro w' ⟨s0, s1, s2, s3, s4, s5, s6, s7, s8, s9⟩
                  go_simp
                  with_reducible rfl
                 rotate_left
                 ·simp only [Act.put, List.setIfInBounds_toArray, List.set_cons_zero, List.set_cons_succ, i64_w, i32_w]
                  rfl
                 refine pure_ (i := 6) (N := some 44) #[true, true, true, true, true, true, true, false, true, true, true, true, false, true, false, false, false, false] rfl rfl (any_of HT_.out (by kernel_rfl)) (fun _ _ _ h => h) (Or.inl ⟨by rfl, fun w' => by go_simp; with_reducible rfl⟩) (by simp only [Act.put, List.setIfInBounds_toArray, List.set_cons_zero, List.set_cons_succ, i64_w, i32_w]; rfl) ?_
                 refine take_ (i := 7) (N := some 45) (v := ?_) (a' := ?_) #[true, true, true, true, true, true, true, true, true, true, true, true, false, true, false, false, false, false] rfl rfl (take_ofW HT_.out HW_.out (by kernel_rfl)) (fun _ _ _ h => h) (Or.inl ⟨by rfl, ?_⟩) hHeld ?_ ?_
                 rotate_left
                 ·rintro w' ⟨s0, s1, s2, s3, s4, s5, s6, s7, s8, s9⟩
                  go_simp
                  with_reducible rfl
                 rotate_left
                 ·simp only [Act.put, List.setIfInBounds_toArray, List.set_cons_zero, List.set_cons_succ, i64_w, i32_w]
                  rfl
                 refine take_ (i := 12) (N := some 50) (v := ?_) (a' := ?_) #[true, true, true, true, true, true, true, true, true, true, true, true, true, true, false, false, false, false] rfl rfl (take_ofW HT_.out HW_.out (by kernel_rfl)) (fun _ _ _ h => h) (Or.inl ⟨by rfl, ?_⟩) hHeld ?_ ?_
                 rotate_left
                 ·rintro w' ⟨s0, s1, s2, s3, s4, s5, s6, s7, s8, s9⟩
                  go_simp
                  with_reducible rfl
                 rotate_left
                 ·simp only [Act.put, List.setIfInBounds_toArray, List.set_cons_zero, List.set_cons_succ, i64_w, i32_w]
                  rfl
                 refine pure_ (i := 14) (N := some 52) #[true, true, true, true, true, true, true, true, true, true, true, true, true, true, true, false, false, false] rfl rfl (any_of HT_.out (by kernel_rfl)) (fun _ _ _ h => h) (Or.inl ⟨by rfl, fun w' => by go_simp; with_reducible rfl⟩) (by simp only [Act.put, List.setIfInBounds_toArray, List.set_cons_zero, List.set_cons_succ, i64_w, i32_w]; rfl) ?_
                 refine take_ (i := 15) (N := some 53) (v := ?_) (a' := ?_) #[true, true, true, true, true, true, true, true, true, true, true, true, true, true, true, true, false, false] rfl rfl (take_ofW HT_.out HW_.out (by kernel_rfl)) (fun _ _ _ h => h) (Or.inl ⟨by rfl, ?_⟩) hHeld ?_ ?_
                 rotate_left
                 ·rintro w' ⟨s0, s1, s2, s3, s4, s5, s6, s7, s8, s9⟩
                  go_simp
                  with_reducible rfl
                 rotate_left
                 ·simp only [Act.put, List.setIfInBounds_toArray, List.set_cons_zero, List.set_cons_succ, i64_w, i32_w]
                  rfl
                 refine one_ (i := 16) (N := some 54) #[true, true, true, true, true, true, true, true, true, true, true, true, true, true, true, true, true, false] rfl rfl (one_of HT_.out (by kernel_rfl)) (by decide) (fun K hK => ?_)
                 refine goes_ Try.func10 (by kernel_rfl) rfl #[.slice A252_0 (rd_L5 ((rd_T38 l0 x5_1).f2) x6_2).length c252_0, .slice A254_0 (rd_L5 ((rd_T38 l1 x5_1).f2) x6_2).length c254_0] (by rfl) rfl rfl (by (try simp only [List.map_toArray, List.map_cons, List.map_nil]); first | done | rfl | (simp only [List.length_drop, List.length_take]; rfl) | (simp only [*]; first | done | rfl)) ?_
                 with_reducible refine (ih k2 (by have := HK1.out; have := HK2.out; omega) _ _ (rd_L5 ((rd_T38 l0 x5_1).f2) x6_2) _ _ (rd_L5 ((rd_T38 l1 x5_1).f2) x6_2) true _ ?side1 ?side2 ?side3 ?side4 A17.out).mono ?_
                 (case side1 => exact cw_ HR252_0.out HB.out)
                 (case side2 => exact HC252_0.out)
                 (case side3 => exact cw_ HR254_0.out HB.out)
                 (case side4 => exact HC254_0.out)
                 rintro e w20 ⟨rfl, hb⟩
                 refine ⟨_, rfl, ?_⟩
                 have n0_ := a_ (bs_ HB.out hb)
                 clear HB
                 have HB := n0_
                 clear n0_
                 (try clear hb)
                 (try clear hb2)
                 (try clear hk)
                 (try clear hi)
                 refine hK.out _ _ ⟨(up_ HB.out hw251_0), (up_ HB.out hw251_1), (up_ HB.out hw251_2), (up_ HB.out hw251_3), (up_ HB.out hw252_0), (up_ HB.out hw253_0), (up_ HB.out hw253_1), (up_ HB.out hw253_2), (up_ HB.out hw253_3), (up_ HB.out hw254_0)⟩ (fun hHeld => ?_)
                 clear hK K
                 refine norm_ (a' := ?_) ?_ ?_
                 rotate_left
                 ·show Act.put _ (some 54) _ = _
                  simp only [Act.put, List.setIfInBounds_toArray, List.set_cons_zero, List.set_cons_succ, i64_w, i32_w]
                  rfl
                 refine pure_ (i := 17) (N := some 55) #[true, true, true, true, true, true, true, true, true, true, true, true, true, true, true, true, true, true] rfl rfl (any_of HT_.out (by kernel_rfl)) (fun _ _ _ h => h) (Or.inl ⟨by rfl, fun w' => by go_simp; with_reducible rfl⟩) (by simp only [Act.put, List.setIfInBounds_toArray, List.set_cons_zero, List.set_cons_succ, i64_w, i32_w]; rfl) ?_
                 refine done_ (done_of HT_.out (by kernel_rfl)) ?_
                 try go_wp2
                 go_roundg k2
                 case measure => have := HK1.out; have := HK2.out; omega
                 case rel => exact ⟨(wrap64 (x6_2 + 1)), (by first | rfl | (simp; done) | (simp [*]; done)), H', ⟨by have := HK1.out; have := HK2.out; omega⟩, ⟨bv_ HB.out⟩⟩
                ·replace c18 := Bool.eq_false_iff.mpr c18
                 subst c18
                 have H1 : (some false) = some r := by rw [if_neg (show ¬ (false = true) by decide)] at H; exact H
                 clear H
                 have H := H1
                 clear H1
                 obtain rfl := Option.some.inj H
                 have p250 : 0 ≤ (x5_1 : Int) := od_
                 have q250 : x5_1 < (l0.length : Int) := od_
                 obtain ⟨ad250, A250_2, c250_2, e250, hx250_0, hx250_1, hx250_2, hx250_3, hl250_2, hi250_2⟩ := at_T38 HR0.out x5_1 p250 q250
                 obtain rfl : ad248 = ad250 := (by injection e250)
                 try replace hx250_0 := up_ HB.out hx250_0
                 try replace hx250_1 := up_ HB.out hx250_1
                 try replace hx250_2 := up_ HB.out hx250_2
                 try replace hx250_3 := up_ HB.out hx250_3
                 have HR250_2 := a_ hi250_2
                 have HC250_2 := a_ hl250_2
                 clear hi250_2 hl250_2
                 replace p250 := eq_true p250
                 replace q250 := eq_true q250
                 try go_wp2
                 have n0_ := a_ (below_drew1 HB.out)
                 clear HB
                 have HB := n0_
                 clear n0_
                 have p251 : 0 ≤ (x5_1 : Int) := od_
                 have q251 : x5_1 < (l0.length : Int) := od_
                 obtain ⟨ad251, A251_2, c251_2, e251, hx251_0, hx251_1, hx251_2, hx251_3, hl251_2, hi251_2⟩ := at_T38 HR0.out x5_1 p251 q251
                 have hw251_3 := hx251_3
                 have hw251_2 := hx251_2
                 have hw251_1 := hx251_1
                 have hw251_0 := hx251_0
                 obtain rfl : ad248 = ad251 := (by injection e251)
                 try replace hx251_0 := up_ HB.out hx251_0
                 try replace hx251_1 := up_ HB.out hx251_1
                 try replace hx251_2 := up_ HB.out hx251_2
                 try replace hx251_3 := up_ HB.out hx251_3
                 have HR251_2 := a_ hi251_2
                 have HC251_2 := a_ hl251_2
                 clear hi251_2 hl251_2
                 replace p251 := eq_true p251
                 replace q251 := eq_true q251
                 have p252 : 0 ≤ (x6_2 : Int) := od_
                 have q252 : x6_2 < (((rd_T38 l0 x5_1).f2).length : Int) := od_
                 obtain ⟨ad252, A252_0, c252_0, e252, hx252_0, hl252_0, hi252_0⟩ := at_L5 HR251_2.out x6_2 p252 q252
                 have hw252_0 := hx252_0
                 cases e252
                 try replace hx252_0 := up_ HB.out hx252_0
                 have HR252_0 := a_ hi252_0
                 have HC252_0 := a_ hl252_0
                 clear hi252_0 hl252_0
                 replace p252 := eq_true p252
                 replace q252 := eq_true q252
                 have p253 : 0 ≤ (x5_1 : Int) := od_
                 have q253 : x5_1 < (l1.length : Int) := od_
                 obtain ⟨ad253, A253_2, c253_2, e253, hx253_0, hx253_1, hx253_2, hx253_3, hl253_2, hi253_2⟩ := at_T38 HR1.out x5_1 p253 q253
                 have hw253_3 := hx253_3
                 have hw253_2 := hx253_2
                 have hw253_1 := hx253_1
                 have hw253_0 := hx253_0
                 obtain rfl : ad249 = ad253 := (by injection e253)
                 try replace hx253_0 := up_ HB.out hx253_0
                 try replace hx253_1 := up_ HB.out hx253_1
                 try replace hx253_2 := up_ HB.out hx253_2
                 try replace hx253_3 := up_ HB.out hx253_3
                 have HR253_2 := a_ hi253_2
                 have HC253_2 := a_ hl253_2
                 clear hi253_2 hl253_2
                 replace p253 := eq_true p253
                 replace q253 := eq_true q253
                 have p254 : 0 ≤ (x6_2 : Int) := od_
                 have q254 : x6_2 < (((rd_T38 l1 x5_1).f2).length : Int) := od_
                 obtain ⟨ad254, A254_0, c254_0, e254, hx254_0, hl254_0, hi254_0⟩ := at_L5 HR253_2.out x6_2 p254 q254
                 have hw254_0 := hx254_0
                 cases e254
                 try replace hx254_0 := up_ HB.out hx254_0
                 have HR254_0 := a_ hi254_0
                 have HC254_0 := a_ hl254_0
                 clear hi254_0 hl254_0
                 replace p254 := eq_true p254
                 replace q254 := eq_true q254
                 refine start_ (n := 18) (S := fun w' => w'.cell? (ad248.add ((x5_1).toNat * 4)) = some (.bool ((rd_T38 l0 x5_1).f0)) ∧ w'.cell? ⟨(ad248.add ((x5_1).toNat * 4)).block, (ad248.add ((x5_1).toNat * 4)).off + 1, none⟩ = some (.string ((rd_T38 l0 x5_1).f1)) ∧ w'.cell? ⟨(ad248.add ((x5_1).toNat * 4)).block, (ad248.add ((x5_1).toNat * 4)).off + 2, none⟩ = some (.slice (some ad252) ((rd_T38 l0 x5_1).f2).length c251_2) ∧ w'.cell? ⟨(ad248.add ((x5_1).toNat * 4)).block, (ad248.add ((x5_1).toNat * 4)).off + 3, none⟩ = some (.int .i64 ((rd_T38 l0 x5_1).f3)) ∧ w'.cell? (ad252.add (x6_2).toNat) = some (.slice A252_0 (rd_L5 ((rd_T38 l0 x5_1).f2) x6_2).length c252_0) ∧ w'.cell? (ad249.add ((x5_1).toNat * 4)) = some (.bool ((rd_T38 l1 x5_1).f0)) ∧ w'.cell? ⟨(ad249.add ((x5_1).toNat * 4)).block, (ad249.add ((x5_1).toNat * 4)).off + 1, none⟩ = some (.string ((rd_T38 l1 x5_1).f1)) ∧ w'.cell? ⟨(ad249.add ((x5_1).toNat * 4)).block, (ad249.add ((x5_1).toNat * 4)).off + 2, none⟩ = some (.slice (some ad254) ((rd_T38 l1 x5_1).f2).length c253_2) ∧ w'.cell? ⟨(ad249.add ((x5_1).toNat * 4)).block, (ad249.add ((x5_1).toNat * 4)).off + 3, none⟩ = some (.int .i64 ((rd_T38 l1 x5_1).f3)) ∧ w'.cell? (ad254.add (x6_2).toNat) = some (.slice A254_0 (rd_L5 ((rd_T38 l1 x5_1).f2) x6_2).length c254_0)) (ds := []) #[false, false, false, false, false, false, false, false, false, false, false, false, false, false, false, false, false, false] (by kernel_rfl) rfl rfl ⟨(up_ HB.out hw251_0), (up_ HB.out hw251_1), (up_ HB.out hw251_2), (up_ HB.out hw251_3), (up_ HB.out hw252_0), (up_ HB.out hw253_0), (up_ HB.out hw253_1), (up_ HB.out hw253_2), (up_ HB.out hw253_3), (up_ HB.out hw254_0)⟩ (fun hHeld => ?_); refine with_tabW variorumref06_Places.tab11 variorumref06_Places.bits11 (fun HT_ HW_ => ?_)
                 generalize wr.drew = w21 at HB HR251_2 HR252_0 HR253_2 HR254_0 hx251_0 hx251_1 hx251_2 hx251_3 hx252_0 hx253_0 hx253_1 hx253_2 hx253_3 hx254_0 hHeld ⊢
                 refine pure_ (i := 0) (N := some 38) #[true, false, false, false, false, false, false, false, false, false, false, false, false, false, false, false, false, false] rfl rfl (any_of HT_.out (by kernel_rfl)) (fun _ _ _ h => h) (Or.inl ⟨by rfl, fun w' => by go_simp; with_reducible rfl⟩) (by simp only [Act.put, List.setIfInBounds_toArray, List.set_cons_zero, List.set_cons_succ, i64_w, i32_w]; rfl) ?_
                 refine pure_ (i := 1) (N := some 39) #[true, true, false, false, false, false, false, false, false, false, false, false, false, false, false, false, false, false] rfl rfl (any_of HT_.out (by kernel_rfl)) (fun _ _ _ h => h) (Or.inl ⟨by rfl, fun w' => by go_simp; with_reducible rfl⟩) (by simp only [Act.put, List.setIfInBounds_toArray, List.set_cons_zero, List.set_cons_succ, i64_w, i32_w]; rfl) ?_
                 refine pure_ (i := 2) (N := some 40) #[true, true, true, false, false, false, false, false, false, false, false, false, false, false, false, false, false, false] rfl rfl (any_of HT_.out (by kernel_rfl)) (fun _ _ _ h => h) (Or.inl ⟨by rfl, fun w' => by go_simp; with_reducible rfl⟩) (by simp only [Act.put, List.setIfInBounds_toArray, List.set_cons_zero, List.set_cons_succ, i64_w, i32_w]; rfl) ?_
                 refine pure_ (i := 3) (N := some 41) #[true, true, true, true, false, false, false, false, false, false, false, false, false, false, false, false, false, false] rfl rfl (any_of HT_.out (by kernel_rfl)) (fun _ _ _ h => h) (Or.inl ⟨by rfl, fun w' => by go_simp; with_reducible rfl⟩) (by simp only [Act.put, List.setIfInBounds_toArray, List.set_cons_zero, List.set_cons_succ, i64_w, i32_w]; rfl) ?_
                 refine pure_ (i := 5) (N := some 43) #[true, true, true, true, false, true, false, false, false, false, false, false, false, false, false, false, false, false] rfl rfl (any_of HT_.out (by kernel_rfl)) (fun _ _ _ h => h) (Or.inl ⟨by rfl, fun w' => by go_simp; with_reducible rfl⟩) (by simp only [Act.put, List.setIfInBounds_toArray, List.set_cons_zero, List.set_cons_succ, i64_w, i32_w]; rfl) ?_
                 refine pure_ (i := 8) (N := some 46) #[true, true, true, true, false, true, false, false, true, false, false, false, false, false, false, false, false, false] rfl rfl (any_of HT_.out (by kernel_rfl)) (fun _ _ _ h => h) (Or.inl ⟨by rfl, fun w' => by go_simp; with_reducible rfl⟩) (by simp only [Act.put, List.setIfInBounds_toArray, List.set_cons_zero, List.set_cons_succ, i64_w, i32_w]; rfl) ?_
                 refine pure_ (i := 9) (N := some 47) #[true, true, true, true, false, true, false, false, true, true, false, false, false, false, false, false, false, false] rfl rfl (any_of HT_.out (by kernel_rfl)) (fun _ _ _ h => h) (Or.inl ⟨by rfl, fun w' => by go_simp; with_reducible rfl⟩) (by simp only [Act.put, List.setIfInBounds_toArray, List.set_cons_zero, List.set_cons_succ, i64_w, i32_w]; rfl) ?_
                 refine pure_ (i := 10) (N := some 48) #[true, true, true, true, false, true, false, false, true, true, true, false, false, false, false, false, false, false] rfl rfl (any_of HT_.out (by kernel_rfl)) (fun _ _ _ h => h) (Or.inl ⟨by rfl, fun w' => by go_simp; with_reducible rfl⟩) (by simp only [Act.put, List.setIfInBounds_toArray, List.set_cons_zero, List.set_cons_succ, i64_w, i32_w]; rfl) ?_
                 refine pure_ (i := 11) (N := some 49) #[true, true, true, true, false, true, false, false, true, true, true, true, false, false, false, false, false, false] rfl rfl (any_of HT_.out (by kernel_rfl)) (fun _ _ _ h => h) (Or.inl ⟨by rfl, fun w' => by go_simp; with_reducible rfl⟩) (by simp only [Act.put, List.setIfInBounds_toArray, List.set_cons_zero, List.set_cons_succ, i64_w, i32_w]; rfl) ?_
                 refine pure_ (i := 13) (N := some 51) #[true, true, true, true, false, true, false, false, true, true, true, true, false, true, false, false, false, false] rfl rfl (any_of HT_.out (by kernel_rfl)) (fun _ _ _ h => h) (Or.inl ⟨by rfl, fun w' => by go_simp; with_reducible rfl⟩) (by simp only [Act.put, List.setIfInBounds_toArray, List.set_cons_zero, List.set_cons_succ, i64_w, i32_w]; rfl) ?_
                 refine take_ (i := 4) (N := some 42) (v := ?_) (a' := ?_) #[true, true, true, true, true, true, false, false, true, true, true, true, false, true, false, false, false, false] rfl rfl (take_ofW HT_.out HW_.out (by kernel_rfl)) (fun _ _ _ h => h) (Or.inl ⟨by rfl, ?_⟩) hHeld ?_ ?_
                 rotate_left
                 ·rintro w' ⟨s0, s1, s2, s3, s4, s5, s6, s7, s8, s9⟩
                  go_simp
                  with_reducible rfl
                 rotate_left
                 ·simp only [Act.put, List.setIfInBounds_toArray, List.set_cons_zero, List.set_cons_succ, i64_w, i32_w]
                  rfl
                 refine pure_ (i := 6) (N := some 44) #[true, true, true, true, true, true, true, false, true, true, true, true, false, true, false, false, false, false] rfl rfl (any_of HT_.out (by kernel_rfl)) (fun _ _ _ h => h) (Or.inl ⟨by rfl, fun w' => by go_simp; with_reducible rfl⟩) (by simp only [Act.put, List.setIfInBounds_toArray, List.set_cons_zero, List.set_cons_succ, i64_w, i32_w]; rfl) ?_
                 refine take_ (i := 7) (N := some 45) (v := ?_) (a' := ?_) #[true, true, true, true, true, true, true, true, true, true, true, true, false, true, false, false, false, false] rfl rfl (take_ofW HT_.out HW_.out (by kernel_rfl)) (fun _ _ _ h => h) (Or.inl ⟨by rfl, ?_⟩) hHeld ?_ ?_
                 rotate_left
                 ·rintro w' ⟨s0, s1, s2, s3, s4, s5, s6, s7, s8, s9⟩
                  go_simp
                  with_reducible rfl
                 rotate_left
                 ·simp only [Act.put, List.setIfInBounds_toArray, List.set_cons_zero, List.set_cons_succ, i64_w, i32_w]
                  rfl
                 refine take_ (i := 12) (N := some 50) (v := ?_) (a' := ?_) #[true, true, true, true, true, true, true, true, true, true, true, true, true, true, false, false, false, false] rfl rfl (take_ofW HT_.out HW_.out (by kernel_rfl)) (fun _ _ _ h => h) (Or.inl ⟨by rfl, ?_⟩) hHeld ?_ ?_
                 rotate_left
                 ·rintro w' ⟨s0, s1, s2, s3, s4, s5, s6, s7, s8, s9⟩
                  go_simp
                  with_reducible rfl
                 rotate_left
                 ·simp only [Act.put, List.setIfInBounds_toArray, List.set_cons_zero, List.set_cons_succ, i64_w, i32_w]
                  rfl
                 refine pure_ (i := 14) (N := some 52) #[true, true, true, true, true, true, true, true, true, true, true, true, true, true, true, false, false, false] rfl rfl (any_of HT_.out (by kernel_rfl)) (fun _ _ _ h => h) (Or.inl ⟨by rfl, fun w' => by go_simp; with_reducible rfl⟩) (by simp only [Act.put, List.setIfInBounds_toArray, List.set_cons_zero, List.set_cons_succ, i64_w, i32_w]; rfl) ?_
                 refine take_ (i := 15) (N := some 53) (v := ?_) (a' := ?_) #[true, true, true, true, true, true, true, true, true, true, true, true, true, true, true, true, false, false] rfl rfl (take_ofW HT_.out HW_.out (by kernel_rfl)) (fun _ _ _ h => h) (Or.inl ⟨by rfl, ?_⟩) hHeld ?_ ?_
                 rotate_left
                 ·rintro w' ⟨s0, s1, s2, s3, s4, s5, s6, s7, s8, s9⟩
                  go_simp
                  with_reducible rfl
                 rotate_left
                 ·simp only [Act.put, List.setIfInBounds_toArray, List.set_cons_zero, List.set_cons_succ, i64_w, i32_w]
                  rfl
                 refine one_ (i := 16) (N := some 54) #[true, true, true, true, true, true, true, true, true, true, true, true, true, true, true, true, true, false] rfl rfl (one_of HT_.out (by kernel_rfl)) (by decide) (fun K hK => ?_)
                 refine goes_ Try.func10 (by kernel_rfl) rfl #[.slice A252_0 (rd_L5 ((rd_T38 l0 x5_1).f2) x6_2).length c252_0, .slice A254_0 (rd_L5 ((rd_T38 l1 x5_1).f2) x6_2).length c254_0] (by rfl) rfl rfl (by (try simp only [List.map_toArray, List.map_cons, List.map_nil]); first | done | rfl | (simp only [List.length_drop, List.length_take]; rfl) | (simp only [*]; first | done | rfl)) ?_
                 with_reducible refine (ih k2 (by have := HK1.out; have := HK2.out; omega) _ _ (rd_L5 ((rd_T38 l0 x5_1).f2) x6_2) _ _ (rd_L5 ((rd_T38 l1 x5_1).f2) x6_2) false _ ?side1 ?side2 ?side3 ?side4 A17.out).mono ?_
                 (case side1 => exact cw_ HR252_0.out HB.out)
                 (case side2 => exact HC252_0.out)
                 (case side3 => exact cw_ HR254_0.out HB.out)
                 (case side4 => exact HC254_0.out)
                 rintro e w22 ⟨rfl, hb⟩
                 refine ⟨_, rfl, ?_⟩
                 have n0_ := a_ (bs_ HB.out hb)
                 clear HB
                 have HB := n0_
                 clear n0_
                 (try clear hb)
                 (try clear hb2)
                 (try clear hk)
                 (try clear hi)
                 refine hK.out _ _ ⟨(up_ HB.out hw251_0), (up_ HB.out hw251_1), (up_ HB.out hw251_2), (up_ HB.out hw251_3), (up_ HB.out hw252_0), (up_ HB.out hw253_0), (up_ HB.out hw253_1), (up_ HB.out hw253_2), (up_ HB.out hw253_3), (up_ HB.out hw254_0)⟩ (fun hHeld => ?_)
                 clear hK K
                 refine norm_ (a' := ?_) ?_ ?_
                 rotate_left
                 ·show Act.put _ (some 54) _ = _
                  simp only [Act.put, List.setIfInBounds_toArray, List.set_cons_zero, List.set_cons_succ, i64_w, i32_w]
                  rfl
                 refine pure_ (i := 17) (N := some 55) #[true, true, true, true, true, true, true, true, true, true, true, true, true, true, true, true, true, true] rfl rfl (any_of HT_.out (by kernel_rfl)) (fun _ _ _ h => h) (Or.inl ⟨by rfl, fun w' => by go_simp; with_reducible rfl⟩) (by simp only [Act.put, List.setIfInBounds_toArray, List.set_cons_zero, List.set_cons_succ, i64_w, i32_w]; rfl) ?_
                 refine done_ (done_of HT_.out (by kernel_rfl)) ?_
                 try go_wp2
                 go_ret
                 exact ⟨by first | rfl | (simp [errW_none, errW_some] <;> rfl) | (simp [*, errW_none, errW_some] <;> rfl), bv_ HB.out⟩
               ·rw [if_neg c16] at H
                exact absurd H (by simp)
              ·rw [if_neg c15] at H
               exact absurd H (by simp)
             ·rw [if_neg c14] at H
              exact absurd H (by simp)
            ·rw [if_neg c13] at H
             have c13b0 : decide (x6_2 < (((rd_T38 l0 x5_1).f2).length : Int)) = false := decide_eq_false c13
             clear c13
             have H' := a_ H
             clear H
             have p250 : 0 ≤ (x5_1 : Int) := od_
             have q250 : x5_1 < (l0.length : Int) := od_
             obtain ⟨ad250, A250_2, c250_2, e250, hx250_0, hx250_1, hx250_2, hx250_3, hl250_2, hi250_2⟩ := at_T38 HR0.out x5_1 p250 q250
             obtain rfl : ad248 = ad250 := (by injection e250)
             try replace hx250_0 := up_ HB.out hx250_0
             try replace hx250_1 := up_ HB.out hx250_1
             try replace hx250_2 := up_ HB.out hx250_2
             try replace hx250_3 := up_ HB.out hx250_3
             have HR250_2 := a_ hi250_2
             have HC250_2 := a_ hl250_2
             clear hi250_2 hl250_2
             replace p250 := eq_true p250
             replace q250 := eq_true q250
             go_wp2
             go_roundg k2
             case measure => have := HK1.out; have := HK2.out; omega
             case rel => exact ⟨(wrap64 (x5_1 + 1)), (by first | rfl | (simp; done) | (simp [*]; done)), H', ⟨by have := HK1.out; have := HK2.out; omega⟩, ⟨bv_ HB.out⟩⟩
           ·rw [if_neg c12] at H
            exact absurd H (by simp)
          ·rw [if_neg c11] at H
           exact absurd H (by simp)
       ·rw [if_neg c9] at H
        have c9b0 : (((rd_T38 l0 x5_1).f3) == ((rd_T38 l1 x5_1).f3)) = false := beq_eq_false_iff_ne.mpr c9
        have c9b1 : (((rd_T38 l0 x5_1).f3) != ((rd_T38 l1 x5_1).f3)) = true := bne_iff_ne.mpr c9
        obtain rfl := Option.some.inj H
        try go_wp2
        have n0_ := a_ (below_drew1 HB.out)
        clear HB
        have HB := n0_
        clear n0_
        have p248 : 0 ≤ (x5_1 : Int) := od_
        have q248 : x5_1 < (l0.length : Int) := od_
        obtain ⟨ad248, A248_2, c248_2, e248, hx248_0, hx248_1, hx248_2, hx248_3, hl248_2, hi248_2⟩ := at_T38 HR0.out x5_1 p248 q248
        have hw248_3 := hx248_3
        have hw248_2 := hx248_2
        have hw248_1 := hx248_1
        have hw248_0 := hx248_0
        cases e248
        try replace hx248_0 := up_ HB.out hx248_0
        try replace hx248_1 := up_ HB.out hx248_1
        try replace hx248_2 := up_ HB.out hx248_2
        try replace hx248_3 := up_ HB.out hx248_3
        have HR248_2 := a_ hi248_2
        have HC248_2 := a_ hl248_2
        clear hi248_2 hl248_2
        replace p248 := eq_true p248
        replace q248 := eq_true q248
        have p249 : 0 ≤ (x5_1 : Int) := od_
        have q249 : x5_1 < (l1.length : Int) := od_
        obtain ⟨ad249, A249_2, c249_2, e249, hx249_0, hx249_1, hx249_2, hx249_3, hl249_2, hi249_2⟩ := at_T38 HR1.out x5_1 p249 q249
        have hw249_3 := hx249_3
        have hw249_2 := hx249_2
        have hw249_1 := hx249_1
        have hw249_0 := hx249_0
        cases e249
        try replace hx249_0 := up_ HB.out hx249_0
        try replace hx249_1 := up_ HB.out hx249_1
        try replace hx249_2 := up_ HB.out hx249_2
        try replace hx249_3 := up_ HB.out hx249_3
        have HR249_2 := a_ hi249_2
        have HC249_2 := a_ hl249_2
        clear hi249_2 hl249_2
        replace p249 := eq_true p249
        replace q249 := eq_true q249
        refine start_ (n := 11) (S := fun w' => w'.cell? (ad248.add ((x5_1).toNat * 4)) = some (.bool ((rd_T38 l0 x5_1).f0)) ∧ w'.cell? ⟨(ad248.add ((x5_1).toNat * 4)).block, (ad248.add ((x5_1).toNat * 4)).off + 1, none⟩ = some (.string ((rd_T38 l0 x5_1).f1)) ∧ w'.cell? ⟨(ad248.add ((x5_1).toNat * 4)).block, (ad248.add ((x5_1).toNat * 4)).off + 2, none⟩ = some (.slice A248_2 ((rd_T38 l0 x5_1).f2).length c248_2) ∧ w'.cell? ⟨(ad248.add ((x5_1).toNat * 4)).block, (ad248.add ((x5_1).toNat * 4)).off + 3, none⟩ = some (.int .i64 ((rd_T38 l0 x5_1).f3)) ∧ w'.cell? (ad249.add ((x5_1).toNat * 4)) = some (.bool ((rd_T38 l1 x5_1).f0)) ∧ w'.cell? ⟨(ad249.add ((x5_1).toNat * 4)).block, (ad249.add ((x5_1).toNat * 4)).off + 1, none⟩ = some (.string ((rd_T38 l1 x5_1).f1)) ∧ w'.cell? ⟨(ad249.add ((x5_1).toNat * 4)).block, (ad249.add ((x5_1).toNat * 4)).off + 2, none⟩ = some (.slice A249_2 ((rd_T38 l1 x5_1).f2).length c249_2) ∧ w'.cell? ⟨(ad249.add ((x5_1).toNat * 4)).block, (ad249.add ((x5_1).toNat * 4)).off + 3, none⟩ = some (.int .i64 ((rd_T38 l1 x5_1).f3))) (ds := []) #[false, false, false, false, false, false, false, false, false, false, false] (by kernel_rfl) rfl rfl ⟨(up_ HB.out hw248_0), (up_ HB.out hw248_1), (up_ HB.out hw248_2), (up_ HB.out hw248_3), (up_ HB.out hw249_0), (up_ HB.out hw249_1), (up_ HB.out hw249_2), (up_ HB.out hw249_3)⟩ (fun hHeld => ?_); refine with_tabW variorumref06_Places.tab6 variorumref06_Places.bits6 (fun HT_ HW_ => ?_)
        generalize wr.drew = w23 at HB HR248_2 HR249_2 hx248_0 hx248_1 hx248_2 hx248_3 hx249_0 hx249_1 hx249_2 hx249_3 hHeld ⊢
        refine pure_ (i := 0) (N := some 17) #[true, false, false, false, false, false, false, false, false, false, false] rfl rfl (any_of HT_.out (by kernel_rfl)) (fun _ _ _ h => h) (Or.inl ⟨by rfl, fun w' => by go_simp; with_reducible rfl⟩) (by simp only [Act.put, List.setIfInBounds_toArray, List.set_cons_zero, List.set_cons_succ, i64_w, i32_w]; rfl) ?_
        refine pure_ (i := 1) (N := some 18) #[true, true, false, false, false, false, false, false, false, false, false] rfl rfl (any_of HT_.out (by kernel_rfl)) (fun _ _ _ h => h) (Or.inl ⟨by rfl, fun w' => by go_simp; with_reducible rfl⟩) (by simp only [Act.put, List.setIfInBounds_toArray, List.set_cons_zero, List.set_cons_succ, i64_w, i32_w]; rfl) ?_
        refine pure_ (i := 2) (N := some 19) #[true, true, true, false, false, false, false, false, false, false, false] rfl rfl (any_of HT_.out (by kernel_rfl)) (fun _ _ _ h => h) (Or.inl ⟨by rfl, fun w' => by go_simp; with_reducible rfl⟩) (by simp only [Act.put, List.setIfInBounds_toArray, List.set_cons_zero, List.set_cons_succ, i64_w, i32_w]; rfl) ?_
        refine pure_ (i := 3) (N := some 20) #[true, true, true, true, false, false, false, false, false, false, false] rfl rfl (any_of HT_.out (by kernel_rfl)) (fun _ _ _ h => h) (Or.inl ⟨by rfl, fun w' => by go_simp; with_reducible rfl⟩) (by simp only [Act.put, List.setIfInBounds_toArray, List.set_cons_zero, List.set_cons_succ, i64_w, i32_w]; rfl) ?_
        refine pure_ (i := 5) (N := some 22) #[true, true, true, true, false, true, false, false, false, false, false] rfl rfl (any_of HT_.out (by kernel_rfl)) (fun _ _ _ h => h) (Or.inl ⟨by rfl, fun w' => by go_simp; with_reducible rfl⟩) (by simp only [Act.put, List.setIfInBounds_toArray, List.set_cons_zero, List.set_cons_succ, i64_w, i32_w]; rfl) ?_
        refine pure_ (i := 6) (N := some 23) #[true, true, true, true, false, true, true, false, false, false, false] rfl rfl (any_of HT_.out (by kernel_rfl)) (fun _ _ _ h => h) (Or.inl ⟨by rfl, fun w' => by go_simp; with_reducible rfl⟩) (by simp only [Act.put, List.setIfInBounds_toArray, List.set_cons_zero, List.set_cons_succ, i64_w, i32_w]; rfl) ?_
        refine pure_ (i := 7) (N := some 24) #[true, true, true, true, false, true, true, true, false, false, false] rfl rfl (any_of HT_.out (by kernel_rfl)) (fun _ _ _ h => h) (Or.inl ⟨by rfl, fun w' => by go_simp; with_reducible rfl⟩) (by simp only [Act.put, List.setIfInBounds_toArray, List.set_cons_zero, List.set_cons_succ, i64_w, i32_w]; rfl) ?_
        refine pure_ (i := 8) (N := some 25) #[true, true, true, true, false, true, true, true, true, false, false] rfl rfl (any_of HT_.out (by kernel_rfl)) (fun _ _ _ h => h) (Or.inl ⟨by rfl, fun w' => by go_simp; with_reducible rfl⟩) (by simp only [Act.put, List.setIfInBounds_toArray, List.set_cons_zero, List.set_cons_succ, i64_w, i32_w]; rfl) ?_
        refine take_ (i := 4) (N := some 21) (v := ?_) (a' := ?_) #[true, true, true, true, true, true, true, true, true, false, false] rfl rfl (take_ofW HT_.out HW_.out (by kernel_rfl)) (fun _ _ _ h => h) (Or.inl ⟨by rfl, ?_⟩) hHeld ?_ ?_
        rotate_left
        ·rintro w' ⟨s0, s1, s2, s3, s4, s5, s6, s7⟩
         go_simp
         with_reducible rfl
        rotate_left
        ·simp only [Act.put, List.setIfInBounds_toArray, List.set_cons_zero, List.set_cons_succ, i64_w, i32_w]
         rfl
        refine take_ (i := 9) (N := some 26) (v := ?_) (a' := ?_) #[true, true, true, true, true, true, true, true, true, true, false] rfl rfl (take_ofW HT_.out HW_.out (by kernel_rfl)) (fun _ _ _ h => h) (Or.inl ⟨by rfl, ?_⟩) hHeld ?_ ?_
        rotate_left
        ·rintro w' ⟨s0, s1, s2, s3, s4, s5, s6, s7⟩
         go_simp
         with_reducible rfl
        rotate_left
        ·simp only [Act.put, List.setIfInBounds_toArray, List.set_cons_zero, List.set_cons_succ, i64_w, i32_w]
         rfl
        refine pure_ (i := 10) (N := some 27) #[true, true, true, true, true, true, true, true, true, true, true] rfl rfl (any_of HT_.out (by kernel_rfl)) (fun _ _ _ h => h) (Or.inl ⟨by rfl, fun w' => by go_simp; with_reducible rfl⟩) (by simp only [Act.put, List.setIfInBounds_toArray, List.set_cons_zero, List.set_cons_succ, i64_w, i32_w]; rfl) ?_
        refine done_ (done_of HT_.out (by kernel_rfl)) ?_
        try go_wp2
        go_ret
        exact ⟨by first | rfl | (simp [errW_none, errW_some] <;> rfl) | (simp [*, errW_none, errW_some] <;> rfl), bv_ HB.out⟩
      ·rw [if_neg c8] at H
       exact absurd H (by simp)
     ·rw [if_neg c7] at H
      exact absurd H (by simp)
    ·rw [if_neg c6] at H
     have c6b0 : decide (x5_1 < (l0.length : Int)) = false := decide_eq_false c6
     clear c6
     obtain rfl := Option.some.inj H
     go_wp2
     go_ret
     exact ⟨by first | rfl | (simp [errW_none, errW_some] <;> rfl) | (simp [*, errW_none, errW_some] <;> rfl), bv_ HB.out⟩
 ·replace c4 := Bool.eq_false_iff.mpr c4
  subst c4
  have H1 : (some false) = some r := by rw [if_neg (show ¬ (false = true) by decide)] at H; exact H
  clear H
  have H := H1
  clear H1
  obtain rfl := Option.some.inj H
  go_enter Try.func10, Try.ntmps10
  go_wp2_with (first | ((with_reducible refine gate_callee (f := 25) rfl ?_); refine gl_ (some 9) Try.func25 (by kernel_rfl) #[.slice A0 l0.length c0, .slice A1 l1.length c1] ?_; (with_reducible refine (variorumref06_Same.calls k _ _ l0 _ _ l1 false _ ?side1 ?side2 ?side3 ?side4 A3.out).mono ?_); (case side1 => repeat (first | exact HR0.out | (with_reducible refine Kd.C_alloc ?_ _) | (with_reducible refine Kd.C_drewN ?_ _) | (with_reducible refine Kd.C_drew ?_))); (case side2 => exact HC0.out); (case side3 => repeat (first | exact HR1.out | (with_reducible refine Kd.C_alloc ?_ _) | (with_reducible refine Kd.C_drewN ?_ _) | (with_reducible refine Kd.C_drew ?_))); (case side4 => exact HC1.out); rintro e w24 ⟨rfl, hb⟩; refine ⟨_, rfl, ?_⟩; have n0_ := a_ (bs_ HB.out hb); clear HB; have HB := n0_; clear n0_; (try clear hb); (try clear hb2); (try clear hk); (try clear hi)))
  go_ret
  exact ⟨by first | rfl | (simp [errW_none, errW_some] <;> rfl) | (simp [*, errW_none, errW_some] <;> rfl), bv_ HB.out⟩

end Go.Proofs.Ytjppjlhhdfkloaa.PTp

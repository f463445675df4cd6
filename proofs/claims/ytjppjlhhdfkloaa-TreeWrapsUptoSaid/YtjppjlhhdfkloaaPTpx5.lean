/- Written by a program of this session: functions of the given program as plain Lean functions, the walks that show it, and the row of each law, for every input that its statement speaks of. -/
import Derived.Test.YtjppjlhhdfkloaaPTpx0
import Derived.Test.YtjppjlhhdfkloaaPTpx4
namespace Go.Proofs.Ytjppjlhhdfkloaa.PTp
open Go.RowKit Go.Proofs.YtjppjlhhdfkloaaW.PrintWords Go.Proofs.YtjppjlhhdfkloaaW.PrintLast Go.Proofs.YtjppjlhhdfkloaaW.PrintMore
attribute [local go_sem] max2_int min2_int max_two min_two max_three min_three max_four min_four   -- for this text's walks alone
set_option linter.unusedVariables false
set_option linter.unusedSimpArgs false

/-! ### variorumref06_nodes: function 22 -/
mutual
def variorumref06_nodes.l0 : Nat → List (S44) → List (S38) → Int → Option ((List (S38)))
 | 0, _, _, _ => none
 | k + 1, x0, x3, x4 => if x4 < (x0.length : Int) then (if 0 ≤ x4 then (variorumref06_nodes.l1 k x0 x3 (wrap64 (x4 + 1)) (((rd_T44 x0 x4).f0) == 1) ((rd_T44 x0 x4).f1) ([] : List (List (S38))) ((rd_T44 x0 x4).f2)) else (none)) else (some x3)
def variorumref06_nodes.l1 : Nat → List (S44) → List (S38) → Int → Bool → ByteArray → List (List (S38)) → Int → Option ((List (S38)))
 | 0, _, _, _, _, _, _, _ => none
 | k + 1, x0, x3, x4, x132000, x132001, x132002, x132003 => if x132000 = true then (if x4 < (x0.length : Int) then (if 0 ≤ x4 then (variorumref06_nodes.j2 k x0 x3 x4 (((rd_T44 x0 x4).f0) == 2) x132000 x132001 x132002 x132003) else (none)) else (variorumref06_nodes.j2 k x0 x3 x4 false x132000 x132001 x132002 x132003)) else (variorumref06_nodes.j2 k x0 x3 x4 false x132000 x132001 x132002 x132003)
def variorumref06_nodes.j2 : Nat → List (S44) → List (S38) → Int → Bool → Bool → ByteArray → List (List (S38)) → Int → Option ((List (S38)))
 | 0, _, _, _, _, _, _, _, _ => none
 | k + 1, x0, x3, x4, x46, x132000, x132001, x132002, x132003 => if x46 = true then ((variorumref06_End.f k x0 x4).bind fun t133 => (if 0 ≤ (wrap64 (x4 + 1)) then (if (wrap64 (x4 + 1)) ≤ t133 then (if t133 ≤ (x0.length : Int) then ((variorumref06_nodes.f k ((x0.take (t133 : Int).toNat).drop ((wrap64 (x4 + 1)) : Int).toNat)).bind fun t138 => (if x132002.length < 5864062014805 then (variorumref06_nodes.l1 k x0 x3 (wrap64 (t133 + 1)) x132000 x132001 (x132002 ++ [t138]) x132003) else (none))) else (none)) else (none)) else (none))) else (if x3.length < 2513169434916 then (variorumref06_nodes.l0 k x0 (x3 ++ [(⟨x132000, x132001, x132002, x132003⟩ : S38)]) x4) else (none))
def variorumref06_nodes.f : Nat → List (S44) → Option ((List (S38)))
 | 0, _ => none
 | k + 1, l0 => variorumref06_nodes.l0 k l0 (([] : List (S38))) 0
end
theorem variorumref06_nodes.mono_l : ∀ k, (∀ y0, LeO (variorumref06_nodes.f k y0) (variorumref06_nodes.f (k + 1) y0)) ∧ (∀ y0 y1 y2, LeO (variorumref06_nodes.l0 k y0 y1 y2) (variorumref06_nodes.l0 (k + 1) y0 y1 y2)) ∧ (∀ y0 y1 y2 y3 y4 y5 y6, LeO (variorumref06_nodes.l1 k y0 y1 y2 y3 y4 y5 y6) (variorumref06_nodes.l1 (k + 1) y0 y1 y2 y3 y4 y5 y6)) ∧ (∀ y0 y1 y2 y3 y4 y5 y6 y7, LeO (variorumref06_nodes.j2 k y0 y1 y2 y3 y4 y5 y6 y7) (variorumref06_nodes.j2 (k + 1) y0 y1 y2 y3 y4 y5 y6 y7))
 | 0 => ⟨fun _ r h => by simp [variorumref06_nodes.f] at h, fun _ _ _ r h => by simp [variorumref06_nodes.l0] at h, fun _ _ _ _ _ _ _ r h => by simp [variorumref06_nodes.l1] at h, fun _ _ _ _ _ _ _ _ r h => by simp [variorumref06_nodes.j2] at h⟩
 | k + 1 => by
  obtain ⟨ih0, ih1, ih2, ih3⟩ := variorumref06_nodes.mono_l k
  refine ⟨?_, ?_, ?_, ?_⟩
  ·intro y0
   unfold variorumref06_nodes.f
   repeat' first | (with_reducible first | exact ih0 _ | exact ih1 _ _ _ | exact ih2 _ _ _ _ _ _ _ | exact ih3 _ _ _ _ _ _ _ _ | exact variorumref06_End.mono _ _ _ | exact LeO.refl _ | exact LeO.none _ | refine LeO.ite ?_ ?_ | refine LeO.bind ?_ (fun _ => ?_)) | exact LeO.none _ | refine LeO.ite ?_ ?_ | refine LeO.bind ?_ (fun _ => ?_)
  ·intro y0 y1 y2
   unfold variorumref06_nodes.l0
   repeat' first | (with_reducible first | exact ih0 _ | exact ih1 _ _ _ | exact ih2 _ _ _ _ _ _ _ | exact ih3 _ _ _ _ _ _ _ _ | exact variorumref06_End.mono _ _ _ | exact LeO.refl _ | exact LeO.none _ | refine LeO.ite ?_ ?_ | refine LeO.bind ?_ (fun _ => ?_)) | exact LeO.none _ | refine LeO.ite ?_ ?_ | refine LeO.bind ?_ (fun _ => ?_)
  ·intro y0 y1 y2 y3 y4 y5 y6
   unfold variorumref06_nodes.l1
   repeat' first | (with_reducible first | exact ih0 _ | exact ih1 _ _ _ | exact ih2 _ _ _ _ _ _ _ | exact ih3 _ _ _ _ _ _ _ _ | exact variorumref06_End.mono _ _ _ | exact LeO.refl _ | exact LeO.none _ | refine LeO.ite ?_ ?_ | refine LeO.bind ?_ (fun _ => ?_)) | exact LeO.none _ | refine LeO.ite ?_ ?_ | refine LeO.bind ?_ (fun _ => ?_)
  ·intro y0 y1 y2 y3 y4 y5 y6 y7
   unfold variorumref06_nodes.j2
   repeat' first | (with_reducible first | exact ih0 _ | exact ih1 _ _ _ | exact ih2 _ _ _ _ _ _ _ | exact ih3 _ _ _ _ _ _ _ _ | exact variorumref06_End.mono _ _ _ | exact LeO.refl _ | exact LeO.none _ | refine LeO.ite ?_ ?_ | refine LeO.bind ?_ (fun _ => ?_)) | exact LeO.none _ | refine LeO.ite ?_ ?_ | refine LeO.bind ?_ (fun _ => ?_)
theorem variorumref06_nodes.mono : ∀ a0 k, LeO (variorumref06_nodes.f k a0) (variorumref06_nodes.f (k + 1) a0) := by
 intro a0 k
 obtain ⟨ih0, ih1, ih2, ih3⟩ := variorumref06_nodes.mono_l k
 exact ih0 a0
def variorumref06_nodes.T4 : Bool × List (List Nat × List Nat) := (true, [([], []), ([], []), ([0, 1], [0, 1]), ([2], [2]), ([3], [3]), ([4], [4]), ([], []), ([], []), ([6, 7], [6, 7]), ([8], [8]), ([9], [9]), ([], []), ([], []), ([11, 12], [11, 12]), ([13], [13]), ([14], [14]), ([5, 10, 15], [5, 10, 15]), ([], []), ([17, 16, 0, 1, 2, 3, 4, 5, 6, 7, 8, 9, 10, 11, 12, 13, 14, 15, 16, 17], [16, 17])])
def variorumref06_nodes.B4 : List Nat := [0, 0, 3, 7, 15, 31, 0, 0, 192, 448, 960, 0, 0, 6144, 14336, 30720, 65535, 0, 262143]
theorem variorumref06_nodes.tab4 : rtab .any (opsOf Try.f22 4) = variorumref06_nodes.T4 := by kernel_rfl
theorem variorumref06_nodes.bits4 : waitsOk variorumref06_nodes.T4.2 variorumref06_nodes.B4 = true := by kernel_rfl
def variorumref06_nodes.T8 : Bool × List (List Nat × List Nat) := (true, [([], []), ([0], [0]), ([], []), ([], []), ([3], [3]), ([], []), ([2, 4, 5], [2, 4, 5]), ([6], [6]), ([7], [7]), ([1, 8, 7], [1, 8]), ([0, 1, 2, 3, 4, 5, 6, 7, 8, 9], []), ([10, 9, 9, 0, 1, 2, 3, 4, 5, 6, 7, 8, 9], [9, 10])])
def variorumref06_nodes.B8 : List Nat := [0, 1, 0, 0, 8, 0, 60, 124, 252, 511, 1023, 2047]
theorem variorumref06_nodes.tab8 : rtab .any (opsOf Try.f22 8) = variorumref06_nodes.T8 := by kernel_rfl
theorem variorumref06_nodes.bits8 : waitsOk variorumref06_nodes.T8.2 variorumref06_nodes.B8 = true := by kernel_rfl
set_option maxHeartbeats 8000000 in
set_option maxRecDepth 100000 in
theorem variorumref06_nodes.calls (k : Nat) : ∀ (A0 : Option Addr) (c0 : Nat) (l0 : List (S44)) (r : List (S38)) (w : World) (hr0 : Kd.C k44 w A0 l0.length l0) (hc0 : l0.length ≤ c0) (h : variorumref06_nodes.f k l0 = some r),
  Calls Try.prog 22 #[.slice A0 l0.length c0] w fun e w' => ∃ v0_ : Value, e = .returned (v0_) ∧ Kd.R k38 38 w' w.heap.size (fun _ => True) v0_ r ∧ Below w.heap.size w w' := by
 induction k using Nat.strongRecOn with
 | _ k ih =>
 intro A0 c0 l0 r w hr0 hc0 h
 cases k with
 | zero => exact absurd h (by simp [variorumref06_nodes.f])
 | succ k =>
 simp only [variorumref06_nodes.f] at h
 have hu38 := Try.underlying38
 have HR0 := a_ hr0
 have HC0 := a_ hc0
 clear hr0 hc0
 have HB := a_ (Below.refl w.heap.size w)
 have H : (variorumref06_nodes.l0 k l0 (([] : List (S38))) 0) = some r := h
 clear h
 obtain ⟨y125, hy125⟩ : ∃ y_ : List (S38), y_ = (([] : List (S38))) := ⟨_, rfl⟩
 replace H : (variorumref06_nodes.l0 k l0 y125 0) = some r := by first | (rw [hy125]; with_reducible exact H) | (have H2_ := (Option.bind_some _ _).symm.trans H; rw [hy125]; with_reducible exact H2_) | (have H2_ := (Option.bind_some _ _).symm.trans H; with_reducible exact H2_) | with_reducible exact H | (rw [hy125]; exact H) | exact H
 have Ny125 := a_ hy125
 clear hy125
 have H' := a_ H
 clear H
 go_enter Try.func22, Try.ntmps22
 go_wp2_with (first | ((with_reducible refine gate_dst (N := 7) rfl ?_); (try (refine gate_guard (by rfl) ?_; dsimp only)); refine Kd.R_lit k38 _ 38 ?hg (N := 7) ?hd (xs := ([] : List (S38))) (inner := []) (ok := fun _ => True) (okp := fun _ => True) ?hr ?hp (fun _ hk => hk) trivial (Below.refl _ _) (Nat.le_refl _) (by simp) ?_; (case hd => rfl); (case hg => rfl); (case hr => first | (go_simp; done) | (go_simp; rfl)); (case hp => exact (Reps.none _ _)); intro v126 w2 ho3 hb hg_ hnew_; clear hg_ hnew_; (first | rw [← Ny125.out] at ho3 | (simp only [Int.reduceToNat] at ho3; rw [← Ny125.out] at ho3)); have n0_ := a_ (Kd.R_lower ho3 (below_size (bv_ HB.out))); have n1_ := a_ (bs_ HB.out hb); clear HB; have HO127 := n0_; have HB := n1_; clear n0_ n1_; clear hb ho3))
 go_loopg [3, 4] k (fun kq v3 v4 w' => ∃ (x3_1 : List (S38)) (x4_1 : Int), v4 = .int .i64 x4_1 ∧ Aside0 (variorumref06_nodes.l0 kq l0 x3_1 x4_1 = some r) ∧ Aside0 (kq ≤ k) ∧ Aside0 (Kd.R k38 38 w' w.heap.size (fun _ => True) v3 x3_1) ∧ Aside0 (Below w.heap.size w w'))
 case atStart => exact ⟨(y125), (0), (by first | rfl | (simp; done) | (simp [*]; done)), H', ⟨Nat.le_refl _⟩, ⟨by (with_reducible repeat (first | apply Kd.R_alloc | apply Kd.R_drewN | apply Kd.R_drew)); exact HO127.out⟩, ⟨bv_ HB.out⟩⟩
 case round =>
  clear H'
  try clear c2
  try clear p2
  obtain ⟨x3_1, x4_1, rfl, HA, HK1, HO_3, HB⟩ := hrel
  cases gk with
  | zero => exact absurd HA.out (by simp [variorumref06_nodes.l0])
  | succ k1 =>
   have H := HA.out
   clear HA
   simp only [variorumref06_nodes.l0] at H
   by_cases c4 : x4_1 < (l0.length : Int)
   ·rw [if_pos c4] at H
    have c4b0 : decide (x4_1 < (l0.length : Int)) = true := decide_eq_true c4
    clear c4
    by_cases c5 : 0 ≤ x4_1
    ·rw [if_pos c5] at H
     have c5b0 : decide (0 ≤ x4_1) = true := decide_eq_true c5
     clear c5
     have H' := a_ H
     clear H
     try go_wp2
     have n0_ := a_ (Kd.R_drew HO_3.out)
     have n1_ := a_ (below_drew1 HB.out)
     clear HO_3
     clear HB
     have HO_3 := n0_
     have HB := n1_
     clear n0_ n1_
     have p128 : 0 ≤ (x4_1 : Int) := od_
     have q128 : x4_1 < (l0.length : Int) := od_
     obtain ⟨ad128, e128, hx128_0, hx128_1, hx128_2⟩ := at_T44 HR0.out x4_1 p128 q128
     have hw128_2 := hx128_2
     have hw128_1 := hx128_1
     have hw128_0 := hx128_0
     cases e128
     try replace hx128_0 := up_ HB.out hx128_0
     try replace hx128_1 := up_ HB.out hx128_1
     try replace hx128_2 := up_ HB.out hx128_2
     replace p128 := eq_true p128
     replace q128 := eq_true q128
     have p129 : 0 ≤ (x4_1 : Int) := od_
     have q129 : x4_1 < (l0.length : Int) := od_
     obtain ⟨ad129, e129, hx129_0, hx129_1, hx129_2⟩ := at_T44 HR0.out x4_1 p129 q129
     have hw129_2 := hx129_2
     have hw129_1 := hx129_1
     have hw129_0 := hx129_0
     obtain rfl : ad128 = ad129 := (by injection e129)
     try replace hx129_0 := up_ HB.out hx129_0
     try replace hx129_1 := up_ HB.out hx129_1
     try replace hx129_2 := up_ HB.out hx129_2
     replace p129 := eq_true p129
     replace q129 := eq_true q129
     have p130 : 0 ≤ (x4_1 : Int) := od_
     have q130 : x4_1 < (l0.length : Int) := od_
     obtain ⟨ad130, e130, hx130_0, hx130_1, hx130_2⟩ := at_T44 HR0.out x4_1 p130 q130
     have hw130_2 := hx130_2
     have hw130_1 := hx130_1
     have hw130_0 := hx130_0
     obtain rfl : ad128 = ad130 := (by injection e130)
     try replace hx130_0 := up_ HB.out hx130_0
     try replace hx130_1 := up_ HB.out hx130_1
     try replace hx130_2 := up_ HB.out hx130_2
     replace p130 := eq_true p130
     replace q130 := eq_true q130
     refine start_ (n := 19) (S := fun w' => w'.cell? (ad128.add ((x4_1).toNat * 3)) = some (.int .i64 ((rd_T44 l0 x4_1).f0)) ∧ w'.cell? ⟨(ad128.add ((x4_1).toNat * 3)).block, (ad128.add ((x4_1).toNat * 3)).off + 1, none⟩ = some (.string ((rd_T44 l0 x4_1).f1)) ∧ w'.cell? ⟨(ad128.add ((x4_1).toNat * 3)).block, (ad128.add ((x4_1).toNat * 3)).off + 2, none⟩ = some (.int .i64 ((rd_T44 l0 x4_1).f2)) ∧ w'.cell? (ad128.add ((x4_1).toNat * 3)) = some (.int .i64 ((rd_T44 l0 x4_1).f0)) ∧ w'.cell? ⟨(ad128.add ((x4_1).toNat * 3)).block, (ad128.add ((x4_1).toNat * 3)).off + 1, none⟩ = some (.string ((rd_T44 l0 x4_1).f1)) ∧ w'.cell? ⟨(ad128.add ((x4_1).toNat * 3)).block, (ad128.add ((x4_1).toNat * 3)).off + 2, none⟩ = some (.int .i64 ((rd_T44 l0 x4_1).f2)) ∧ w'.cell? (ad128.add ((x4_1).toNat * 3)) = some (.int .i64 ((rd_T44 l0 x4_1).f0)) ∧ w'.cell? ⟨(ad128.add ((x4_1).toNat * 3)).block, (ad128.add ((x4_1).toNat * 3)).off + 1, none⟩ = some (.string ((rd_T44 l0 x4_1).f1)) ∧ w'.cell? ⟨(ad128.add ((x4_1).toNat * 3)).block, (ad128.add ((x4_1).toNat * 3)).off + 2, none⟩ = some (.int .i64 ((rd_T44 l0 x4_1).f2))) (ds := []) #[false, false, false, false, false, false, false, false, false, false, false, false, false, false, false, false, false, false, false] (by kernel_rfl) rfl rfl ⟨(up_ HB.out hw128_0), (up_ HB.out hw128_1), (up_ HB.out hw128_2), (up_ HB.out hw129_0), (up_ HB.out hw129_1), (up_ HB.out hw129_2), (up_ HB.out hw130_0), (up_ HB.out hw130_1), (up_ HB.out hw130_2)⟩ (fun hHeld => ?_); refine with_tabW variorumref06_nodes.tab4 variorumref06_nodes.bits4 (fun HT_ HW_ => ?_)
     generalize wr.drew = w6 at HO_3 HB hx128_0 hx128_1 hx128_2 hx129_0 hx129_1 hx129_2 hx130_0 hx130_1 hx130_2 hHeld ⊢
     refine pure_ (i := 0) (N := some 12) #[true, false, false, false, false, false, false, false, false, false, false, false, false, false, false, false, false, false, false] rfl rfl (any_of HT_.out (by kernel_rfl)) (fun _ _ _ h => h) (Or.inl ⟨by rfl, fun w' => by go_simp; with_reducible rfl⟩) (by simp only [Act.put, List.setIfInBounds_toArray, List.set_cons_zero, List.set_cons_succ, i64_w, i32_w]; rfl) ?_
     refine pure_ (i := 1) (N := some 13) #[true, true, false, false, false, false, false, false, false, false, false, false, false, false, false, false, false, false, false] rfl rfl (any_of HT_.out (by kernel_rfl)) (fun _ _ _ h => h) (Or.inl ⟨by rfl, fun w' => by go_simp; with_reducible rfl⟩) (by simp only [Act.put, List.setIfInBounds_toArray, List.set_cons_zero, List.set_cons_succ, i64_w, i32_w]; rfl) ?_
     refine pure_ (i := 2) (N := some 14) #[true, true, true, false, false, false, false, false, false, false, false, false, false, false, false, false, false, false, false] rfl rfl (any_of HT_.out (by kernel_rfl)) (fun _ _ _ h => h) (Or.inl ⟨by rfl, fun w' => by go_simp; with_reducible rfl⟩) (by simp only [Act.put, List.setIfInBounds_toArray, List.set_cons_zero, List.set_cons_succ, i64_w, i32_w]; rfl) ?_
     refine pure_ (i := 3) (N := some 15) #[true, true, true, true, false, false, false, false, false, false, false, false, false, false, false, false, false, false, false] rfl rfl (any_of HT_.out (by kernel_rfl)) (fun _ _ _ h => h) (Or.inl ⟨by rfl, fun w' => by go_simp; with_reducible rfl⟩) (by simp only [Act.put, List.setIfInBounds_toArray, List.set_cons_zero, List.set_cons_succ, i64_w, i32_w]; rfl) ?_
     refine pure_ (i := 6) (N := some 18) #[true, true, true, true, false, false, true, false, false, false, false, false, false, false, false, false, false, false, false] rfl rfl (any_of HT_.out (by kernel_rfl)) (fun _ _ _ h => h) (Or.inl ⟨by rfl, fun w' => by go_simp; with_reducible rfl⟩) (by simp only [Act.put, List.setIfInBounds_toArray, List.set_cons_zero, List.set_cons_succ, i64_w, i32_w]; rfl) ?_
     refine pure_ (i := 7) (N := some 19) #[true, true, true, true, false, false, true, true, false, false, false, false, false, false, false, false, false, false, false] rfl rfl (any_of HT_.out (by kernel_rfl)) (fun _ _ _ h => h) (Or.inl ⟨by rfl, fun w' => by go_simp; with_reducible rfl⟩) (by simp only [Act.put, List.setIfInBounds_toArray, List.set_cons_zero, List.set_cons_succ, i64_w, i32_w]; rfl) ?_
     refine pure_ (i := 8) (N := some 20) #[true, true, true, true, false, false, true, true, true, false, false, false, false, false, false, false, false, false, false] rfl rfl (any_of HT_.out (by kernel_rfl)) (fun _ _ _ h => h) (Or.inl ⟨by rfl, fun w' => by go_simp; with_reducible rfl⟩) (by simp only [Act.put, List.setIfInBounds_toArray, List.set_cons_zero, List.set_cons_succ, i64_w, i32_w]; rfl) ?_
     refine pure_ (i := 9) (N := some 21) #[true, true, true, true, false, false, true, true, true, true, false, false, false, false, false, false, false, false, false] rfl rfl (any_of HT_.out (by kernel_rfl)) (fun _ _ _ h => h) (Or.inl ⟨by rfl, fun w' => by go_simp; with_reducible rfl⟩) (by simp only [Act.put, List.setIfInBounds_toArray, List.set_cons_zero, List.set_cons_succ, i64_w, i32_w]; rfl) ?_
     refine pure_ (i := 11) (N := some 23) #[true, true, true, true, false, false, true, true, true, true, false, true, false, false, false, false, false, false, false] rfl rfl (any_of HT_.out (by kernel_rfl)) (fun _ _ _ h => h) (Or.inl ⟨by rfl, fun w' => by go_simp; with_reducible rfl⟩) (by simp only [Act.put, List.setIfInBounds_toArray, List.set_cons_zero, List.set_cons_succ, i64_w, i32_w]; rfl) ?_
     refine pure_ (i := 12) (N := some 24) #[true, true, true, true, false, false, true, true, true, true, false, true, true, false, false, false, false, false, false] rfl rfl (any_of HT_.out (by kernel_rfl)) (fun _ _ _ h => h) (Or.inl ⟨by rfl, fun w' => by go_simp; with_reducible rfl⟩) (by simp only [Act.put, List.setIfInBounds_toArray, List.set_cons_zero, List.set_cons_succ, i64_w, i32_w]; rfl) ?_
     refine pure_ (i := 13) (N := some 25) #[true, true, true, true, false, false, true, true, true, true, false, true, true, true, false, false, false, false, false] rfl rfl (any_of HT_.out (by kernel_rfl)) (fun _ _ _ h => h) (Or.inl ⟨by rfl, fun w' => by go_simp; with_reducible rfl⟩) (by simp only [Act.put, List.setIfInBounds_toArray, List.set_cons_zero, List.set_cons_succ, i64_w, i32_w]; rfl) ?_
     refine pure_ (i := 14) (N := some 26) #[true, true, true, true, false, false, true, true, true, true, false, true, true, true, true, false, false, false, false] rfl rfl (any_of HT_.out (by kernel_rfl)) (fun _ _ _ h => h) (Or.inl ⟨by rfl, fun w' => by go_simp; with_reducible rfl⟩) (by simp only [Act.put, List.setIfInBounds_toArray, List.set_cons_zero, List.set_cons_succ, i64_w, i32_w]; rfl) ?_
     refine take_ (i := 4) (N := some 16) (v := ?_) (a' := ?_) #[true, true, true, true, true, false, true, true, true, true, false, true, true, true, true, false, false, false, false] rfl rfl (take_ofW HT_.out HW_.out (by kernel_rfl)) (fun _ _ _ h => h) (Or.inl ⟨by rfl, ?_⟩) hHeld ?_ ?_
     rotate_left
     ·rintro w' ⟨s0, s1, s2, s3, s4, s5, s6, s7, s8⟩
      go_simp
      with_reducible rfl
     rotate_left
     ·simp only [Act.put, List.setIfInBounds_toArray, List.set_cons_zero, List.set_cons_succ, i64_w, i32_w]
      rfl
     refine pure_ (i := 5) (N := some 17) #[true, true, true, true, true, true, true, true, true, true, false, true, true, true, true, false, false, false, false] rfl rfl (any_of HT_.out (by kernel_rfl)) (fun _ _ _ h => h) (Or.inl ⟨by rfl, fun w' => by go_simp; with_reducible rfl⟩) (by simp only [Act.put, List.setIfInBounds_toArray, List.set_cons_zero, List.set_cons_succ, i64_w, i32_w]; rfl) ?_
     refine take_ (i := 10) (N := some 22) (v := ?_) (a' := ?_) #[true, true, true, true, true, true, true, true, true, true, true, true, true, true, true, false, false, false, false] rfl rfl (take_ofW HT_.out HW_.out (by kernel_rfl)) (fun _ _ _ h => h) (Or.inl ⟨by rfl, ?_⟩) hHeld ?_ ?_
     rotate_left
     ·rintro w' ⟨s0, s1, s2, s3, s4, s5, s6, s7, s8⟩
      go_simp
      with_reducible rfl
     rotate_left
     ·simp only [Act.put, List.setIfInBounds_toArray, List.set_cons_zero, List.set_cons_succ, i64_w, i32_w]
      rfl
     refine take_ (i := 15) (N := some 27) (v := ?_) (a' := ?_) #[true, true, true, true, true, true, true, true, true, true, true, true, true, true, true, true, false, false, false] rfl rfl (take_ofW HT_.out HW_.out (by kernel_rfl)) (fun _ _ _ h => h) (Or.inl ⟨by rfl, ?_⟩) hHeld ?_ ?_
     rotate_left
     ·rintro w' ⟨s0, s1, s2, s3, s4, s5, s6, s7, s8⟩
      go_simp
      with_reducible rfl
     rotate_left
     ·simp only [Act.put, List.setIfInBounds_toArray, List.set_cons_zero, List.set_cons_succ, i64_w, i32_w]
      rfl
     refine pure_ (i := 16) (N := some 28) #[true, true, true, true, true, true, true, true, true, true, true, true, true, true, true, true, true, false, false] rfl rfl (any_of HT_.out (by kernel_rfl)) (fun _ _ _ h => h) (Or.inl ⟨by rfl, fun w' => by go_simp; with_reducible rfl⟩) (by simp only [Act.put, List.setIfInBounds_toArray, List.set_cons_zero, List.set_cons_succ, i64_w, i32_w]; rfl) ?_
     refine one_ (i := 17) (N := some 5) #[true, true, true, true, true, true, true, true, true, true, true, true, true, true, true, true, true, true, false] rfl rfl (one_of HT_.out (by kernel_rfl)) (by decide) (fun K hK => ?_)
     refine box_step ?hg (N := 5) ?hd (cs := #[.bool false, .string (⟨#[]⟩ : ByteArray), .slice none 0 0, .int .i64 0]) (t := 38) ?hr ?_; (case hd => rfl); (case hg => rfl); (case hr => first | (go_simp; done) | (go_simp; rfl))
     intro gb131 hg w7 hbox hb
     have n0_ := a_ (Kd.R_below (Kd.R_elderB (rv_ HO_3.out) gb131 (Nat.le_of_eq hg.symm)) hb)
     have n1_ := a_ (bs_ HB.out hb)
     have n2_ := a_ (hbox)
     have n3_ := a_ ((by rw [hg]; exact (below_size (bv_ HB.out)) : w.heap.size ≤ gb131))
     have n4_ := a_ ((by rw [hg]; exact (below_size (bv_ HB.out)) : w.heap.size ≤ gb131))
     clear HO_3
     clear HB
     have HO_3 := n0_
     have HB := n1_
     have BK131 := n2_
     have GW131 := n3_
     have GE131 := n4_
     clear n0_ n1_ n2_ n3_ n4_
     clear hb hbox hg
     refine hK.out _ _ ⟨(up_ HB.out hw128_0), (up_ HB.out hw128_1), (up_ HB.out hw128_2), (up_ HB.out hw129_0), (up_ HB.out hw129_1), (up_ HB.out hw129_2), (up_ HB.out hw130_0), (up_ HB.out hw130_1), (up_ HB.out hw130_2)⟩ (fun hHeld => ?_)
     clear hK K
     refine norm_ (a' := ?_) ?_ ?_
     rotate_left
     ·show Act.put _ (some 5) _ = _
      simp only [Act.put, List.setIfInBounds_toArray, List.set_cons_zero, List.set_cons_succ, i64_w, i32_w]
      rfl
     refine one_ (i := 18) (N := none) #[true, true, true, true, true, true, true, true, true, true, true, true, true, true, true, true, true, true, true] rfl rfl (one_of HT_.out (by kernel_rfl)) (by decide) (fun K hK => ?_)
     have hs8 : w7.cell? ⟨gb131, 0, none⟩ = some (.bool false) := (blk_cell BK131.out 0).trans rfl
     have hfs8 := blk_frozen BK131.out 0
     have hs9 : w7.cell? ⟨gb131, 1, none⟩ = some (.string (⟨#[]⟩ : ByteArray)) := (blk_cell BK131.out 1).trans rfl
     have hfs9 := blk_frozen BK131.out 1
     have hs10 : w7.cell? ⟨gb131, 2, none⟩ = some (.slice none 0 0) := (blk_cell BK131.out 2).trans rfl
     have hfs10 := blk_frozen BK131.out 2
     have hs11 : w7.cell? ⟨gb131, 3, none⟩ = some (.int .i64 0) := (blk_cell BK131.out 3).trans rfl
     have hfs11 := blk_frozen BK131.out 3
     refine skip_ (w1 := ?_) (by rfl) rfl ?_ ?_
     rotate_left
     ·go_simp
      rfl
     refine hK.out _ _ ⟨(cc1_ (far_ hw128_0 GW131.out) hHeld.1), (cc1_ (far_ hw128_1 GW131.out) hHeld.2.1), (cc1_ (far_ hw128_2 GW131.out) hHeld.2.2.1), (cc1_ (far_ hw129_0 GW131.out) hHeld.2.2.2.1), (cc1_ (far_ hw129_1 GW131.out) hHeld.2.2.2.2.1), (cc1_ (far_ hw129_2 GW131.out) hHeld.2.2.2.2.2.1), (cc1_ (far_ hw130_0 GW131.out) hHeld.2.2.2.2.2.2.1), (cc1_ (far_ hw130_1 GW131.out) hHeld.2.2.2.2.2.2.2.1), (cc1_ (far_ hw130_2 GW131.out) hHeld.2.2.2.2.2.2.2.2)⟩ (fun hHeld => ?_)
     clear hK K
     refine done_ (done_of HT_.out (by kernel_rfl)) ?_
     try go_wp2
     go_loopg [4] k1 (fun kq v4 w' => ∃ (x4_2 : Int) (x132002_2 : List (List (S38))) (u132002 : Value), v4 = .int .i64 x4_2 ∧ Aside0 (variorumref06_nodes.l1 kq l0 x3_1 x4_2 (((rd_T44 l0 x4_1).f0) == 1) ((rd_T44 l0 x4_1).f1) x132002_2 ((rd_T44 l0 x4_1).f2) = some r) ∧ Aside0 (kq ≤ k1) ∧ Aside0 (Kd.R k38 38 w' w.heap.size (fun k_ => some k_ ≠ (u132002 : Value).ownBlock ∧ k_ ≠ gb131) u3 x3_1) ∧ Aside0 (Kd.R (Kd.slice 38 k38) 23 w' w.heap.size (fun k_ => some k_ ≠ (u3 : Value).ownBlock ∧ k_ ≠ gb131) u132002 x132002_2) ∧ Aside0 (w'.heap[gb131]? = some (.cells #[.bool (((rd_T44 l0 x4_1).f0) == 1), .string ((rd_T44 l0 x4_1).f1), u132002, .int .i64 ((rd_T44 l0 x4_1).f2)] 38 (0, 0))) ∧ Aside0 (Below w.heap.size w w'))
     case atStart => exact ⟨(wrap64 (x4_1 + 1)), (([] : List (List (S38)))), (.slice none 0 0), (by first | rfl | (simp; done) | (simp [*]; done)), H', ⟨Nat.le_refl _⟩, ⟨by (with_reducible repeat (first | apply Kd.R_alloc | apply Kd.R_drewN | apply Kd.R_drew)); exact Kd.R_mono (Kd.R_far (p := ⟨gb131, 3, none⟩) (Kd.R_far (p := ⟨gb131, 2, none⟩) (Kd.R_far (p := ⟨gb131, 1, none⟩) (Kd.R_far (p := ⟨gb131, 0, none⟩) (Kd.R_mono HO_3.out (fun k_ hk => (⟨hk, hk.2⟩ : _ ∧ k_ ≠ gb131))) (fun _ hk => hk.2) (.bool (((rd_T44 l0 x4_1).f0) == 1))) (fun _ hk => hk.2) (.string ((rd_T44 l0 x4_1).f1))) (fun _ hk => hk.2) (.slice none 0 0)) (fun _ hk => hk.2) (.int .i64 ((rd_T44 l0 x4_1).f2))) (fun _ hk => ⟨(by simp [Value.ownBlock]), hk.1.2⟩)⟩, ⟨by first | exact Kd.R_nil _ _ _ _ _ | exact Kd.N_nil _ _ _ _ _ | exact Kd.V_nil _ _ _ _ _ | exact Kd.Q_nil _ _ _ _ _ | exact Kd.S_nil _ _ _ _ _⟩, ⟨kp0_ BK131.out⟩, ⟨bS1_ HB.out GE131.out⟩⟩
     case round =>
      clear H'
      try clear p1
      try clear q1
      try clear hx1
      try clear c2
      try clear p2
      try clear c4
      try clear c4b0
      try clear c5
      try clear c5b0
      try clear p6
      try clear hx128_0
      try clear hx128_1
      try clear hx128_2
      try clear hx129_0
      try clear hx129_1
      try clear hx129_2
      try clear hx130_0
      try clear hx130_1
      try clear hx130_2
      try clear p128
      try clear p129
      try clear p130
      try clear p2
      try clear q128
      try clear q129
      try clear q130
      obtain ⟨x4_2, x132002_2, u132002, rfl, HA, HK2, HO_3, HO_132002, BK131, HB⟩ := hrel
      cases gk with
      | zero => exact absurd HA.out (by simp [variorumref06_nodes.l1])
      | succ k2 =>
       have H := HA.out
       clear HA
       simp only [variorumref06_nodes.l1] at H
       have HC12 := a_ H
       clear H
       go_upto_region 6 with (fail)
       go_cut [46] (fun v46 wc => ∃ (kq : Nat) (x46_11 : Bool), v46 = .bool x46_11 ∧ Aside0 (variorumref06_nodes.j2 kq l0 x3_1 x4_2 x46_11 (((rd_T44 l0 x4_1).f0) == 1) ((rd_T44 l0 x4_1).f1) x132002_2 ((rd_T44 l0 x4_1).f2) = some r) ∧ Aside0 (kq ≤ k2) ∧ Aside0 (Kd.R k38 38 wc w.heap.size (fun k_ => some k_ ≠ (u132002 : Value).ownBlock ∧ k_ ≠ gb131) u3 x3_1) ∧ Aside0 (Kd.R (Kd.slice 38 k38) 23 wc w.heap.size (fun k_ => some k_ ≠ (u3 : Value).ownBlock ∧ k_ ≠ gb131) u132002 x132002_2) ∧ Aside0 (wc.heap[gb131]? = some (.cells #[.bool (((rd_T44 l0 x4_1).f0) == 1), .string ((rd_T44 l0 x4_1).f1), u132002, .int .i64 ((rd_T44 l0 x4_1).f2)] 38 (0, 0))) ∧ Aside0 (Below w.heap.size w wc))
       case first =>
        have H := HC12.out
        clear HC12
        by_cases c13 : (((rd_T44 l0 x4_1).f0) == 1) = true
        ·rw [if_pos c13] at H
         have c13b0 : (((rd_T44 l0 x4_1).f0) == 1) = true := c13
         (try (have c13b1 : decide (((rd_T44 l0 x4_1).f0) = 1) = true := by simpa using c13))
         (try (have c13b2 : (((rd_T44 l0 x4_1).f0) == 1) = true := by simpa using c13))
         clear c13
         by_cases c14 : x4_2 < (l0.length : Int)
         ·rw [if_pos c14] at H
          have c14b0 : decide (x4_2 < (l0.length : Int)) = true := decide_eq_true c14
          clear c14
          by_cases c15 : 0 ≤ x4_2
          ·rw [if_pos c15] at H
           have c15b0 : decide (0 ≤ x4_2) = true := decide_eq_true c15
           clear c15
           have H' := a_ H
           clear H
           have Z16_0 : wr.cell? ⟨gb131, 0, none⟩ = some (.bool (((rd_T44 l0 x4_1).f0) == 1)) := (blk_cell BK131.out 0).trans rfl
           (try (rw [c13b0] at Z16_0; clear c13b0; (try clear c13b1); (try clear c13b2)))
           have Z16_1 : wr.cell? ⟨gb131, 1, none⟩ = some (.string ((rd_T44 l0 x4_1).f1)) := (blk_cell BK131.out 1).trans rfl
           have Z16_2 : wr.cell? ⟨gb131, 2, none⟩ = some (u132002) := (blk_cell BK131.out 2).trans rfl
           have Z16_3 : wr.cell? ⟨gb131, 3, none⟩ = some (.int .i64 ((rd_T44 l0 x4_1).f2)) := (blk_cell BK131.out 3).trans rfl
           have Y16_0 := blk_frozen BK131.out 0
           have Y16_1 := blk_frozen BK131.out 1
           have Y16_2 := blk_frozen BK131.out 2
           have Y16_3 := blk_frozen BK131.out 3
           have p132 : 0 ≤ (x4_2 : Int) := od_
           have q132 : x4_2 < (l0.length : Int) := od_
           obtain ⟨ad132, e132, hx132_0, hx132_1, hx132_2⟩ := at_T44 (Kd.C_below HR0.out HB.out) x4_2 p132 q132
           obtain rfl : ad128 = ad132 := (by injection e132)
           replace p132 := eq_true p132
           replace q132 := eq_true q132
           go_wp2
           go_meet
           case rel => exact ⟨_, ((((rd_T44 l0 x4_2).f0) == 2)), (by first | rfl | (simp; done) | (simp [*]; done)), H', ⟨by have := HK1.out; have := HK2.out; first | omega | exact Nat.le_refl _⟩, ⟨by (with_reducible repeat (first | apply Kd.R_alloc | apply Kd.R_drewN | apply Kd.R_drew)); exact HO_3.out⟩, ⟨by (with_reducible repeat (first | apply Kd.R_alloc | apply Kd.R_drewN | apply Kd.R_drew)); exact HO_132002.out⟩, ⟨kv_ BK131.out⟩, ⟨bS1_ HB.out GE131.out⟩⟩
          ·rw [if_neg c15] at H
           exact absurd H (by simp)
         ·rw [if_neg c14] at H
          have c14b0 : decide (x4_2 < (l0.length : Int)) = false := decide_eq_false c14
          clear c14
          have H' := a_ H
          clear H
          have Z17_0 : wr.cell? ⟨gb131, 0, none⟩ = some (.bool (((rd_T44 l0 x4_1).f0) == 1)) := (blk_cell BK131.out 0).trans rfl
          (try (rw [c13b0] at Z17_0; clear c13b0; (try clear c13b1); (try clear c13b2)))
          have Z17_1 : wr.cell? ⟨gb131, 1, none⟩ = some (.string ((rd_T44 l0 x4_1).f1)) := (blk_cell BK131.out 1).trans rfl
          have Z17_2 : wr.cell? ⟨gb131, 2, none⟩ = some (u132002) := (blk_cell BK131.out 2).trans rfl
          have Z17_3 : wr.cell? ⟨gb131, 3, none⟩ = some (.int .i64 ((rd_T44 l0 x4_1).f2)) := (blk_cell BK131.out 3).trans rfl
          have Y17_0 := blk_frozen BK131.out 0
          have Y17_1 := blk_frozen BK131.out 1
          have Y17_2 := blk_frozen BK131.out 2
          have Y17_3 := blk_frozen BK131.out 3
          go_wp2
          go_meet
          case rel => exact ⟨_, (false), (by first | rfl | (simp; done) | (simp [*]; done)), H', ⟨by have := HK1.out; have := HK2.out; first | omega | exact Nat.le_refl _⟩, ⟨by (with_reducible repeat (first | apply Kd.R_alloc | apply Kd.R_drewN | apply Kd.R_drew)); exact HO_3.out⟩, ⟨by (with_reducible repeat (first | apply Kd.R_alloc | apply Kd.R_drewN | apply Kd.R_drew)); exact HO_132002.out⟩, ⟨kv_ BK131.out⟩, ⟨bS1_ HB.out GE131.out⟩⟩
        ·rw [if_neg c13] at H
         have c13b0 : (((rd_T44 l0 x4_1).f0) == 1) = false := by simpa using c13
         (try (have c13b1 : decide (((rd_T44 l0 x4_1).f0) = 1) = false := by simpa using c13))
         (try (have c13b2 : (((rd_T44 l0 x4_1).f0) == 1) = false := by simpa using c13))
         (try (have c13b3 : ¬ (((rd_T44 l0 x4_1).f0) = 1) := by simpa using c13))
         clear c13
         have H' := a_ H
         clear H
         have Z18_0 : wr.cell? ⟨gb131, 0, none⟩ = some (.bool (((rd_T44 l0 x4_1).f0) == 1)) := (blk_cell BK131.out 0).trans rfl
         (try (rw [c13b0] at Z18_0; clear c13b0; (try clear c13b1); (try clear c13b2)))
         have Z18_1 : wr.cell? ⟨gb131, 1, none⟩ = some (.string ((rd_T44 l0 x4_1).f1)) := (blk_cell BK131.out 1).trans rfl
         have Z18_2 : wr.cell? ⟨gb131, 2, none⟩ = some (u132002) := (blk_cell BK131.out 2).trans rfl
         have Z18_3 : wr.cell? ⟨gb131, 3, none⟩ = some (.int .i64 ((rd_T44 l0 x4_1).f2)) := (blk_cell BK131.out 3).trans rfl
         have Y18_0 := blk_frozen BK131.out 0
         have Y18_1 := blk_frozen BK131.out 1
         have Y18_2 := blk_frozen BK131.out 2
         have Y18_3 := blk_frozen BK131.out 3
         go_wp2
         go_meet
         case rel => exact ⟨_, (false), (by first | rfl | (simp; done) | (simp [*]; done)), H', ⟨by have := HK1.out; have := HK2.out; first | omega | exact Nat.le_refl _⟩, ⟨by (with_reducible repeat (first | apply Kd.R_alloc | apply Kd.R_drewN | apply Kd.R_drew)); exact HO_3.out⟩, ⟨by (with_reducible repeat (first | apply Kd.R_alloc | apply Kd.R_drewN | apply Kd.R_drew)); exact HO_132002.out⟩, ⟨kv_ BK131.out⟩, ⟨bS1_ HB.out GE131.out⟩⟩
       case rest =>
        clear HC12
        try clear c1
        try clear p1
        try clear q1
        try clear hx1
        try clear c2
        try clear p2
        try clear c4
        try clear c4b0
        try clear c5
        try clear c5b0
        try clear p6
        try clear p12
        try clear q12
        try clear hx12
        try clear c13
        try clear c13b0
        try clear c13b1
        try clear c13b2
        try clear p13
        try clear q13
        try clear hx13
        try clear c14
        try clear c14b0
        try clear c15
        try clear c15b0
        try clear Z16_0
        try clear Z16_1
        try clear Z16_2
        try clear Z16_3
        try clear Z17_0
        try clear Z17_1
        try clear Z17_2
        try clear Z17_3
        try clear Z18_0
        try clear Z18_1
        try clear Z18_2
        try clear Z18_3
        try clear Y16_0
        try clear Y16_1
        try clear Y16_2
        try clear Y16_3
        try clear Y17_0
        try clear Y17_1
        try clear Y17_2
        try clear Y17_3
        try clear Y18_0
        try clear Y18_1
        try clear Y18_2
        try clear Y18_3
        try clear hx128_0
        try clear hx128_1
        try clear hx128_2
        try clear hx129_0
        try clear hx129_1
        try clear hx129_2
        try clear hx130_0
        try clear hx130_1
        try clear hx130_2
        try clear hx132_0
        try clear hx132_1
        try clear hx132_2
        try clear p1
        try clear p128
        try clear p129
        try clear p130
        try clear p132
        try clear p2
        try clear p6
        try clear q1
        try clear q128
        try clear q129
        try clear q130
        try clear q132
        obtain ⟨kq, x46_11, rfl, HA, HJ11, HO_3, HO_132002, BK131, HB⟩ := hcut
        cases kq with
        | zero => exact absurd HA.out (by simp [variorumref06_nodes.j2])
        | succ kj11 =>
         have H := HA.out
         clear HA
         simp only [variorumref06_nodes.j2] at H
         by_cases c19 : x46_11 = true
         ·subst c19
          have H1 : ((variorumref06_End.f kj11 l0 x4_2).bind fun t133 => (if 0 ≤ (wrap64 (x4_2 + 1)) then (if (wrap64 (x4_2 + 1)) ≤ t133 then (if t133 ≤ (l0.length : Int) then ((variorumref06_nodes.f kj11 ((l0.take (t133 : Int).toNat).drop ((wrap64 (x4_2 + 1)) : Int).toNat)).bind fun t138 => (if x132002_2.length < 5864062014805 then (variorumref06_nodes.l1 kj11 l0 x3_1 (wrap64 (t133 + 1)) (((rd_T44 l0 x4_1).f0) == 1) ((rd_T44 l0 x4_1).f1) (x132002_2 ++ [t138]) ((rd_T44 l0 x4_1).f2)) else (none))) else (none)) else (none)) else (none))) = some r := by rw [if_pos rfl] at H; exact H
          clear H
          have H := H1
          clear H1
          replace H := Option.bind_eq_some_iff.mp H
          obtain ⟨t133, A200, H⟩ := H
          replace H : (if 0 ≤ (wrap64 (x4_2 + 1)) then (if (wrap64 (x4_2 + 1)) ≤ t133 then (if t133 ≤ (l0.length : Int) then ((variorumref06_nodes.f kj11 ((l0.take (t133 : Int).toNat).drop ((wrap64 (x4_2 + 1)) : Int).toNat)).bind fun t138 => (if x132002_2.length < 5864062014805 then (variorumref06_nodes.l1 kj11 l0 x3_1 (wrap64 (t133 + 1)) (((rd_T44 l0 x4_1).f0) == 1) ((rd_T44 l0 x4_1).f1) (x132002_2 ++ [t138]) ((rd_T44 l0 x4_1).f2)) else (none))) else (none)) else (none)) else (none)) = some r := H
          have A20 := a_ A200
          clear A200
          obtain ⟨ji21, hji21⟩ : ∃ j_ : Int, (wrap64 (x4_2 + 1)) = j_ := ⟨_, rfl⟩
          replace H : (if 0 ≤ (ji21) then (if (ji21) ≤ t133 then (if t133 ≤ (l0.length : Int) then ((variorumref06_nodes.f kj11 ((l0.take (t133 : Int).toNat).drop ((ji21) : Int).toNat)).bind fun t138 => (if x132002_2.length < 5864062014805 then (variorumref06_nodes.l1 kj11 l0 x3_1 (wrap64 (t133 + 1)) (((rd_T44 l0 x4_1).f0) == 1) ((rd_T44 l0 x4_1).f1) (x132002_2 ++ [t138]) ((rd_T44 l0 x4_1).f2)) else (none))) else (none)) else (none)) else (none)) = some r := by first | (rw [hji21] at H; exact H) | (simp only [hji21] at H ⊢; exact H)
          (try rw [hji21] at A20)
          have hji21w : (IntKind.i64.wrap (x4_2 + 1)) = ji21 := (i64_w _).trans hji21
          by_cases c22 : 0 ≤ (ji21)
          ·rw [if_pos c22] at H
           have c22b0 := eq_true c22
           have c22b1 : decide (0 ≤ (ji21)) = true := decide_eq_true c22
           clear c22
           by_cases c23 : (ji21) ≤ t133
           ·rw [if_pos c23] at H
            have c23b0 := eq_true c23
            have c23b1 : decide ((ji21) ≤ t133) = true := decide_eq_true c23
            clear c23
            by_cases c24 : t133 ≤ (l0.length : Int)
            ·rw [if_pos c24] at H
             have c24b0 := eq_true c24
             have c24b1 : decide (t133 ≤ (l0.length : Int)) = true := decide_eq_true c24
             clear c24
             obtain ⟨y134, hy134⟩ : ∃ y_ : List (S44), y_ = ((l0.take (t133 : Int).toNat).drop ((ji21) : Int).toNat) := ⟨_, rfl⟩
             replace H : ((variorumref06_nodes.f kj11 y134).bind fun t138 => (if x132002_2.length < 5864062014805 then (variorumref06_nodes.l1 kj11 l0 x3_1 (wrap64 (t133 + 1)) (((rd_T44 l0 x4_1).f0) == 1) ((rd_T44 l0 x4_1).f1) (x132002_2 ++ [t138]) ((rd_T44 l0 x4_1).f2)) else (none))) = some r := by first | (rw [hy134]; with_reducible exact H) | (have H2_ := (Option.bind_some _ _).symm.trans H; rw [hy134]; with_reducible exact H2_) | (have H2_ := (Option.bind_some _ _).symm.trans H; with_reducible exact H2_) | with_reducible exact H | (rw [hy134]; exact H) | exact H
             have Ny134 := a_ hy134
             clear hy134
             replace H := Option.bind_eq_some_iff.mp H
             obtain ⟨t138, A250, H⟩ := H
             replace H : (if x132002_2.length < 5864062014805 then (variorumref06_nodes.l1 kj11 l0 x3_1 (wrap64 (t133 + 1)) (((rd_T44 l0 x4_1).f0) == 1) ((rd_T44 l0 x4_1).f1) (x132002_2 ++ [t138]) ((rd_T44 l0 x4_1).f2)) else (none)) = some r := H
             have A25 := a_ A250
             clear A250
             by_cases c26 : x132002_2.length < 5864062014805
             ·rw [if_pos c26] at H
              have LMc26 := a_ c26
              clear c26
              obtain ⟨y141, hy141⟩ : ∃ y_ : List (List (S38)), y_ = (x132002_2 ++ [t138]) := ⟨_, rfl⟩
              replace H : (variorumref06_nodes.l1 kj11 l0 x3_1 (wrap64 (t133 + 1)) (((rd_T44 l0 x4_1).f0) == 1) ((rd_T44 l0 x4_1).f1) y141 ((rd_T44 l0 x4_1).f2)) = some r := by first | (rw [hy141]; with_reducible exact H) | (have H2_ := (Option.bind_some _ _).symm.trans H; rw [hy141]; with_reducible exact H2_) | (have H2_ := (Option.bind_some _ _).symm.trans H; with_reducible exact H2_) | with_reducible exact H | (rw [hy141]; exact H) | exact H
              have Ny141 := a_ hy141
              clear hy141
              have H' := a_ H
              clear H
              try go_wp2_with (first | ((with_reducible refine gate_callee (f := 34) rfl ?_); refine gl_ (some 49) Try.func34 (by kernel_rfl) #[.slice (some ad128) l0.length c0, .int .i64 x4_2] ?_; (with_reducible refine (variorumref06_End.calls kj11 _ _ l0 x4_2 t133 _ ?side1 ?side2 A20.out).mono ?_); (case side1 => exact cw_ HR0.out HB.out); (case side2 => exact HC0.out); rintro e w' ⟨rfl, ⟨nd, rfl⟩⟩; refine ⟨_, rfl, ?_⟩; (try (rw [drewN_self wc]; generalize hq_ : World.drewN wc _ = wc; have n0_ : Aside0 (Kd.R (Kd.slice 38 k38) 23 wc w.heap.size (fun k_ => some k_ ≠ (u3 : Value).ownBlock ∧ k_ ≠ gb131) u132002 x132002_2) := ⟨by rw [← hq_]; exact (rv_ HO_132002.out)⟩; have n1_ : Aside0 (Kd.R k38 38 wc w.heap.size (fun k_ => some k_ ≠ (u132002 : Value).ownBlock ∧ k_ ≠ gb131) u3 x3_1) := ⟨by rw [← hq_]; exact (rv_ HO_3.out)⟩; have n2_ : Aside0 (wc.heap[gb131]? = some (.cells #[.bool (((rd_T44 l0 x4_1).f0) == 1), .string ((rd_T44 l0 x4_1).f1), u132002, .int .i64 ((rd_T44 l0 x4_1).f2)] 38 (0, 0))) := ⟨by rw [← hq_]; exact (kv_ BK131.out)⟩; have n3_ : Aside0 (Below w.heap.size w wc) := ⟨by rw [← hq_]; exact (bS1_ HB.out GE131.out)⟩; clear HO_132002 HO_3 BK131 HB hq_; have HO_132002 := n0_; have HO_3 := n1_; have BK131 := n2_; have HB := n3_; clear n0_ n1_ n2_ n3_))))
              have n0_ := a_ (Kd.R_drew HO_3.out)
              have n1_ := a_ (Kd.R_drew HO_132002.out)
              have n2_ := a_ (blk_drew BK131.out)
              have n3_ := a_ (below_drew1 HB.out)
              clear HO_3
              clear HO_132002
              clear BK131
              clear HB
              have HO_3 := n0_
              have HO_132002 := n1_
              have BK131 := n2_
              have HB := n3_
              clear n0_ n1_ n2_ n3_
              have q28 : (t133 : Int) ≤ ((l0.length : Int) : Int) := od_
              obtain ⟨i028, hi028, _, hsz28, _⟩ := info_parts info44
              have hroom28 : l0.length ≤ c0 := HC0.out
              have hC28 : Kd.C k44 _ (some ad128) l0.length l0 := HR0.out
              have ql28 : ((ji21) : Int) ≤ (t133 : Int) := od_
              have q028 : (0 : Int) ≤ ((ji21) : Int) := od_
              have hcut28 := cut_mid (P := Try.prog) 22 44 .i64 .i64 Try.underlying22 hi028 3 hsz28 (some ad128) l0.length c0 (ji21) t133 q028 ql28 q28 hroom28
              have hr28 := Kd.C_mid (lo := ((ji21) : Int).toNat) (hi := (t133 : Int).toNat) (c := c0) hC28 (by omega) (by omega) hroom28
              obtain ⟨A28, hA28⟩ : ∃ A1, A1 = (if c0 = ((ji21) : Int).toNat then (some ad128) else ((some ad128) : Option Addr).map (·.add (((ji21) : Int).toNat * 3))) := ⟨_, rfl⟩
              obtain ⟨c28, hc28⟩ : ∃ c1, c1 = c0 - ((ji21) : Int).toNat := ⟨_, rfl⟩
              have hy28 : y134.length = (t133 : Int).toNat - ((ji21) : Int).toNat := (by rw [Ny134.out, List.length_drop, List.length_take] <;> omega)
              rw [show ((l0).take (t133 : Int).toNat).drop ((ji21) : Int).toNat = y134 from Ny134.out.symm] at hr28
              replace hr28 : Kd.C k44 _ A28 y134.length y134 := (by rw [hA28]; exact hr28)
              rw [← hy28, ← hA28, ← hc28] at hcut28
              have HR137 := a_ hr28
              have HC137 := a_ (show y134.length ≤ c28 from by rw [hy28, hc28]; exact Nat.sub_le_sub_right (Nat.le_trans (by omega) hroom28) _)
              clear hr28 hC28 hroom28 hi028 hsz28 hc28
              have KY28 := a_ hy28
              have KA28 := a_ hA28
              clear hy28 hA28
              replace q28 := eq_true q28
              refine start_ (n := 12) (S := fun w' => w'.cell? ⟨gb131, 0, none⟩ = some (.bool (((rd_T44 l0 x4_1).f0) == 1)) ∧ w'.cell? ⟨gb131, 1, none⟩ = some (.string ((rd_T44 l0 x4_1).f1)) ∧ w'.cell? ⟨gb131, 2, none⟩ = some (u132002) ∧ w'.cell? ⟨gb131, 3, none⟩ = some (.int .i64 ((rd_T44 l0 x4_1).f2))) (ds := [11]) #[false, false, false, false, false, false, false, false, false, false, false, false] (by kernel_rfl) rfl rfl ⟨(blk_cell BK131.out 0).trans rfl, (blk_cell BK131.out 1).trans rfl, (blk_cell BK131.out 2).trans rfl, (blk_cell BK131.out 3).trans rfl⟩ (fun hHeld => ?_); refine with_tabW variorumref06_nodes.tab8 variorumref06_nodes.bits8 (fun HT_ HW_ => ?_)
              generalize wc.drew = w27 at HO_3 HO_132002 BK131 HB HR137 hHeld ⊢
              refine pure_ (i := 0) (N := some 50) #[true, false, false, false, false, false, false, false, false, false, false, false] rfl rfl (any_of HT_.out (by kernel_rfl)) (fun _ _ _ h => h) (Or.inl ⟨by rfl, fun w' => by go_simp; with_reducible rfl⟩) (by simp only [Act.put, List.setIfInBounds_toArray, List.set_cons_zero, List.set_cons_succ, i64_w, i32_w]; rfl) ?_
              refine pure_ (i := 2) (N := some 52) #[true, false, true, false, false, false, false, false, false, false, false, false] rfl rfl (any_of HT_.out (by kernel_rfl)) (fun _ _ _ h => h) (Or.inl ⟨by rfl, fun w' => by go_simp; with_reducible rfl⟩) (by simp only [Act.put, List.setIfInBounds_toArray, List.set_cons_zero, List.set_cons_succ, i64_w, i32_w]; rfl) ?_
              refine pure_ (i := 3) (N := some 53) #[true, false, true, true, false, false, false, false, false, false, false, false] rfl rfl (any_of HT_.out (by kernel_rfl)) (fun _ _ _ h => h) (Or.inl ⟨by rfl, fun w' => by go_simp; with_reducible rfl⟩) (by simp only [Act.put, List.setIfInBounds_toArray, List.set_cons_zero, List.set_cons_succ, i64_w, i32_w]; rfl) ?_
              refine pure_ (i := 4) (N := some 54) #[true, false, true, true, true, false, false, false, false, false, false, false] rfl rfl (any_of HT_.out (by kernel_rfl)) (fun _ _ _ h => h) (Or.inl ⟨by rfl, fun w' => by go_simp; with_reducible rfl⟩) (by simp only [Act.put, List.setIfInBounds_toArray, List.set_cons_zero, List.set_cons_succ, i64_w, i32_w]; rfl) ?_
              refine pure_ (i := 5) (N := some 55) #[true, false, true, true, true, true, false, false, false, false, false, false] rfl rfl (any_of HT_.out (by kernel_rfl)) (fun _ _ _ h => h) (Or.inl ⟨by rfl, fun w' => by go_simp; with_reducible rfl⟩) (by simp only [Act.put, List.setIfInBounds_toArray, List.set_cons_zero, List.set_cons_succ, i64_w, i32_w]; rfl) ?_
              refine pure_ (i := 6) (N := some 56) #[true, false, true, true, true, true, true, false, false, false, false, false] rfl rfl (any_of HT_.out (by kernel_rfl)) (fun _ _ _ h => h) (Or.inl ⟨by rfl, fun w' => by go_simp; with_reducible rfl⟩) (by simp only [Act.put, List.setIfInBounds_toArray, List.set_cons_zero, List.set_cons_succ, i64_w, i32_w]; rfl) ?_
              refine take_ (i := 1) (N := some 51) (v := ?_) (a' := ?_) #[true, true, true, true, true, true, true, false, false, false, false, false] rfl rfl (take_ofW HT_.out HW_.out (by kernel_rfl)) (fun _ _ _ h => h) (Or.inl ⟨by rfl, ?_⟩) hHeld ?_ ?_
              rotate_left
              ·rintro w' ⟨s0, s1, s2, s3⟩
               go_simp
               with_reducible rfl
              rotate_left
              ·simp only [Act.put, List.setIfInBounds_toArray, List.set_cons_zero, List.set_cons_succ, i64_w, i32_w]
               rfl
              refine one_ (i := 7) (N := some 57) #[true, true, true, true, true, true, true, true, false, false, false, false] rfl rfl (one_of HT_.out (by kernel_rfl)) (by decide) (fun K hK => ?_)
              refine goes_ Try.func22 (by kernel_rfl) rfl #[.slice A28 y134.length c28] (by rfl) rfl rfl (by (try simp only [List.map_toArray, List.map_cons, List.map_nil]); first | done | rfl | (simp only [List.length_drop, List.length_take]; rfl) | (simp only [*]; first | done | rfl)) ?_
              with_reducible refine (ih kj11 (by have := HK1.out; have := HK2.out; have := HJ11.out; omega) _ _ y134 t138 _ ?side1 ?side2 A25.out).mono ?_
              (case side1 => exact cw_ HR137.out HB.out)
              (case side2 => exact HC137.out)
              rintro e w29 ⟨v139, rfl, ho0, hb⟩
              refine ⟨_, rfl, ?_⟩
              have n0_ := a_ (Kd.R_elder' (rv_ HO_3.out) (Kd.R_base ho0) hb)
              have n1_ := a_ (Kd.R_elder' (rv_ HO_132002.out) (Kd.R_base ho0) hb)
              have n2_ := a_ (Kd.R_lower (Kd.R_newB (Kd.R_new' (Kd.R_new' ho0 (Kd.R_lt (rv_ HO_3.out))) (Kd.R_lt (rv_ HO_132002.out))) (g := gb131) (o := .cells #[.bool (((rd_T44 l0 x4_1).f0) == 1), .string ((rd_T44 l0 x4_1).f1), u132002, .int .i64 ((rd_T44 l0 x4_1).f2)] 38 (0, 0)) (kv_ BK131.out)) (below_size (bS1_ HB.out GE131.out)))
              have n3_ := a_ (kb_ BK131.out hb)
              have n4_ := a_ (below_step (bS1_ HB.out GE131.out) hb)
              clear HO_3
              clear HO_132002
              clear BK131
              clear HB
              have HO_3 := n0_
              have HO_132002 := n1_
              have HO140 := n2_
              have BK131 := n3_
              have HB := n4_
              clear n0_ n1_ n2_ n3_ n4_
              (try clear hb)
              (try clear hb2)
              (try clear hk)
              (try clear hi)
              (try clear ho0)
              obtain ⟨Ao31, co31, eo31⟩ := Kd.R_slice HO140.out
              (first | subst eo31 | (injection eo31 with f1_ f2_ f3_; have f4_ := f1_.symm; have f5_ := f3_.symm; clear f1_ f2_ f3_; subst f4_; subst f5_))
              refine hK.out _ _ ⟨(blk_cell BK131.out 0).trans rfl, (blk_cell BK131.out 1).trans rfl, (blk_cell BK131.out 2).trans rfl, (blk_cell BK131.out 3).trans rfl⟩ (fun hHeld => ?_)
              clear hK K
              refine norm_ (a' := ?_) ?_ ?_
              rotate_left
              ·show Act.put _ (some 57) _ = _
               simp only [Act.put, List.setIfInBounds_toArray, List.set_cons_zero, List.set_cons_succ, i64_w, i32_w]
               rfl
              refine one_ (i := 8) (N := some 58) #[true, true, true, true, true, true, true, true, true, false, false, false] rfl rfl (one_of HT_.out (by kernel_rfl)) (by decide) (fun K hK => ?_)
              refine value_ (w1 := ?_) (v := ?_) (by rfl) rfl ?_ ?_
              rotate_left 2
              ·go_simp
               constructor
               ·rfl
               ·rfl
              refine hK.out _ _ ⟨(blk_cell (blk_alloc BK131.out _) 0).trans rfl, (blk_cell (blk_alloc BK131.out _) 1).trans rfl, (blk_cell (blk_alloc BK131.out _) 2).trans rfl, (blk_cell (blk_alloc BK131.out _) 3).trans rfl⟩ (fun hHeld => ?_)
              clear hK K
              refine norm_ (a' := ?_) ?_ ?_
              rotate_left
              ·show Act.put _ (some 58) _ = _
               simp only [Act.put, List.setIfInBounds_toArray, List.set_cons_zero, List.set_cons_succ, i64_w, i32_w]
               rfl
              refine one_ (i := 9) (N := some 59) #[true, true, true, true, true, true, true, true, true, true, false, false] rfl rfl (one_of HT_.out (by kernel_rfl)) (by decide) (fun K hK => ?_)
              refine Kd.R_append_step (Kd.slice 38 k38) (w0 := w) w.heap.size (by rfl) (.tmp 51) (.tmp 58) 36 23 (.slice none 0 0) 24 rfl Try.underlying36 info23 rfl (by decide) (by omega) u132002 x132002_2 t138 [.slice Ao31 t138.length co31] (fun k_ => some k_ ≠ (u3 : Value).ownBlock ∧ k_ ≠ gb131) (fun k_ => ((fun k_ => some k_ ≠ (u3 : Value).ownBlock ∧ k_ ≠ gb131)) k_ ∧ some k_ ≠ (u132002 : Value).ownBlock) rfl rfl ?aP (fun _ hk => hk) ?aF ?aO ?aB ?aS ?aL ?_
              (case aP => exact Kd.M_row (Kd.R_mono (HO140.out) (fun k_ hk => ⟨⟨hk.1.1.2, hk.2⟩, hk.1.2⟩)))
              (case aB => exact (bS1_ HB.out GE131.out))
              (case aF => exact (fun k_ hk => ⟨Kd.fresh' (Kd.R_lt (rv_ HO_3.out)) k_ hk, Kd.freshB (g := gb131) (o := .cells #[.bool (((rd_T44 l0 x4_1).f0) == 1), .string ((rd_T44 l0 x4_1).f1), u132002, .int .i64 ((rd_T44 l0 x4_1).f2)] 38 (0, 0)) (kv_ BK131.out) k_ hk⟩))
              (case aO => exact (by (with_reducible repeat (first | apply Kd.R_alloc | apply Kd.R_drewN | apply Kd.R_drew)); exact Kd.R_mono HO_132002.out (fun _ hk => ⟨hk.1.1, hk.1.2⟩)))
              (case aS => exact (below_size (bS1_ HB.out GE131.out)))
              (case aL => have := LMc26.out; omega)
              intro v142 w30 ho hb hg hat
              rw [← Ny141.out] at ho
              have n0_ := a_ (Kd.R_after (ok := (fun k_ => some k_ ≠ (.slice Ao31 t138.length co31 : Value).ownBlock ∧ k_ ≠ gb131)) (by (with_reducible repeat (first | apply Kd.R_alloc | apply Kd.R_drewN | apply Kd.R_drew)); exact Kd.R_mono HO_3.out (fun _ hk => ⟨⟨hk.2, hk.1.2⟩, hk.1.1⟩)) hg hat)
              have n1_ := a_ (blk_grown (g := gb131) (o := .cells #[.bool (((rd_T44 l0 x4_1).f0) == 1), .string ((rd_T44 l0 x4_1).f1), u132002, .int .i64 ((rd_T44 l0 x4_1).f2)] 38 (0, 0)) (kv_ BK131.out) hg (Kd.R_ne HO_132002.out BK131.out (by decide)))
              have n2_ := a_ (hb)
              have n3_ := a_ (ho)
              clear HO_3
              clear BK131
              clear HB
              clear HO_132002
              clear HO140
              have HO_3 := n0_
              have BK131 := n1_
              have HB := n2_
              have HO143 := n3_
              clear n0_ n1_ n2_ n3_
              clear ho hb hg hat
              obtain ⟨Ao32, co32, eo32⟩ := Kd.R_slice HO143.out
              (first | subst eo32 | (injection eo32 with f1_ f2_ f3_; have f4_ := f1_.symm; have f5_ := f3_.symm; clear f1_ f2_ f3_; subst f4_; subst f5_))
              refine hK.out _ _ ⟨(blk_cell BK131.out 0).trans rfl, (blk_cell BK131.out 1).trans rfl, (blk_cell BK131.out 2).trans rfl, (blk_cell BK131.out 3).trans rfl⟩ (fun hHeld => ?_)
              clear hK K
              refine norm_ (a' := ?_) ?_ ?_
              rotate_left
              ·show Act.put _ (some 59) _ = _
               simp only [Act.put, List.setIfInBounds_toArray, List.set_cons_zero, List.set_cons_succ, i64_w, i32_w]
               rfl
              refine pure_ (i := 10) (N := some 60) #[true, true, true, true, true, true, true, true, true, true, true, false] rfl rfl (any_of HT_.out (by kernel_rfl)) (fun _ _ _ h => h) (Or.inl ⟨by rfl, fun w' => by go_simp; with_reducible rfl⟩) (by simp only [Act.put, List.setIfInBounds_toArray, List.set_cons_zero, List.set_cons_succ, i64_w, i32_w]; rfl) ?_
              refine last_ (i := 11) (N := none) #[true, true, true, true, true, true, true, true, true, true, true, true] rfl rfl (one_of HT_.out (by kernel_rfl)) (by decide) (fun K hK => ?_)
              have hs33 : w30.cell? ⟨gb131, 2, none⟩ = some (u132002) := (blk_cell BK131.out 2).trans rfl
              have hfs33 := blk_frozen BK131.out 2
              refine skip_ (w1 := ?_) (by rfl) rfl ?_ ?_
              rotate_left
              ·go_simp
               rfl
              refine hK.out _ _ ?_
              clear hK K
              refine done_ (done_of HT_.out (by kernel_rfl)) ?_
              try go_wp2
              go_roundg kj11
              case measure => have := HK1.out; have := HK2.out; have := HJ11.out; omega
              case rel => exact ⟨(wrap64 (t133 + 1)), (y141), (.slice Ao32 y141.length co32), (by first | rfl | (simp; done) | (simp [*]; done)), H', ⟨by have := HK1.out; have := HK2.out; have := HJ11.out; omega⟩, ⟨by (with_reducible repeat (first | apply Kd.R_alloc | apply Kd.R_drewN | apply Kd.R_drew)); exact Kd.R_mono (Kd.R_far (p := ⟨gb131, 2, none⟩) (Kd.R_mono HO_3.out (fun k_ hk => (⟨hk, hk.1.2⟩ : _ ∧ k_ ≠ gb131))) (fun _ hk => hk.2) (.slice Ao32 y141.length co32)) (fun _ hk => ⟨hk.1.2, hk.1.1.2⟩)⟩, ⟨by (with_reducible repeat (first | apply Kd.R_alloc | apply Kd.R_drewN | apply Kd.R_drew)); exact Kd.R_mono (Kd.R_far (p := ⟨gb131, 2, none⟩) (Kd.R_mono HO143.out (fun k_ hk => (⟨hk, hk.2⟩ : _ ∧ k_ ≠ gb131))) (fun _ hk => hk.2) (.slice Ao32 y141.length co32)) (fun _ hk => ⟨hk.1.1, hk.1.2⟩)⟩, ⟨kp0_ BK131.out⟩, ⟨bS1_ HB.out GE131.out⟩⟩
             ·rw [if_neg c26] at H
              exact absurd H (by simp)
            ·rw [if_neg c24] at H
             exact absurd H (by simp)
           ·rw [if_neg c23] at H
            exact absurd H (by simp)
          ·rw [if_neg c22] at H
           exact absurd H (by simp)
         ·replace c19 := Bool.eq_false_iff.mpr c19
          subst c19
          have H1 : (if x3_1.length < 2513169434916 then (variorumref06_nodes.l0 kj11 l0 (x3_1 ++ [(⟨(((rd_T44 l0 x4_1).f0) == 1), ((rd_T44 l0 x4_1).f1), x132002_2, ((rd_T44 l0 x4_1).f2)⟩ : S38)]) x4_2) else (none)) = some r := by rw [if_neg (show ¬ (false = true) by decide)] at H; exact H
          clear H
          have H := H1
          clear H1
          by_cases c34 : x3_1.length < 2513169434916
          ·rw [if_pos c34] at H
           have LMc34 := a_ c34
           clear c34
           obtain ⟨y144, hy144⟩ : ∃ y_ : List (S38), y_ = (x3_1 ++ [(⟨(((rd_T44 l0 x4_1).f0) == 1), ((rd_T44 l0 x4_1).f1), x132002_2, ((rd_T44 l0 x4_1).f2)⟩ : S38)]) := ⟨_, rfl⟩
           replace H : (variorumref06_nodes.l0 kj11 l0 y144 x4_2) = some r := by first | (rw [hy144]; with_reducible exact H) | (have H2_ := (Option.bind_some _ _).symm.trans H; rw [hy144]; with_reducible exact H2_) | (have H2_ := (Option.bind_some _ _).symm.trans H; with_reducible exact H2_) | with_reducible exact H | (rw [hy144]; exact H) | exact H
           have Ny144 := a_ hy144
           clear hy144
           have H' := a_ H
           clear H
           obtain ⟨⟨Z35_0, Y35_0⟩, ⟨Z35_1, Y35_1⟩, ⟨Z35_2, Y35_2⟩, Z35_3, Y35_3⟩ := cs4_ BK131.out
           obtain ⟨Ao37, co37, eo37⟩ := Kd.R_slice HO_132002.out
           subst eo37
           go_wp2_with (first | ((with_reducible refine gate_builtin (b := .append) (xs := #[.tmp 63, .tmp 65]) rfl ?_); (try (refine gate_guard (by rfl) ?_; dsimp only)); at_builtin; refine Kd.R_append k38 (w0 := w) w.heap.size rfl (.tmp 63) (.tmp 65) 23 38 (.agg #[(.bool false), (.string ⟨#[]⟩), (.slice none 0 0), (.int .i64 0)]) 56 rfl Try.underlying23 info38 rfl (by decide) (by omega) u3 x3_1 (⟨(((rd_T44 l0 x4_1).f0) == 1), ((rd_T44 l0 x4_1).f1), x132002_2, ((rd_T44 l0 x4_1).f2)⟩ : S38) [.bool (((rd_T44 l0 x4_1).f0) == 1), .string ((rd_T44 l0 x4_1).f1), .slice Ao37 x132002_2.length co37, .int .i64 ((rd_T44 l0 x4_1).f2)] (fun k_ => k_ ≠ gb131) (fun k_ => ((fun k_ => k_ ≠ gb131)) k_ ∧ some k_ ≠ (u3 : Value).ownBlock) rfl rfl ?aP (fun _ hk => hk) ?aF ?aO ?aB ?aS ?aL ?_; (case aP => exact k38_mkM _ _ _ (⟨(((rd_T44 l0 x4_1).f0) == 1), ((rd_T44 l0 x4_1).f1), x132002_2, ((rd_T44 l0 x4_1).f2)⟩ : S38) (Kd.R_mono (HO_132002.out) (fun k_ hk => ⟨hk.2, hk.1⟩))); (case aB => exact (bS1_ HB.out GE131.out)); (case aF => exact (fun k_ hk => Kd.freshB (g := gb131) (o := .cells #[.bool (((rd_T44 l0 x4_1).f0) == 1), .string ((rd_T44 l0 x4_1).f1), .slice Ao37 x132002_2.length co37, .int .i64 ((rd_T44 l0 x4_1).f2)] 38 (0, 0)) (kv_ BK131.out) k_ hk)); (case aO => exact (by (with_reducible repeat (first | apply Kd.R_alloc | apply Kd.R_drewN | apply Kd.R_drew)); exact Kd.R_mono HO_3.out (fun _ hk => hk.2))); (case aS => exact (below_size (bS1_ HB.out GE131.out))); (case aL => have := LMc34.out; omega); intro v145 w36 ho hb hg hat; rw [← Ny144.out] at ho; have n0_ := a_ (blk_grown (g := gb131) (o := .cells #[.bool (((rd_T44 l0 x4_1).f0) == 1), .string ((rd_T44 l0 x4_1).f1), .slice Ao37 x132002_2.length co37, .int .i64 ((rd_T44 l0 x4_1).f2)] 38 (0, 0)) (kv_ BK131.out) hg (Kd.R_away HO_3.out (fun _ hk => hk.2))); have n1_ := a_ (hb); have n2_ := a_ (ho); clear BK131; clear HB; clear HO_3; clear HO_132002; have BK131 := n0_; have HB := n1_; have HO146 := n2_; clear n0_ n1_ n2_; clear ho hb hg hat))
           go_roundg kj11
           case measure => have := HK1.out; have := HK2.out; have := HJ11.out; omega
           case rel => exact ⟨(y144), (x4_2), (by first | rfl | (simp; done) | (simp [*]; done)), H', ⟨by have := HK1.out; have := HK2.out; have := HJ11.out; omega⟩, ⟨by (with_reducible repeat (first | apply Kd.R_alloc | apply Kd.R_drewN | apply Kd.R_drew)); exact Kd.R_mono HO146.out (fun _ hk => trivial)⟩, ⟨bS1_ HB.out GE131.out⟩⟩
          ·rw [if_neg c34] at H
           exact absurd H (by simp)
    ·rw [if_neg c5] at H
     exact absurd H (by simp)
   ·rw [if_neg c4] at H
    have c4b0 : decide (x4_1 < (l0.length : Int)) = false := decide_eq_false c4
    clear c4
    obtain rfl := Option.some.inj H
    go_wp2
    go_ret
    exact ⟨_, by first | rfl | (simp [errW_none, errW_some] <;> rfl) | (simp [*, errW_none, errW_some] <;> rfl), by (with_reducible repeat (first | apply Kd.R_alloc | apply Kd.R_drewN | apply Kd.R_drew)); exact HO_3.out, bv_ HB.out⟩

end Go.Proofs.Ytjppjlhhdfkloaa.PTp

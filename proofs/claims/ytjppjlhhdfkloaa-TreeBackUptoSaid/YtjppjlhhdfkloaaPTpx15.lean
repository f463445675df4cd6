/- Written by a program of this session: functions of the given program as plain Lean functions, the walks that show it, and the row of each law, for every input that its statement speaks of. -/
import Derived.Test.YtjppjlhhdfkloaaPTpx4
import Derived.Test.YtjppjlhhdfkloaaPTpx0
import Derived.Test.YtjppjlhhdfkloaaPTpx18
namespace Go.Proofs.Ytjppjlhhdfkloaa.PTp
open Go.RowKit Go.Proofs.YtjppjlhhdfkloaaW.PrintWords Go.Proofs.YtjppjlhhdfkloaaW.PrintLast Go.Proofs.YtjppjlhhdfkloaaW.PrintMore
attribute [local go_sem] max2_int min2_int max_two min_two max_three min_three max_four min_four   -- for this text's walks alone
set_option linter.unusedVariables false
set_option linter.unusedSimpArgs false

attribute [local go_sem high] eqA44
/-! ### variorumref05_Same: function 18 -/
def variorumref05_Same.l0 : Nat → List (S44) → List (S44) → Int → Option (Bool)
 | 0, _, _, _ => none
 | k + 1, x0, x1, x5 => if x5 < (x0.length : Int) then (if 0 ≤ x5 then (if x5 < (x1.length : Int) then (if (!(((rd_T44 x0 x5).f0) == ((rd_T44 x1 x5).f0)) || (!((((rd_T44 x0 x5).f1).toList) == (((rd_T44 x1 x5).f1).toList)) || (!(((rd_T44 x0 x5).f2) == ((rd_T44 x1 x5).f2))))) = true then (some false) else (variorumref05_Same.l0 k x0 x1 (wrap64 (x5 + 1)))) else (none)) else (none)) else (some true)
def variorumref05_Same.f (k : Nat) (l0 : List (S44)) (l1 : List (S44)) : Option (Bool) := if (l0.length : Int) = (l1.length : Int) then (variorumref05_Same.l0 k l0 l1 0) else (some false)
theorem variorumref05_Same.mono_l : ∀ k, (∀ y0 y1 y2, LeO (variorumref05_Same.l0 k y0 y1 y2) (variorumref05_Same.l0 (k + 1) y0 y1 y2))
 | 0 => fun _ _ _ r h => by simp [variorumref05_Same.l0] at h
 | k + 1 => by
  have ih0 := variorumref05_Same.mono_l k
  ·intro y0 y1 y2
   unfold variorumref05_Same.l0
   repeat' first | (with_reducible first | exact ih0 _ _ _ | exact LeO.refl _ | exact LeO.none _ | refine LeO.ite ?_ ?_ | refine LeO.bind ?_ (fun _ => ?_)) | exact LeO.none _ | refine LeO.ite ?_ ?_ | refine LeO.bind ?_ (fun _ => ?_)
theorem variorumref05_Same.mono : ∀ a0 a1 k, LeO (variorumref05_Same.f k a0 a1) (variorumref05_Same.f (k + 1) a0 a1) := by
 intro a0 a1 k
 have ih0 := variorumref05_Same.mono_l k
 unfold variorumref05_Same.f
 repeat' first
   | (with_reducible exact ih0 _ _ _)
   | (with_reducible exact LeO.refl _)
   | (with_reducible exact LeO.none _)
   | (with_reducible refine LeO.ite ?_ ?_)
   | (with_reducible refine LeO.bind ?_ (fun _ => ?_))
   | exact ih0 _ _ _
   | exact LeO.none _
   | refine LeO.ite ?_ ?_
   | refine LeO.bind ?_ (fun _ => ?_)
set_option maxHeartbeats 8000000 in
set_option maxRecDepth 100000 in
theorem variorumref05_Same.calls (k : Nat) (A0 : Option Addr) (c0 : Nat) (l0 : List (S44)) (A1 : Option Addr) (c1 : Nat) (l1 : List (S44)) (r : Bool) (w : World) (hr0 : Kd.C k44 w A0 l0.length l0) (hc0 : l0.length ≤ c0) (hr1 : Kd.C k44 w A1 l1.length l1) (hc1 : l1.length ≤ c1) (h : variorumref05_Same.f k l0 l1 = some r) :
  Calls Try.prog 18 #[.slice A0 l0.length c0, .slice A1 l1.length c1] w fun e w' => e = .returned (.bool r) ∧ Drawn0 w w' := by
 have hu44 := Try.underlying44
 have HR0 := a_ hr0
 have HC0 := a_ hc0
 clear hr0 hc0
 have HR1 := a_ hr1
 have HC1 := a_ hc1
 clear hr1 hc1
 have H : (if (l0.length : Int) = (l1.length : Int) then (variorumref05_Same.l0 k l0 l1 0) else (some false)) = some r := h
 clear h
 by_cases c3 : (l0.length : Int) = (l1.length : Int)
 ·rw [if_pos c3] at H
  have c3b0 : ((l0.length : Int) == (l1.length : Int)) = true := beq_iff_eq.mpr c3
  have c3b1 : ((l0.length : Int) != (l1.length : Int)) = false := bne_eq_false_iff_eq.mpr c3
  have c3b2 : (l0.length == l1.length) = true := by first | simpa using c3 | (simp at c3 ⊢; omega)
  clear c3
  have H' := a_ H
  clear H
  go_enter Try.func18, Try.ntmps18
  go_wp2
  repeat (go_quiet (fail); try go_wp2)
  go_loopg [5] k (fun kq v5 w' => ∃ (x5_1 : Int), v5 = .int .i64 x5_1 ∧ Aside0 (variorumref05_Same.l0 kq l0 l1 x5_1 = some r) ∧ Aside0 (kq ≤ k) ∧ Drawn0 w w')
  case atStart => exact ⟨(0), (by first | rfl | (simp; done) | (simp [*]; done)), H', ⟨Nat.le_refl _⟩, by repeat (first | exact Drawn0.refl _ | apply Drawn0.step)⟩
  case round =>
   clear H'
   try clear c1
   try clear p2
   try clear c3
   try clear c3b0
   try clear c3b1
   try clear c3b2
   obtain ⟨x5_1, rfl, HA, HK1, ⟨m1, rfl⟩⟩ := hrel
   cases gk with
   | zero => exact absurd HA.out (by simp [variorumref05_Same.l0])
   | succ k1 =>
    have H := HA.out
    clear HA
    simp only [variorumref05_Same.l0] at H
    by_cases c4 : x5_1 < (l0.length : Int)
    ·rw [if_pos c4] at H
     have c4b0 : decide (x5_1 < (l0.length : Int)) = true := decide_eq_true c4
     clear c4
     by_cases c5 : 0 ≤ x5_1
     ·rw [if_pos c5] at H
      have c5b0 : decide (0 ≤ x5_1) = true := decide_eq_true c5
      clear c5
      by_cases c6 : x5_1 < (l1.length : Int)
      ·rw [if_pos c6] at H
       have c6b0 : decide (x5_1 < (l1.length : Int)) = true := decide_eq_true c6
       clear c6
       by_cases c7 : (!(((rd_T44 l0 x5_1).f0) == ((rd_T44 l1 x5_1).f0)) || (!((((rd_T44 l0 x5_1).f1).toList) == (((rd_T44 l1 x5_1).f1).toList)) || (!(((rd_T44 l0 x5_1).f2) == ((rd_T44 l1 x5_1).f2))))) = true
       ·rw [if_pos c7] at H
        have c7b0 : (!(((rd_T44 l0 x5_1).f0) == ((rd_T44 l1 x5_1).f0)) || (!((((rd_T44 l0 x5_1).f1).toList) == (((rd_T44 l1 x5_1).f1).toList)) || (!(((rd_T44 l0 x5_1).f2) == ((rd_T44 l1 x5_1).f2))))) = true := c7
        clear c7
        obtain rfl := Option.some.inj H
        have p201 : 0 ≤ (x5_1 : Int) := od_
        have q201 : x5_1 < (l0.length : Int) := od_
        obtain ⟨ad201, e201, hx201_0, hx201_1, hx201_2⟩ := at_T44 HR0.out x5_1 p201 q201
        cases e201
        replace p201 := eq_true p201
        replace q201 := eq_true q201
        have p202 : 0 ≤ (x5_1 : Int) := od_
        have q202 : x5_1 < (l1.length : Int) := od_
        obtain ⟨ad202, e202, hx202_0, hx202_1, hx202_2⟩ := at_T44 HR1.out x5_1 p202 q202
        cases e202
        replace p202 := eq_true p202
        replace q202 := eq_true q202
        go_wp2
        repeat (go_quiet (fail); try go_wp2)
        go_ret
        exact ⟨by first | rfl | (simp; done) | (simp [*]; done), by repeat (first | exact Drawn0.refl _ | apply Drawn0.step)⟩
       ·rw [if_neg c7] at H
        have c7b0 : (!(((rd_T44 l0 x5_1).f0) == ((rd_T44 l1 x5_1).f0)) || (!((((rd_T44 l0 x5_1).f1).toList) == (((rd_T44 l1 x5_1).f1).toList)) || (!(((rd_T44 l0 x5_1).f2) == ((rd_T44 l1 x5_1).f2))))) = false := by simpa using c7
        clear c7
        have H' := a_ H
        clear H
        have p201 : 0 ≤ (x5_1 : Int) := od_
        have q201 : x5_1 < (l0.length : Int) := od_
        obtain ⟨ad201, e201, hx201_0, hx201_1, hx201_2⟩ := at_T44 HR0.out x5_1 p201 q201
        cases e201
        replace p201 := eq_true p201
        replace q201 := eq_true q201
        have p202 : 0 ≤ (x5_1 : Int) := od_
        have q202 : x5_1 < (l1.length : Int) := od_
        obtain ⟨ad202, e202, hx202_0, hx202_1, hx202_2⟩ := at_T44 HR1.out x5_1 p202 q202
        cases e202
        replace p202 := eq_true p202
        replace q202 := eq_true q202
        go_wp2
        repeat (go_quiet (fail); try go_wp2)
        go_roundg k1
        case measure => have := HK1.out; omega
        case rel => exact ⟨(wrap64 (x5_1 + 1)), (by first | rfl | (simp; done) | (simp [*]; done)), H', ⟨by have := HK1.out; omega⟩, by repeat (first | exact Drawn0.refl _ | apply Drawn0.step)⟩
      ·rw [if_neg c6] at H
       exact absurd H (by simp)
     ·rw [if_neg c5] at H
      exact absurd H (by simp)
    ·rw [if_neg c4] at H
     have c4b0 : decide (x5_1 < (l0.length : Int)) = false := decide_eq_false c4
     clear c4
     obtain rfl := Option.some.inj H
     go_wp2
     repeat (go_quiet (fail); try go_wp2)
     go_ret
     exact ⟨by first | rfl | (simp; done) | (simp [*]; done), by repeat (first | exact Drawn0.refl _ | apply Drawn0.step)⟩
 ·rw [if_neg c3] at H
  have c3b0 : ((l0.length : Int) == (l1.length : Int)) = false := beq_eq_false_iff_ne.mpr c3
  have c3b1 : ((l0.length : Int) != (l1.length : Int)) = true := bne_iff_ne.mpr c3
  have c3b2 : (l0.length == l1.length) = false := by first | simpa using c3 | (simp at c3 ⊢; omega)
  obtain rfl := Option.some.inj H
  go_enter Try.func18, Try.ntmps18
  go_wp2
  repeat (go_quiet (fail); try go_wp2)
  go_ret
  exact ⟨by first | rfl | (simp; done) | (simp [*]; done), by repeat (first | exact Drawn0.refl _ | apply Drawn0.step)⟩

/-! ### variorumref05_Plain: function 19 -/
def variorumref05_Plain.l0 : Nat → List (S44) → List (S44) → Int → Option ((List (S44)))
 | 0, _, _, _ => none
 | k + 1, x0, x3, x4 => if x4 < (x0.length : Int) then (if 0 ≤ x4 then (if x3.length < 4398046511104 then (variorumref05_Plain.l0 k x0 (x3 ++ [(⟨(rd_T44 x0 x4).f0, (rd_T44 x0 x4).f1, 0⟩ : S44)]) (wrap64 (x4 + 1))) else (none)) else (none)) else (some x3)
def variorumref05_Plain.f (k : Nat) (l0 : List (S44)) : Option ((List (S44))) := variorumref05_Plain.l0 k l0 (([] : List (S44))) 0
theorem variorumref05_Plain.mono_l : ∀ k, (∀ y0 y1 y2, LeO (variorumref05_Plain.l0 k y0 y1 y2) (variorumref05_Plain.l0 (k + 1) y0 y1 y2))
 | 0 => fun _ _ _ r h => by simp [variorumref05_Plain.l0] at h
 | k + 1 => by
  have ih0 := variorumref05_Plain.mono_l k
  ·intro y0 y1 y2
   unfold variorumref05_Plain.l0
   repeat' first | (with_reducible first | exact ih0 _ _ _ | exact LeO.refl _ | exact LeO.none _ | refine LeO.ite ?_ ?_ | refine LeO.bind ?_ (fun _ => ?_)) | exact LeO.none _ | refine LeO.ite ?_ ?_ | refine LeO.bind ?_ (fun _ => ?_)
theorem variorumref05_Plain.mono : ∀ a0 k, LeO (variorumref05_Plain.f k a0) (variorumref05_Plain.f (k + 1) a0) := by
 intro a0 k
 have ih0 := variorumref05_Plain.mono_l k
 unfold variorumref05_Plain.f
 repeat' first
   | (with_reducible exact ih0 _ _ _)
   | (with_reducible exact LeO.refl _)
   | (with_reducible exact LeO.none _)
   | (with_reducible refine LeO.ite ?_ ?_)
   | (with_reducible refine LeO.bind ?_ (fun _ => ?_))
   | exact ih0 _ _ _
   | exact LeO.none _
   | refine LeO.ite ?_ ?_
   | refine LeO.bind ?_ (fun _ => ?_)
def variorumref05_Plain.T5 : Bool × List (List Nat × List Nat) := (true, [([], []), ([], []), ([], []), ([1, 2], [1, 2]), ([3], [3]), ([4], [4]), ([], []), ([], []), ([6, 7], [6, 7]), ([8], [8]), ([9], [9]), ([5, 10], [5, 10]), ([11], [11]), ([0, 12], [0, 12]), ([13, 13, 0, 1, 2, 3, 4, 5, 6, 7, 8, 9, 10, 11, 12, 13], [0, 13])])
def variorumref05_Plain.B5 : List Nat := [0, 0, 0, 6, 14, 30, 0, 0, 192, 448, 960, 2046, 4094, 8191, 16383]
theorem variorumref05_Plain.tab5 : rtab .any (opsOf Try.f19 5) = variorumref05_Plain.T5 := by kernel_rfl
theorem variorumref05_Plain.bits5 : waitsOk variorumref05_Plain.T5.2 variorumref05_Plain.B5 = true := by kernel_rfl
set_option maxHeartbeats 8000000 in
set_option maxRecDepth 100000 in
theorem variorumref05_Plain.calls (k : Nat) (A0 : Option Addr) (c0 : Nat) (l0 : List (S44)) (r : List (S44)) (w : World) (hr0 : Kd.C k44 w A0 l0.length l0) (hc0 : l0.length ≤ c0) (h : variorumref05_Plain.f k l0 = some r) :
  Calls Try.prog 19 #[.slice A0 l0.length c0] w fun e w' => ∃ v0_ : Value, e = .returned (v0_) ∧ Kd.R k44 44 w' w.heap.size (fun _ => True) v0_ r ∧ Below w.heap.size w w' := by
 have hu44 := Try.underlying44
 have HR0 := a_ hr0
 have HC0 := a_ hc0
 clear hr0 hc0
 have HB := a_ (Below.refl w.heap.size w)
 have H : (variorumref05_Plain.l0 k l0 (([] : List (S44))) 0) = some r := h
 clear h
 obtain ⟨y203, hy203⟩ : ∃ y_ : List (S44), y_ = (([] : List (S44))) := ⟨_, rfl⟩
 replace H : (variorumref05_Plain.l0 k l0 y203 0) = some r := by first | (rw [hy203]; with_reducible exact H) | (have H2_ := (Option.bind_some _ _).symm.trans H; rw [hy203]; with_reducible exact H2_) | (have H2_ := (Option.bind_some _ _).symm.trans H; with_reducible exact H2_) | with_reducible exact H | (rw [hy203]; exact H) | exact H
 have Ny203 := a_ hy203
 clear hy203
 have H' := a_ H
 clear H
 go_enter Try.func19, Try.ntmps19
 go_wp2_with (first | ((with_reducible refine gate_dst (N := 5) rfl ?_); refine Kd.R_lit k44 _ 44 ?hg (N := 5) ?hd (xs := ([] : List (S44))) (inner := []) (ok := fun _ => True) (okp := fun _ => True) ?hr ?hp (fun _ hk => hk) trivial (Below.refl _ _) (Nat.le_refl _) (by simp) ?_; (case hd => rfl); (case hg => rfl); (case hr => first | (go_simp; done) | (go_simp; rfl)); (case hp => exact (Reps.none _ _)); intro v204 w2 ho3 hb hg_ hnew_; clear hg_ hnew_; (first | rw [← Ny203.out] at ho3 | (simp only [Int.reduceToNat] at ho3; rw [← Ny203.out] at ho3)); have n0_ := a_ (Kd.R_lower ho3 (below_size (bv_ HB.out))); have n1_ := a_ (bs_ HB.out hb); clear HB; have HO205 := n0_; have HB := n1_; clear n0_ n1_; clear hb ho3))
 go_loopg [3, 4] k (fun kq v3 v4 w' => ∃ (x3_1 : List (S44)) (x4_1 : Int), v4 = .int .i64 x4_1 ∧ Aside0 (variorumref05_Plain.l0 kq l0 x3_1 x4_1 = some r) ∧ Aside0 (kq ≤ k) ∧ Aside0 (Kd.R k44 44 w' w.heap.size (fun _ => True) v3 x3_1) ∧ Aside0 (Below w.heap.size w w'))
 case atStart => exact ⟨(y203), (0), (by first | rfl | (simp; done) | (simp [*]; done)), H', ⟨Nat.le_refl _⟩, ⟨by (with_reducible repeat (first | apply Kd.R_alloc | apply Kd.R_drewN | apply Kd.R_drew)); exact HO205.out⟩, ⟨bv_ HB.out⟩⟩
 case round =>
  clear H'
  try clear c1
  try clear p2
  obtain ⟨x3_1, x4_1, rfl, HA, HK1, HO_3, HB⟩ := hrel
  cases gk with
  | zero => exact absurd HA.out (by simp [variorumref05_Plain.l0])
  | succ k1 =>
   have H := HA.out
   clear HA
   simp only [variorumref05_Plain.l0] at H
   by_cases c4 : x4_1 < (l0.length : Int)
   ·rw [if_pos c4] at H
    have c4b0 : decide (x4_1 < (l0.length : Int)) = true := decide_eq_true c4
    clear c4
    by_cases c5 : 0 ≤ x4_1
    ·rw [if_pos c5] at H
     have c5b0 : decide (0 ≤ x4_1) = true := decide_eq_true c5
     clear c5
     by_cases c6 : x3_1.length < 4398046511104
     ·rw [if_pos c6] at H
      have LMc6 := a_ c6
      clear c6
      obtain ⟨y208, hy208⟩ : ∃ y_ : List (S44), y_ = (x3_1 ++ [(⟨(rd_T44 l0 x4_1).f0, (rd_T44 l0 x4_1).f1, 0⟩ : S44)]) := ⟨_, rfl⟩
      replace H : (variorumref05_Plain.l0 k1 l0 y208 (wrap64 (x4_1 + 1))) = some r := by first | (rw [hy208]; with_reducible exact H) | (have H2_ := (Option.bind_some _ _).symm.trans H; rw [hy208]; with_reducible exact H2_) | (have H2_ := (Option.bind_some _ _).symm.trans H; with_reducible exact H2_) | with_reducible exact H | (rw [hy208]; exact H) | exact H
      have Ny208 := a_ hy208
      clear hy208
      have H' := a_ H
      clear H
      try go_wp2
      have n0_ := a_ (Kd.R_drew HO_3.out)
      have n1_ := a_ (below_drew1 HB.out)
      clear HO_3
      clear HB
      have HO_3 := n0_
      have HB := n1_
      clear n0_ n1_
      have p206 : 0 ≤ (x4_1 : Int) := od_
      have q206 : x4_1 < (l0.length : Int) := od_
      obtain ⟨ad206, e206, hx206_0, hx206_1, hx206_2⟩ := at_T44 HR0.out x4_1 p206 q206
      have hw206_2 := hx206_2
      have hw206_1 := hx206_1
      have hw206_0 := hx206_0
      cases e206
      try replace hx206_0 := up_ HB.out hx206_0
      try replace hx206_1 := up_ HB.out hx206_1
      try replace hx206_2 := up_ HB.out hx206_2
      replace p206 := eq_true p206
      replace q206 := eq_true q206
      have p207 : 0 ≤ (x4_1 : Int) := od_
      have q207 : x4_1 < (l0.length : Int) := od_
      obtain ⟨ad207, e207, hx207_0, hx207_1, hx207_2⟩ := at_T44 HR0.out x4_1 p207 q207
      have hw207_2 := hx207_2
      have hw207_1 := hx207_1
      have hw207_0 := hx207_0
      obtain rfl : ad206 = ad207 := (by injection e207)
      try replace hx207_0 := up_ HB.out hx207_0
      try replace hx207_1 := up_ HB.out hx207_1
      try replace hx207_2 := up_ HB.out hx207_2
      replace p207 := eq_true p207
      replace q207 := eq_true q207
      refine start_ (n := 15) (S := fun w' => w'.cell? (ad206.add ((x4_1).toNat * 3)) = some (.int .i64 ((rd_T44 l0 x4_1).f0)) ∧ w'.cell? ⟨(ad206.add ((x4_1).toNat * 3)).block, (ad206.add ((x4_1).toNat * 3)).off + 1, none⟩ = some (.string ((rd_T44 l0 x4_1).f1)) ∧ w'.cell? ⟨(ad206.add ((x4_1).toNat * 3)).block, (ad206.add ((x4_1).toNat * 3)).off + 2, none⟩ = some (.int .i64 ((rd_T44 l0 x4_1).f2)) ∧ w'.cell? (ad206.add ((x4_1).toNat * 3)) = some (.int .i64 ((rd_T44 l0 x4_1).f0)) ∧ w'.cell? ⟨(ad206.add ((x4_1).toNat * 3)).block, (ad206.add ((x4_1).toNat * 3)).off + 1, none⟩ = some (.string ((rd_T44 l0 x4_1).f1)) ∧ w'.cell? ⟨(ad206.add ((x4_1).toNat * 3)).block, (ad206.add ((x4_1).toNat * 3)).off + 2, none⟩ = some (.int .i64 ((rd_T44 l0 x4_1).f2))) (ds := []) #[false, false, false, false, false, false, false, false, false, false, false, false, false, false, false] (by kernel_rfl) rfl rfl ⟨(up_ HB.out hw206_0), (up_ HB.out hw206_1), (up_ HB.out hw206_2), (up_ HB.out hw207_0), (up_ HB.out hw207_1), (up_ HB.out hw207_2)⟩ (fun hHeld => ?_); refine with_tabW variorumref05_Plain.tab5 variorumref05_Plain.bits5 (fun HT_ HW_ => ?_)
      generalize wr.drew = w7 at HO_3 HB hx206_0 hx206_1 hx206_2 hx207_0 hx207_1 hx207_2 hHeld ⊢
      refine pure_ (i := 0) (N := some 12) #[true, false, false, false, false, false, false, false, false, false, false, false, false, false, false] rfl rfl (any_of HT_.out (by kernel_rfl)) (fun _ _ _ h => h) (Or.inl ⟨by rfl, fun w' => by go_simp; with_reducible rfl⟩) (by simp only [Act.put, List.setIfInBounds_toArray, List.set_cons_zero, List.set_cons_succ, i64_w, i32_w]; rfl) ?_
      refine pure_ (i := 1) (N := some 13) #[true, true, false, false, false, false, false, false, false, false, false, false, false, false, false] rfl rfl (any_of HT_.out (by kernel_rfl)) (fun _ _ _ h => h) (Or.inl ⟨by rfl, fun w' => by go_simp; with_reducible rfl⟩) (by simp only [Act.put, List.setIfInBounds_toArray, List.set_cons_zero, List.set_cons_succ, i64_w, i32_w]; rfl) ?_
      refine pure_ (i := 2) (N := some 14) #[true, true, true, false, false, false, false, false, false, false, false, false, false, false, false] rfl rfl (any_of HT_.out (by kernel_rfl)) (fun _ _ _ h => h) (Or.inl ⟨by rfl, fun w' => by go_simp; with_reducible rfl⟩) (by simp only [Act.put, List.setIfInBounds_toArray, List.set_cons_zero, List.set_cons_succ, i64_w, i32_w]; rfl) ?_
      refine pure_ (i := 3) (N := some 15) #[true, true, true, true, false, false, false, false, false, false, false, false, false, false, false] rfl rfl (any_of HT_.out (by kernel_rfl)) (fun _ _ _ h => h) (Or.inl ⟨by rfl, fun w' => by go_simp; with_reducible rfl⟩) (by simp only [Act.put, List.setIfInBounds_toArray, List.set_cons_zero, List.set_cons_succ, i64_w, i32_w]; rfl) ?_
      refine pure_ (i := 4) (N := some 16) #[true, true, true, true, true, false, false, false, false, false, false, false, false, false, false] rfl rfl (any_of HT_.out (by kernel_rfl)) (fun _ _ _ h => h) (Or.inl ⟨by rfl, fun w' => by go_simp; with_reducible rfl⟩) (by simp only [Act.put, List.setIfInBounds_toArray, List.set_cons_zero, List.set_cons_succ, i64_w, i32_w]; rfl) ?_
      refine pure_ (i := 6) (N := some 18) #[true, true, true, true, true, false, true, false, false, false, false, false, false, false, false] rfl rfl (any_of HT_.out (by kernel_rfl)) (fun _ _ _ h => h) (Or.inl ⟨by rfl, fun w' => by go_simp; with_reducible rfl⟩) (by simp only [Act.put, List.setIfInBounds_toArray, List.set_cons_zero, List.set_cons_succ, i64_w, i32_w]; rfl) ?_
      refine pure_ (i := 7) (N := some 19) #[true, true, true, true, true, false, true, true, false, false, false, false, false, false, false] rfl rfl (any_of HT_.out (by kernel_rfl)) (fun _ _ _ h => h) (Or.inl ⟨by rfl, fun w' => by go_simp; with_reducible rfl⟩) (by simp only [Act.put, List.setIfInBounds_toArray, List.set_cons_zero, List.set_cons_succ, i64_w, i32_w]; rfl) ?_
      refine pure_ (i := 8) (N := some 20) #[true, true, true, true, true, false, true, true, true, false, false, false, false, false, false] rfl rfl (any_of HT_.out (by kernel_rfl)) (fun _ _ _ h => h) (Or.inl ⟨by rfl, fun w' => by go_simp; with_reducible rfl⟩) (by simp only [Act.put, List.setIfInBounds_toArray, List.set_cons_zero, List.set_cons_succ, i64_w, i32_w]; rfl) ?_
      refine pure_ (i := 9) (N := some 21) #[true, true, true, true, true, false, true, true, true, true, false, false, false, false, false] rfl rfl (any_of HT_.out (by kernel_rfl)) (fun _ _ _ h => h) (Or.inl ⟨by rfl, fun w' => by go_simp; with_reducible rfl⟩) (by simp only [Act.put, List.setIfInBounds_toArray, List.set_cons_zero, List.set_cons_succ, i64_w, i32_w]; rfl) ?_
      refine take_ (i := 5) (N := some 17) (v := ?_) (a' := ?_) #[true, true, true, true, true, true, true, true, true, true, false, false, false, false, false] rfl rfl (take_ofW HT_.out HW_.out (by kernel_rfl)) (fun _ _ _ h => h) (Or.inl ⟨by rfl, ?_⟩) hHeld ?_ ?_
      rotate_left
      ·rintro w' ⟨s0, s1, s2, s3, s4, s5⟩
       go_simp
       with_reducible rfl
      rotate_left
      ·simp only [Act.put, List.setIfInBounds_toArray, List.set_cons_zero, List.set_cons_succ, i64_w, i32_w]
       rfl
      refine take_ (i := 10) (N := some 22) (v := ?_) (a' := ?_) #[true, true, true, true, true, true, true, true, true, true, true, false, false, false, false] rfl rfl (take_ofW HT_.out HW_.out (by kernel_rfl)) (fun _ _ _ h => h) (Or.inl ⟨by rfl, ?_⟩) hHeld ?_ ?_
      rotate_left
      ·rintro w' ⟨s0, s1, s2, s3, s4, s5⟩
       go_simp
       with_reducible rfl
      rotate_left
      ·simp only [Act.put, List.setIfInBounds_toArray, List.set_cons_zero, List.set_cons_succ, i64_w, i32_w]
       rfl
      refine pure_ (i := 11) (N := some 23) #[true, true, true, true, true, true, true, true, true, true, true, true, false, false, false] rfl rfl (any_of HT_.out (by kernel_rfl)) (fun _ _ _ h => h) (Or.inl ⟨by rfl, fun w' => by go_simp; with_reducible rfl⟩) (by simp only [Act.put, List.setIfInBounds_toArray, List.set_cons_zero, List.set_cons_succ, i64_w, i32_w]; rfl) ?_
      refine one_ (i := 12) (N := some 24) #[true, true, true, true, true, true, true, true, true, true, true, true, true, false, false] rfl rfl (one_of HT_.out (by kernel_rfl)) (by decide) (fun K hK => ?_)
      refine value_ (w1 := ?_) (v := ?_) (by rfl) rfl ?_ ?_
      rotate_left 2
      ·go_simp
       constructor
       ·rfl
       ·rfl
      refine hK.out _ _ ⟨(World.cell?_alloc_lt _ _ _ (World.block_lt_of_cell? _ _ ((up_ HB.out hw206_0)))).trans ((up_ HB.out hw206_0)), (World.cell?_alloc_lt _ _ _ (World.block_lt_of_cell? _ _ ((up_ HB.out hw206_1)))).trans ((up_ HB.out hw206_1)), (World.cell?_alloc_lt _ _ _ (World.block_lt_of_cell? _ _ ((up_ HB.out hw206_2)))).trans ((up_ HB.out hw206_2)), (World.cell?_alloc_lt _ _ _ (World.block_lt_of_cell? _ _ ((up_ HB.out hw207_0)))).trans ((up_ HB.out hw207_0)), (World.cell?_alloc_lt _ _ _ (World.block_lt_of_cell? _ _ ((up_ HB.out hw207_1)))).trans ((up_ HB.out hw207_1)), (World.cell?_alloc_lt _ _ _ (World.block_lt_of_cell? _ _ ((up_ HB.out hw207_2)))).trans ((up_ HB.out hw207_2))⟩ (fun hHeld => ?_)
      clear hK K
      refine norm_ (a' := ?_) ?_ ?_
      rotate_left
      ·show Act.put _ (some 24) _ = _
       simp only [Act.put, List.setIfInBounds_toArray, List.set_cons_zero, List.set_cons_succ, i64_w, i32_w]
       rfl
      refine one_ (i := 13) (N := some 25) #[true, true, true, true, true, true, true, true, true, true, true, true, true, true, false] rfl rfl (one_of HT_.out (by kernel_rfl)) (by decide) (fun K hK => ?_)
      refine Kd.R_append_step k44 (w0 := w) w.heap.size (by rfl) (.tmp 12) (.tmp 24) 22 44 (.agg #[(.int .i64 0), (.string ⟨#[]⟩), (.int .i64 0)]) 32 rfl Try.underlying22 info44 rfl (by decide) (by omega) u3 x3_1 (⟨(rd_T44 l0 x4_1).f0, (rd_T44 l0 x4_1).f1, 0⟩ : S44) [.int .i64 ((rd_T44 l0 x4_1).f0), .string ((rd_T44 l0 x4_1).f1), .int .i64 0] (fun _ => True) (fun _ => False) rfl rfl ?aP (fun _ hk => hk.elim) ?aF ?aO ?aB ?aS ?aL ?_
      (case aP => exact k44_mkM _ _ _ (⟨(rd_T44 l0 x4_1).f0, (rd_T44 l0 x4_1).f1, 0⟩ : S44))
      (case aB => exact (bv_ HB.out))
      (case aF => exact (fun _ _ => trivial))
      (case aO => exact (rv_ HO_3.out))
      (case aS => exact (below_size (bv_ HB.out)))
      (case aL => have := LMc6.out; omega)
      intro v209 w8 ho hb hg hat
      rw [← Ny208.out] at ho
      have n0_ := a_ (hb)
      have n1_ := a_ (ho)
      clear HB
      clear HO_3
      have HB := n0_
      have HO210 := n1_
      clear n0_ n1_
      clear ho hb hg hat
      refine hK.out _ _ ⟨(up_ HB.out hw206_0), (up_ HB.out hw206_1), (up_ HB.out hw206_2), (up_ HB.out hw207_0), (up_ HB.out hw207_1), (up_ HB.out hw207_2)⟩ (fun hHeld => ?_)
      clear hK K
      refine norm_ (a' := ?_) ?_ ?_
      rotate_left
      ·show Act.put _ (some 25) _ = _
       simp only [Act.put, List.setIfInBounds_toArray, List.set_cons_zero, List.set_cons_succ, i64_w, i32_w]
       rfl
      refine pure_ (i := 14) (N := some 3) #[true, true, true, true, true, true, true, true, true, true, true, true, true, true, true] rfl rfl (any_of HT_.out (by kernel_rfl)) (fun _ _ _ h => h) (Or.inl ⟨by rfl, fun w' => by go_simp; with_reducible rfl⟩) (by simp only [Act.put, List.setIfInBounds_toArray, List.set_cons_zero, List.set_cons_succ, i64_w, i32_w]; rfl) ?_
      refine done_ (done_of HT_.out (by kernel_rfl)) ?_
      try go_wp2
      go_roundg k1
      case measure => have := HK1.out; omega
      case rel => exact ⟨(y208), (wrap64 (x4_1 + 1)), (by first | rfl | (simp; done) | (simp [*]; done)), H', ⟨by have := HK1.out; omega⟩, ⟨by (with_reducible repeat (first | apply Kd.R_alloc | apply Kd.R_drewN | apply Kd.R_drew)); exact HO210.out⟩, ⟨bv_ HB.out⟩⟩
     ·rw [if_neg c6] at H
      exact absurd H (by simp)
    ·rw [if_neg c5] at H
     exact absurd H (by simp)
   ·rw [if_neg c4] at H
    have c4b0 : decide (x4_1 < (l0.length : Int)) = false := decide_eq_false c4
    clear c4
    obtain rfl := Option.some.inj H
    go_wp2
    go_ret
    exact ⟨_, by first | rfl | (simp [errW_none, errW_some] <;> rfl) | (simp [*, errW_none, errW_some] <;> rfl), by (with_reducible repeat (first | apply Kd.R_alloc | apply Kd.R_drewN | apply Kd.R_drew)); exact HO_3.out, bv_ HB.out⟩

end Go.Proofs.Ytjppjlhhdfkloaa.PTp

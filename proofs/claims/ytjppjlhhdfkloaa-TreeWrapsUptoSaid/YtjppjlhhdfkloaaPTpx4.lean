/- Written by a program of this session: functions of the given program as plain Lean functions, the walks that show it, and the row of each law, for every input that its statement speaks of. -/
import Derived.Test.YtjppjlhhdfkloaaPTpx0
namespace Go.Proofs.Ytjppjlhhdfkloaa.PTp
open Go.RowKit Go.Proofs.YtjppjlhhdfkloaaW.PrintWords Go.Proofs.YtjppjlhhdfkloaaW.PrintLast Go.Proofs.YtjppjlhhdfkloaaW.PrintMore
attribute [local go_sem] max2_int min2_int max_two min_two max_three min_three max_four min_four   -- for this text's walks alone
set_option linter.unusedVariables false
set_option linter.unusedSimpArgs false

/-! ### variorumref06_Real: function 17 -/
def variorumref06_Real.l0 : Nat → List (S44) → List (S44) → Int → Option ((List (S44)))
 | 0, _, _, _ => none
 | k + 1, x0, x3, x4 => if x4 < (x0.length : Int) then (if 0 ≤ x4 then (if ((rd_T44 x0 x4).f0) ≥ 0 then (if ((rd_T44 x0 x4).f0) ≤ 3 then (if x3.length < 4398046511104 then (variorumref06_Real.l0 k x0 (x3 ++ [(⟨(rd_T44 x0 x4).f0, (rd_T44 x0 x4).f1, (rd_T44 x0 x4).f2⟩ : S44)]) (wrap64 (x4 + 1))) else (none)) else (variorumref06_Real.l0 k x0 x3 (wrap64 (x4 + 1)))) else (variorumref06_Real.l0 k x0 x3 (wrap64 (x4 + 1)))) else (none)) else (some x3)
def variorumref06_Real.f (k : Nat) (l0 : List (S44)) : Option ((List (S44))) := variorumref06_Real.l0 k l0 (([] : List (S44))) 0
theorem variorumref06_Real.mono_l : ∀ k, (∀ y0 y1 y2, LeO (variorumref06_Real.l0 k y0 y1 y2) (variorumref06_Real.l0 (k + 1) y0 y1 y2))
 | 0 => fun _ _ _ r h => by simp [variorumref06_Real.l0] at h
 | k + 1 => by
  have ih0 := variorumref06_Real.mono_l k
  ·intro y0 y1 y2
   unfold variorumref06_Real.l0
   repeat' first | (with_reducible first | exact ih0 _ _ _ | exact LeO.refl _ | exact LeO.none _ | refine LeO.ite ?_ ?_ | refine LeO.bind ?_ (fun _ => ?_)) | exact LeO.none _ | refine LeO.ite ?_ ?_ | refine LeO.bind ?_ (fun _ => ?_)
theorem variorumref06_Real.mono : ∀ a0 k, LeO (variorumref06_Real.f k a0) (variorumref06_Real.f (k + 1) a0) := by
 intro a0 k
 have ih0 := variorumref06_Real.mono_l k
 unfold variorumref06_Real.f
 repeat' first
   | (with_reducible exact ih0 _ _ _)
   | (with_reducible exact LeO.refl _)
   | (with_reducible exact LeO.none _)
   | (with_reducible refine LeO.ite ?_ ?_)
   | (with_reducible refine LeO.bind ?_ (fun _ => ?_))
   | exact ih0 _ _ _
   | exact LeO.none _
   | refine LeO.ite ?_ ?_
   | refine LeO.bind ?_ (fun _ => ?_)
set_option maxHeartbeats 8000000 in
set_option maxRecDepth 100000 in
theorem variorumref06_Real.calls (k : Nat) (A0 : Option Addr) (c0 : Nat) (l0 : List (S44)) (r : List (S44)) (w : World) (hr0 : Kd.C k44 w A0 l0.length l0) (hc0 : l0.length ≤ c0) (h : variorumref06_Real.f k l0 = some r) :
  Calls Try.prog 17 #[.slice A0 l0.length c0] w fun e w' => ∃ v0_ : Value, e = .returned (v0_) ∧ Kd.R k44 44 w' w.heap.size (fun _ => True) v0_ r ∧ Below w.heap.size w w' := by
 have hu44 := Try.underlying44
 have HR0 := a_ hr0
 have HC0 := a_ hc0
 clear hr0 hc0
 have HB := a_ (Below.refl w.heap.size w)
 have H : (variorumref06_Real.l0 k l0 (([] : List (S44))) 0) = some r := h
 clear h
 obtain ⟨y101, hy101⟩ : ∃ y_ : List (S44), y_ = (([] : List (S44))) := ⟨_, rfl⟩
 replace H : (variorumref06_Real.l0 k l0 y101 0) = some r := by first | (rw [hy101]; with_reducible exact H) | (have H2_ := (Option.bind_some _ _).symm.trans H; rw [hy101]; with_reducible exact H2_) | (have H2_ := (Option.bind_some _ _).symm.trans H; with_reducible exact H2_) | with_reducible exact H | (rw [hy101]; exact H) | exact H
 have Ny101 := a_ hy101
 clear hy101
 have H' := a_ H
 clear H
 go_enter Try.func17, Try.ntmps17
 go_wp2_with (first | ((with_reducible refine gate_dst (N := 5) rfl ?_); refine Kd.R_lit k44 _ 44 ?hg (N := 5) ?hd (xs := ([] : List (S44))) (inner := []) (ok := fun _ => True) (okp := fun _ => True) ?hr ?hp (fun _ hk => hk) trivial (Below.refl _ _) (Nat.le_refl _) (by simp) ?_; (case hd => rfl); (case hg => rfl); (case hr => first | (go_simp; done) | (go_simp; rfl)); (case hp => exact (Reps.none _ _)); intro v102 w2 ho3 hb hg_ hnew_; clear hg_ hnew_; (first | rw [← Ny101.out] at ho3 | (simp only [Int.reduceToNat] at ho3; rw [← Ny101.out] at ho3)); have n0_ := a_ (Kd.R_lower ho3 (below_size (bv_ HB.out))); have n1_ := a_ (bs_ HB.out hb); clear HB; have HO103 := n0_; have HB := n1_; clear n0_ n1_; clear hb ho3))
 go_loopg [3, 4] k (fun kq v3 v4 w' => ∃ (x3_1 : List (S44)) (x4_1 : Int), v4 = .int .i64 x4_1 ∧ Aside0 (variorumref06_Real.l0 kq l0 x3_1 x4_1 = some r) ∧ Aside0 (kq ≤ k) ∧ Aside0 (Kd.R k44 44 w' w.heap.size (fun _ => True) v3 x3_1) ∧ Aside0 (Below w.heap.size w w'))
 case atStart => exact ⟨(y101), (0), (by first | rfl | (simp; done) | (simp [*]; done)), H', ⟨Nat.le_refl _⟩, ⟨by (with_reducible repeat (first | apply Kd.R_alloc | apply Kd.R_drewN | apply Kd.R_drew)); exact HO103.out⟩, ⟨bv_ HB.out⟩⟩
 case round =>
  clear H'
  try clear c1
  try clear p2
  obtain ⟨x3_1, x4_1, rfl, HA, HK1, HO_3, HB⟩ := hrel
  cases gk with
  | zero => exact absurd HA.out (by simp [variorumref06_Real.l0])
  | succ k1 =>
   have H := HA.out
   clear HA
   simp only [variorumref06_Real.l0] at H
   by_cases c4 : x4_1 < (l0.length : Int)
   ·rw [if_pos c4] at H
    have c4b0 : decide (x4_1 < (l0.length : Int)) = true := decide_eq_true c4
    clear c4
    by_cases c5 : 0 ≤ x4_1
    ·rw [if_pos c5] at H
     have c5b0 : decide (0 ≤ x4_1) = true := decide_eq_true c5
     clear c5
     by_cases c6 : ((rd_T44 l0 x4_1).f0) ≥ 0
     ·rw [if_pos c6] at H
      have c6b0 : decide (0 ≤ ((rd_T44 l0 x4_1).f0)) = true := decide_eq_true c6
      clear c6
      by_cases c7 : ((rd_T44 l0 x4_1).f0) ≤ 3
      ·rw [if_pos c7] at H
       have c7b0 : decide (((rd_T44 l0 x4_1).f0) ≤ 3) = true := decide_eq_true c7
       clear c7
       by_cases c8 : x3_1.length < 4398046511104
       ·rw [if_pos c8] at H
        have LMc8 := a_ c8
        clear c8
        obtain ⟨y107, hy107⟩ : ∃ y_ : List (S44), y_ = (x3_1 ++ [(⟨(rd_T44 l0 x4_1).f0, (rd_T44 l0 x4_1).f1, (rd_T44 l0 x4_1).f2⟩ : S44)]) := ⟨_, rfl⟩
        replace H : (variorumref06_Real.l0 k1 l0 y107 (wrap64 (x4_1 + 1))) = some r := by first | (rw [hy107]; with_reducible exact H) | (have H2_ := (Option.bind_some _ _).symm.trans H; rw [hy107]; with_reducible exact H2_) | (have H2_ := (Option.bind_some _ _).symm.trans H; with_reducible exact H2_) | with_reducible exact H | (rw [hy107]; exact H) | exact H
        have Ny107 := a_ hy107
        clear hy107
        have H' := a_ H
        clear H
        have p104 : 0 ≤ (x4_1 : Int) := od_
        have q104 : x4_1 < (l0.length : Int) := od_
        obtain ⟨ad104, e104, hx104_0, hx104_1, hx104_2⟩ := at_T44 (Kd.C_below HR0.out HB.out) x4_1 p104 q104
        cases e104
        replace p104 := eq_true p104
        replace q104 := eq_true q104
        have p105 : 0 ≤ (x4_1 : Int) := od_
        have q105 : x4_1 < (l0.length : Int) := od_
        obtain ⟨ad105, e105, hx105_0, hx105_1, hx105_2⟩ := at_T44 (Kd.C_below HR0.out HB.out) x4_1 p105 q105
        obtain rfl : ad104 = ad105 := (by injection e105)
        replace p105 := eq_true p105
        replace q105 := eq_true q105
        have p106 : 0 ≤ (x4_1 : Int) := od_
        have q106 : x4_1 < (l0.length : Int) := od_
        obtain ⟨ad106, e106, hx106_0, hx106_1, hx106_2⟩ := at_T44 (Kd.C_below HR0.out HB.out) x4_1 p106 q106
        obtain rfl : ad104 = ad106 := (by injection e106)
        replace p106 := eq_true p106
        replace q106 := eq_true q106
        go_wp2_with (first | ((with_reducible refine gate_builtin (b := .append) (xs := #[.tmp 26, .tmp 31]) rfl ?_); at_builtin; refine Kd.R_append k44 (w0 := w) w.heap.size rfl (.tmp 26) (.tmp 31) 22 44 (.agg #[(.int .i64 0), (.string ⟨#[]⟩), (.int .i64 0)]) 32 rfl Try.underlying22 info44 rfl (by decide) (by omega) u3 x3_1 (⟨(rd_T44 l0 x4_1).f0, (rd_T44 l0 x4_1).f1, (rd_T44 l0 x4_1).f2⟩ : S44) [.int .i64 ((rd_T44 l0 x4_1).f0), .string ((rd_T44 l0 x4_1).f1), .int .i64 ((rd_T44 l0 x4_1).f2)] (fun _ => True) (fun _ => False) rfl rfl ?aP (fun _ hk => hk.elim) ?aF ?aO ?aB ?aS ?aL ?_; (case aP => exact k44_mkM _ _ _ (⟨(rd_T44 l0 x4_1).f0, (rd_T44 l0 x4_1).f1, (rd_T44 l0 x4_1).f2⟩ : S44)); (case aB => exact (bv_ HB.out)); (case aF => exact (fun _ _ => trivial)); (case aO => exact (rv_ HO_3.out)); (case aS => exact (below_size (bv_ HB.out))); (case aL => have := LMc8.out; omega); intro v108 w9 ho hb hg hat; rw [← Ny107.out] at ho; have n0_ := a_ (hb); have n1_ := a_ (ho); clear HB; clear HO_3; have HB := n0_; have HO109 := n1_; clear n0_ n1_; clear ho hb hg hat))
        go_roundg k1
        case measure => have := HK1.out; omega
        case rel => exact ⟨(y107), (wrap64 (x4_1 + 1)), (by first | rfl | (simp; done) | (simp [*]; done)), H', ⟨by have := HK1.out; omega⟩, ⟨by (with_reducible repeat (first | apply Kd.R_alloc | apply Kd.R_drewN | apply Kd.R_drew)); exact HO109.out⟩, ⟨bv_ HB.out⟩⟩
       ·rw [if_neg c8] at H
        exact absurd H (by simp)
      ·rw [if_neg c7] at H
       have c7b0 : decide (((rd_T44 l0 x4_1).f0) ≤ 3) = false := decide_eq_false c7
       clear c7
       have H' := a_ H
       clear H
       have p104 : 0 ≤ (x4_1 : Int) := od_
       have q104 : x4_1 < (l0.length : Int) := od_
       obtain ⟨ad104, e104, hx104_0, hx104_1, hx104_2⟩ := at_T44 (Kd.C_below HR0.out HB.out) x4_1 p104 q104
       cases e104
       replace p104 := eq_true p104
       replace q104 := eq_true q104
       have p105 : 0 ≤ (x4_1 : Int) := od_
       have q105 : x4_1 < (l0.length : Int) := od_
       obtain ⟨ad105, e105, hx105_0, hx105_1, hx105_2⟩ := at_T44 (Kd.C_below HR0.out HB.out) x4_1 p105 q105
       obtain rfl : ad104 = ad105 := (by injection e105)
       replace p105 := eq_true p105
       replace q105 := eq_true q105
       go_wp2
       go_roundg k1
       case measure => have := HK1.out; omega
       case rel => exact ⟨(x3_1), (wrap64 (x4_1 + 1)), (by first | rfl | (simp; done) | (simp [*]; done)), H', ⟨by have := HK1.out; omega⟩, ⟨by (with_reducible repeat (first | apply Kd.R_alloc | apply Kd.R_drewN | apply Kd.R_drew)); exact HO_3.out⟩, ⟨bv_ HB.out⟩⟩
     ·rw [if_neg c6] at H
      have c6b0 : decide (0 ≤ ((rd_T44 l0 x4_1).f0)) = false := decide_eq_false c6
      clear c6
      have H' := a_ H
      clear H
      have p104 : 0 ≤ (x4_1 : Int) := od_
      have q104 : x4_1 < (l0.length : Int) := od_
      obtain ⟨ad104, e104, hx104_0, hx104_1, hx104_2⟩ := at_T44 (Kd.C_below HR0.out HB.out) x4_1 p104 q104
      cases e104
      replace p104 := eq_true p104
      replace q104 := eq_true q104
      go_wp2
      go_roundg k1
      case measure => have := HK1.out; omega
      case rel => exact ⟨(x3_1), (wrap64 (x4_1 + 1)), (by first | rfl | (simp; done) | (simp [*]; done)), H', ⟨by have := HK1.out; omega⟩, ⟨by (with_reducible repeat (first | apply Kd.R_alloc | apply Kd.R_drewN | apply Kd.R_drew)); exact HO_3.out⟩, ⟨bv_ HB.out⟩⟩
    ·rw [if_neg c5] at H
     exact absurd H (by simp)
   ·rw [if_neg c4] at H
    have c4b0 : decide (x4_1 < (l0.length : Int)) = false := decide_eq_false c4
    clear c4
    obtain rfl := Option.some.inj H
    go_wp2
    go_ret
    exact ⟨_, by first | rfl | (simp [errW_none, errW_some] <;> rfl) | (simp [*, errW_none, errW_some] <;> rfl), by (with_reducible repeat (first | apply Kd.R_alloc | apply Kd.R_drewN | apply Kd.R_drew)); exact HO_3.out, bv_ HB.out⟩

/-! ### variorumref06_Fault: function 21 -/
def variorumref06_Fault.l0 : Nat → List (S44) → List Int → Bool → Int → Option (Int × Int)
 | 0, _, _, _, _ => none
 | k + 1, x0, x3, x4, x5 => if x5 < (x0.length : Int) then (if 0 ≤ x5 then (if ((rd_T44 x0 x5).f0) = 2 then (if x4 = true then (if (x3.length : Int) = 64 then (some (63, (rd_T44 x0 x5).f2)) else (if x3.length < 17592186044416 then ((some (x3 ++ [(rd_T44 x0 x5).f2] : List Int)).bind fun y117 => (if ((rd_T44 x0 x5).f0) = 1 then (variorumref06_Fault.l0 k x0 y117 true (wrap64 (x5 + 1))) else (variorumref06_Fault.l0 k x0 y117 (((rd_T44 x0 x5).f0) == 3) (wrap64 (x5 + 1))))) else (none))) else (some (60, (rd_T44 x0 x5).f2))) else (if ((rd_T44 x0 x5).f0) = 3 then (if (x3.length : Int) = 0 then (some (61, (rd_T44 x0 x5).f2)) else (if 0 ≤ (wrap64 ((x3.length : Int) - 1)) then (if (wrap64 ((x3.length : Int) - 1)) ≤ (x3.length : Int) then ((some (x3.take ((wrap64 ((x3.length : Int) - 1)) : Int).toNat : List Int)).bind fun y120 => (if ((rd_T44 x0 x5).f0) = 1 then (variorumref06_Fault.l0 k x0 y120 true (wrap64 (x5 + 1))) else (variorumref06_Fault.l0 k x0 y120 (((rd_T44 x0 x5).f0) == 3) (wrap64 (x5 + 1))))) else (none)) else (none))) else (if ((rd_T44 x0 x5).f0) = 1 then (variorumref06_Fault.l0 k x0 x3 true (wrap64 (x5 + 1))) else (variorumref06_Fault.l0 k x0 x3 (((rd_T44 x0 x5).f0) == 3) (wrap64 (x5 + 1)))))) else (none)) else (if (x3.length : Int) > 0 then (if 0 ≤ (wrap64 ((x3.length : Int) - 1)) then (if (wrap64 ((x3.length : Int) - 1)) < (x3.length : Int) then (some (62, rd x3 (wrap64 ((x3.length : Int) - 1)))) else (none)) else (none)) else (some (0, 0)))
def variorumref06_Fault.f (k : Nat) (l0 : List (S44)) : Option (Int × Int) := variorumref06_Fault.l0 k l0 (([] : List Int)) false 0
theorem variorumref06_Fault.mono_l : ∀ k, (∀ y0 y1 y2 y3, LeO (variorumref06_Fault.l0 k y0 y1 y2 y3) (variorumref06_Fault.l0 (k + 1) y0 y1 y2 y3))
 | 0 => fun _ _ _ _ r h => by simp [variorumref06_Fault.l0] at h
 | k + 1 => by
  have ih0 := variorumref06_Fault.mono_l k
  ·intro y0 y1 y2 y3
   unfold variorumref06_Fault.l0
   repeat' first | (with_reducible first | exact ih0 _ _ _ _ | exact LeO.refl _ | exact LeO.none _ | refine LeO.ite ?_ ?_ | refine LeO.bind ?_ (fun _ => ?_)) | exact LeO.none _ | refine LeO.ite ?_ ?_ | refine LeO.bind ?_ (fun _ => ?_)
theorem variorumref06_Fault.mono : ∀ a0 k, LeO (variorumref06_Fault.f k a0) (variorumref06_Fault.f (k + 1) a0) := by
 intro a0 k
 have ih0 := variorumref06_Fault.mono_l k
 unfold variorumref06_Fault.f
 repeat' first
   | (with_reducible exact ih0 _ _ _ _)
   | (with_reducible exact LeO.refl _)
   | (with_reducible exact LeO.none _)
   | (with_reducible refine LeO.ite ?_ ?_)
   | (with_reducible refine LeO.bind ?_ (fun _ => ?_))
   | exact ih0 _ _ _ _
   | exact LeO.none _
   | refine LeO.ite ?_ ?_
   | refine LeO.bind ?_ (fun _ => ?_)
set_option maxHeartbeats 8000000 in
set_option maxRecDepth 100000 in
theorem variorumref06_Fault.calls (k : Nat) (A0 : Option Addr) (c0 : Nat) (l0 : List (S44)) (r1 : Int) (r2 : Int) (w : World) (hr0 : Kd.C k44 w A0 l0.length l0) (hc0 : l0.length ≤ c0) (h : variorumref06_Fault.f k l0 = some (r1, r2)) :
  Calls Try.prog 21 #[.slice A0 l0.length c0] w fun e w' => e = .returned (.agg #[.int .i64 r1, .int .i64 r2]) ∧ Below w.heap.size w w' := by
 have hu26 := Try.underlying26
 have hu44 := Try.underlying44
 have HR0 := a_ hr0
 have HC0 := a_ hc0
 clear hr0 hc0
 have HB := a_ (Below.refl w.heap.size w)
 have H : (variorumref06_Fault.l0 k l0 (([] : List Int)) false 0) = some (r1, r2) := h
 clear h
 obtain ⟨y111, hy111⟩ : ∃ y_ : List Int, y_ = (([] : List Int)) := ⟨_, rfl⟩
 replace H : (variorumref06_Fault.l0 k l0 y111 false 0) = some (r1, r2) := by first | (rw [hy111]; with_reducible exact H) | (have H2_ := (Option.bind_some _ _).symm.trans H; rw [hy111]; with_reducible exact H2_) | (have H2_ := (Option.bind_some _ _).symm.trans H; with_reducible exact H2_) | with_reducible exact H | (rw [hy111]; exact H) | exact H
 have Ny111 := a_ hy111
 clear hy111
 have H' := a_ H
 clear H
 go_enter Try.func21, Try.ntmps21
 go_wp2_with (first | ((with_reducible refine gate_dst (N := 2) rfl ?_); refine box_event ?hg (N := 2) ?hd (cs := #[.int .i64 0, .int .i64 0]) (t := 26) ?hr ?_; (case hd => rfl); (case hg => rfl); (case hr => first | (go_simp; done) | (go_simp; rfl)); intro gb110 hg w2 hbox hb; have n0_ := a_ (bs_ HB.out hb); have n1_ := a_ (hbox); have n2_ := a_ ((by rw [hg]; exact (below_size (bv_ HB.out)) : w.heap.size ≤ gb110)); have n3_ := a_ ((by rw [hg]; exact (below_size (bv_ HB.out)) : w.heap.size ≤ gb110)); clear HB; have HB := n0_; have BK110 := n1_; have GW110 := n2_; have GE110 := n3_; clear n0_ n1_ n2_ n3_; clear hb hbox hg) | ((with_reducible refine gate_dst (N := 7) rfl ?_); refine Kd.R_lit (Kd.int .i64) _ 3 ?hg (N := 7) ?hd (xs := ([] : List Int)) (inner := []) (ok := fun _ => True) (okp := fun _ => True) ?hr ?hp (fun _ hk => hk) trivial (Below.refl _ _) (Nat.le_refl _) (by simp) ?_; (case hd => rfl); (case hg => rfl); (case hr => first | (go_simp; done) | (go_simp; rfl)); (case hp => exact (Reps.none _ _)); intro v112 w3 ho4 hb hg_ hnew_; clear hg_ hnew_; (first | rw [← Ny111.out] at ho4 | (simp only [Int.reduceToNat] at ho4; rw [← Ny111.out] at ho4)); have n0_ := a_ (Kd.R_lower ho4 (below_size (bS1_ HB.out GE110.out))); have n1_ := a_ (kb_ BK110.out hb); have n2_ := a_ (below_step (bS1_ HB.out GE110.out) hb); clear BK110; clear HB; have HO113 := n0_; have BK110 := n1_; have HB := n2_; clear n0_ n1_ n2_; clear hb ho4))
 go_loopg [3, 4, 5] k (fun kq v3 v4 v5 w' => ∃ (x3_1 : List Int) (x4_1 : Bool) (x5_1 : Int) (x111000_1 : Int) (x111001_1 : Int), v4 = .bool x4_1 ∧ v5 = .int .i64 x5_1 ∧ Aside0 (variorumref06_Fault.l0 kq l0 x3_1 x4_1 x5_1 = some (r1, r2)) ∧ Aside0 (kq ≤ k) ∧ Aside0 (Kd.R (Kd.int .i64) 3 w' w.heap.size (fun _ => True) v3 x3_1) ∧ Aside0 (w'.heap[gb110]? = some (.cells #[.int .i64 x111000_1, .int .i64 x111001_1] 26 (0, 0))) ∧ Aside0 (Below w.heap.size w w'))
 case atStart => exact ⟨(y111), (false), (0), (0), (0), (by first | rfl | (simp; done) | (simp [*]; done)), (by first | rfl | (simp; done) | (simp [*]; done)), H', ⟨Nat.le_refl _⟩, ⟨by (with_reducible repeat (first | apply Kd.R_alloc | apply Kd.R_drewN | apply Kd.R_drew)); exact HO113.out⟩, ⟨kv_ BK110.out⟩, ⟨bS1_ HB.out GE110.out⟩⟩
 case round =>
  clear H'
  try clear c2
  try clear p2
  obtain ⟨x3_1, x4_1, x5_1, x111000_1, x111001_1, rfl, rfl, HA, HK1, HO_3, BK110, HB⟩ := hrel
  cases gk with
  | zero => exact absurd HA.out (by simp [variorumref06_Fault.l0])
  | succ k1 =>
   have H := HA.out
   clear HA
   simp only [variorumref06_Fault.l0] at H
   by_cases c5 : x5_1 < (l0.length : Int)
   ·rw [if_pos c5] at H
    have c5b0 : decide (x5_1 < (l0.length : Int)) = true := decide_eq_true c5
    clear c5
    by_cases c6 : 0 ≤ x5_1
    ·rw [if_pos c6] at H
     have c6b0 : decide (0 ≤ x5_1) = true := decide_eq_true c6
     clear c6
     by_cases c7 : ((rd_T44 l0 x5_1).f0) = 2
     ·rw [if_pos c7] at H
      have c7b0 : (((rd_T44 l0 x5_1).f0) == 2) = true := beq_iff_eq.mpr c7
      have c7b1 : (((rd_T44 l0 x5_1).f0) != 2) = false := bne_eq_false_iff_eq.mpr c7
      clear c7
      by_cases c8 : x4_1 = true
      ·subst c8
       have H1 : (if (x3_1.length : Int) = 64 then (some (63, (rd_T44 l0 x5_1).f2)) else (if x3_1.length < 17592186044416 then ((some (x3_1 ++ [(rd_T44 l0 x5_1).f2] : List Int)).bind fun y117 => (if ((rd_T44 l0 x5_1).f0) = 1 then (variorumref06_Fault.l0 k1 l0 y117 true (wrap64 (x5_1 + 1))) else (variorumref06_Fault.l0 k1 l0 y117 (((rd_T44 l0 x5_1).f0) == 3) (wrap64 (x5_1 + 1))))) else (none))) = some (r1, r2) := by rw [if_pos rfl] at H; exact H
       clear H
       have H := H1
       clear H1
       by_cases c9 : (x3_1.length : Int) = 64
       ·rw [if_pos c9] at H
        have c9b0 : ((x3_1.length : Int) == 64) = true := beq_iff_eq.mpr c9
        have c9b1 : ((x3_1.length : Int) != 64) = false := bne_eq_false_iff_eq.mpr c9
        clear c9
        simp only [Option.some.injEq, Prod.mk.injEq] at H
        obtain ⟨rfl, rfl⟩ := H
        have p115 : 0 ≤ (x5_1 : Int) := od_
        have q115 : x5_1 < (l0.length : Int) := od_
        obtain ⟨ad115, e115, hx115_0, hx115_1, hx115_2⟩ := at_T44 (Kd.C_below HR0.out HB.out) x5_1 p115 q115
        cases e115
        replace p115 := eq_true p115
        replace q115 := eq_true q115
        go_wp2_with (first | ((with_reducible refine gate_dst (N := 6) rfl ?_); refine box_event ?hg (N := 6) ?hd (cs := #[.int .i64 0, .string (⟨#[]⟩ : ByteArray), .int .i64 0]) (t := 44) ?hr ?_; (case hd => rfl); (case hg => rfl); (case hr => first | (go_simp; done) | (go_simp; rfl)); intro gb116 hg w10 hbox hb; have n0_ := a_ (Kd.R_below (rv_ HO_3.out) hb); have n1_ := a_ (kb_ BK110.out hb); have n2_ := a_ (below_step (bS1_ HB.out GE110.out) hb); have n3_ := a_ (hbox); have n4_ := a_ ((by rw [hg]; exact (below_size (bS1_ HB.out GE110.out)) : w.heap.size ≤ gb116)); have n5_ := a_ ((by rw [hg]; exact (below_size (bS1_ HB.out GE110.out)) : w.heap.size ≤ gb116)); have n6_ := a_ ((by rw [hg]; exact Nat.ne_of_lt (blk_lt (kv_ BK110.out)) : gb110 ≠ gb116)); have n7_ := a_ ((by rw [hg]; exact Nat.ne_of_gt (blk_lt (kv_ BK110.out)) : gb116 ≠ gb110)); clear HO_3; clear BK110; clear HB; have HO_3 := n0_; have BK110 := n1_; have HB := n2_; have BK116 := n3_; have GW116 := n4_; have GE116 := n5_; have NB110_116 := n6_; have NB116_110 := n7_; clear n0_ n1_ n2_ n3_ n4_ n5_ n6_ n7_; clear hb hbox hg; have hnb11 := NB116_110.out; have hnc11 := NB110_116.out; obtain ⟨⟨Z12_0, Y12_0⟩, ⟨Z12_1, Y12_1⟩, Z12_2, Y12_2⟩ := cs3_ BK116.out; obtain ⟨Ao13, co13, eo13⟩ := Kd.R_slice HO_3.out; subst eo13; obtain ⟨⟨Z14_0, Y14_0⟩, Z14_1, Y14_1⟩ := cs2_ BK110.out))
        refine bodyPost_ret (results_cell_row rfl _ _ gb110 26 #[.int .i64 63, .int .i64 ((rd_T44 l0 x5_1).f2)] (0, 0) _ rfl (kp1_ BK110.out NB110_116.out) Try.underlying26 rfl (by kernel_rfl)) rfl ?_
        exact ⟨by first | rfl | (simp [errW_none, errW_some] <;> rfl) | (simp [*, errW_none, errW_some] <;> rfl), bS2_ HB.out GE110.out GE116.out⟩
       ·rw [if_neg c9] at H
        have c9b0 : ((x3_1.length : Int) == 64) = false := beq_eq_false_iff_ne.mpr c9
        have c9b1 : ((x3_1.length : Int) != 64) = true := bne_iff_ne.mpr c9
        by_cases c15 : x3_1.length < 17592186044416
        ·rw [if_pos c15] at H
         have LMc15 := a_ c15
         clear c15
         obtain ⟨y117, hy117⟩ : ∃ y_ : List Int, y_ = (x3_1 ++ [(rd_T44 l0 x5_1).f2]) := ⟨_, rfl⟩
         replace H : (if ((rd_T44 l0 x5_1).f0) = 1 then (variorumref06_Fault.l0 k1 l0 y117 true (wrap64 (x5_1 + 1))) else (variorumref06_Fault.l0 k1 l0 y117 (((rd_T44 l0 x5_1).f0) == 3) (wrap64 (x5_1 + 1)))) = some (r1, r2) := by first | (rw [hy117]; with_reducible exact H) | (have H2_ := (Option.bind_some _ _).symm.trans H; rw [hy117]; with_reducible exact H2_) | (have H2_ := (Option.bind_some _ _).symm.trans H; with_reducible exact H2_) | with_reducible exact H | (rw [hy117]; exact H) | exact H
         have Ny117 := a_ hy117
         clear hy117
         by_cases c16 : ((rd_T44 l0 x5_1).f0) = 1
         ·rw [if_pos c16] at H
          have c16b0 : (((rd_T44 l0 x5_1).f0) == 1) = true := beq_iff_eq.mpr c16
          have c16b1 : (((rd_T44 l0 x5_1).f0) != 1) = false := bne_eq_false_iff_eq.mpr c16
          clear c16
          have H' := a_ H
          clear H
          have p115 : 0 ≤ (x5_1 : Int) := od_
          have q115 : x5_1 < (l0.length : Int) := od_
          obtain ⟨ad115, e115, hx115_0, hx115_1, hx115_2⟩ := at_T44 (Kd.C_below HR0.out HB.out) x5_1 p115 q115
          cases e115
          replace p115 := eq_true p115
          replace q115 := eq_true q115
          go_wp2_with (first | ((with_reducible refine gate_dst (N := 6) rfl ?_); refine box_event ?hg (N := 6) ?hd (cs := #[.int .i64 0, .string (⟨#[]⟩ : ByteArray), .int .i64 0]) (t := 44) ?hr ?_; (case hd => rfl); (case hg => rfl); (case hr => first | (go_simp; done) | (go_simp; rfl)); intro gb116 hg w17 hbox hb; have n0_ := a_ (Kd.R_below (rv_ HO_3.out) hb); have n1_ := a_ (kb_ BK110.out hb); have n2_ := a_ (below_step (bS1_ HB.out GE110.out) hb); have n3_ := a_ (hbox); have n4_ := a_ ((by rw [hg]; exact (below_size (bS1_ HB.out GE110.out)) : w.heap.size ≤ gb116)); have n5_ := a_ ((by rw [hg]; exact (below_size (bS1_ HB.out GE110.out)) : w.heap.size ≤ gb116)); have n6_ := a_ ((by rw [hg]; exact Nat.ne_of_lt (blk_lt (kv_ BK110.out)) : gb110 ≠ gb116)); have n7_ := a_ ((by rw [hg]; exact Nat.ne_of_gt (blk_lt (kv_ BK110.out)) : gb116 ≠ gb110)); clear HO_3; clear BK110; clear HB; have HO_3 := n0_; have BK110 := n1_; have HB := n2_; have BK116 := n3_; have GW116 := n4_; have GE116 := n5_; have NB110_116 := n6_; have NB116_110 := n7_; clear n0_ n1_ n2_ n3_ n4_ n5_ n6_ n7_; clear hb hbox hg; have hnb18 := NB116_110.out; have hnc18 := NB110_116.out; obtain ⟨⟨Z19_0, Y19_0⟩, ⟨Z19_1, Y19_1⟩, Z19_2, Y19_2⟩ := cs3_ BK116.out; obtain ⟨Ao20, co20, eo20⟩ := Kd.R_slice HO_3.out; subst eo20) | ((with_reducible refine gate_builtin (b := .append) (xs := #[.tmp 33, .tmp 36]) rfl ?_); at_builtin; refine Kd.R_append (Kd.int .i64) (w0 := w) w.heap.size rfl (.tmp 33) (.tmp 36) 60 3 (.int .i64 0) 8 rfl Try.underlying60 info3 rfl (by decide) (by omega) (.slice Ao20 x3_1.length co20) x3_1 ((rd_T44 l0 x5_1).f2) [.int .i64 ((rd_T44 l0 x5_1).f2)] (fun _ => True) (fun _ => False) rfl (by first | (go_simp; done) | (go_simp; rfl)) ?aP (fun _ hk => hk.elim) ?aF ?aO ?aB ?aS ?aL ?_; (case aP => exact rfl); (case aB => exact (bS2_ HB.out GE110.out GE116.out)); (case aF => exact (fun _ _ => trivial)); (case aO => exact (by (with_reducible repeat (first | apply Kd.R_alloc | apply Kd.R_drewN | apply Kd.R_drew)); exact Kd.R_mono (Kd.R_far (p := ⟨gb116, 2, none⟩) (Kd.R_far (p := ⟨gb116, 1, none⟩) (Kd.R_far (p := ⟨gb116, 0, none⟩) (Kd.R_types HO_3.out BK116.out (by decide)) (fun _ hk => hk.2) (.int .i64 ((rd_T44 l0 x5_1).f0))) (fun _ hk => hk.2) (.string ((rd_T44 l0 x5_1).f1))) (fun _ hk => hk.2) (.int .i64 ((rd_T44 l0 x5_1).f2))) (fun _ hk => trivial))); (case aS => exact (below_size (bS2_ HB.out GE110.out GE116.out))); (case aL => have := LMc15.out; omega); intro v118 w21 ho hb hg hat; rw [← Ny117.out] at ho; have n0_ := a_ (blk_grown (g := gb110) (o := .cells #[.int .i64 x111000_1, .int .i64 x111001_1] 26 (0, 0)) (kf1_ BK110.out NB110_116.out) hg (Kd.R_ne HO_3.out BK110.out (by decide))); have n1_ := a_ (blk_grown (g := gb116) (o := .cells #[.int .i64 ((rd_T44 l0 x5_1).f0), .string ((rd_T44 l0 x5_1).f1), .int .i64 ((rd_T44 l0 x5_1).f2)] 44 (0, 0)) (kp0_ BK116.out) hg (Kd.R_ne HO_3.out BK116.out (by decide))); have n2_ := a_ (hb); have n3_ := a_ (ho); clear BK110; clear BK116; clear HB; clear HO_3; have BK110 := n0_; have BK116 := n1_; have HB := n2_; have HO119 := n3_; clear n0_ n1_ n2_ n3_; clear ho hb hg hat; obtain ⟨⟨Z22_0, Y22_0⟩, ⟨Z22_1, Y22_1⟩, Z22_2, Y22_2⟩ := cs3_ BK116.out))
          go_roundg k1
          case measure => have := HK1.out; omega
          case rel => exact ⟨(y117), (true), (wrap64 (x5_1 + 1)), (x111000_1), (x111001_1), (by first | rfl | (simp; done) | (simp [*]; done)), (by first | rfl | (simp; done) | (simp [*]; done)), H', ⟨by have := HK1.out; omega⟩, ⟨by (with_reducible repeat (first | apply Kd.R_alloc | apply Kd.R_drewN | apply Kd.R_drew)); exact HO119.out⟩, ⟨kv_ BK110.out⟩, ⟨bS2_ HB.out GE110.out GE116.out⟩⟩
         ·rw [if_neg c16] at H
          have c16b0 : (((rd_T44 l0 x5_1).f0) == 1) = false := beq_eq_false_iff_ne.mpr c16
          have c16b1 : (((rd_T44 l0 x5_1).f0) != 1) = true := bne_iff_ne.mpr c16
          have H' := a_ H
          clear H
          have p115 : 0 ≤ (x5_1 : Int) := od_
          have q115 : x5_1 < (l0.length : Int) := od_
          obtain ⟨ad115, e115, hx115_0, hx115_1, hx115_2⟩ := at_T44 (Kd.C_below HR0.out HB.out) x5_1 p115 q115
          cases e115
          replace p115 := eq_true p115
          replace q115 := eq_true q115
          go_wp2_with (first | ((with_reducible refine gate_dst (N := 6) rfl ?_); refine box_event ?hg (N := 6) ?hd (cs := #[.int .i64 0, .string (⟨#[]⟩ : ByteArray), .int .i64 0]) (t := 44) ?hr ?_; (case hd => rfl); (case hg => rfl); (case hr => first | (go_simp; done) | (go_simp; rfl)); intro gb116 hg w23 hbox hb; have n0_ := a_ (Kd.R_below (rv_ HO_3.out) hb); have n1_ := a_ (kb_ BK110.out hb); have n2_ := a_ (below_step (bS1_ HB.out GE110.out) hb); have n3_ := a_ (hbox); have n4_ := a_ ((by rw [hg]; exact (below_size (bS1_ HB.out GE110.out)) : w.heap.size ≤ gb116)); have n5_ := a_ ((by rw [hg]; exact (below_size (bS1_ HB.out GE110.out)) : w.heap.size ≤ gb116)); have n6_ := a_ ((by rw [hg]; exact Nat.ne_of_lt (blk_lt (kv_ BK110.out)) : gb110 ≠ gb116)); have n7_ := a_ ((by rw [hg]; exact Nat.ne_of_gt (blk_lt (kv_ BK110.out)) : gb116 ≠ gb110)); clear HO_3; clear BK110; clear HB; have HO_3 := n0_; have BK110 := n1_; have HB := n2_; have BK116 := n3_; have GW116 := n4_; have GE116 := n5_; have NB110_116 := n6_; have NB116_110 := n7_; clear n0_ n1_ n2_ n3_ n4_ n5_ n6_ n7_; clear hb hbox hg; have hnb24 := NB116_110.out; have hnc24 := NB110_116.out; obtain ⟨⟨Z25_0, Y25_0⟩, ⟨Z25_1, Y25_1⟩, Z25_2, Y25_2⟩ := cs3_ BK116.out; obtain ⟨Ao26, co26, eo26⟩ := Kd.R_slice HO_3.out; subst eo26) | ((with_reducible refine gate_builtin (b := .append) (xs := #[.tmp 33, .tmp 36]) rfl ?_); at_builtin; refine Kd.R_append (Kd.int .i64) (w0 := w) w.heap.size rfl (.tmp 33) (.tmp 36) 60 3 (.int .i64 0) 8 rfl Try.underlying60 info3 rfl (by decide) (by omega) (.slice Ao26 x3_1.length co26) x3_1 ((rd_T44 l0 x5_1).f2) [.int .i64 ((rd_T44 l0 x5_1).f2)] (fun _ => True) (fun _ => False) rfl (by first | (go_simp; done) | (go_simp; rfl)) ?aP (fun _ hk => hk.elim) ?aF ?aO ?aB ?aS ?aL ?_; (case aP => exact rfl); (case aB => exact (bS2_ HB.out GE110.out GE116.out)); (case aF => exact (fun _ _ => trivial)); (case aO => exact (by (with_reducible repeat (first | apply Kd.R_alloc | apply Kd.R_drewN | apply Kd.R_drew)); exact Kd.R_mono (Kd.R_far (p := ⟨gb116, 2, none⟩) (Kd.R_far (p := ⟨gb116, 1, none⟩) (Kd.R_far (p := ⟨gb116, 0, none⟩) (Kd.R_types HO_3.out BK116.out (by decide)) (fun _ hk => hk.2) (.int .i64 ((rd_T44 l0 x5_1).f0))) (fun _ hk => hk.2) (.string ((rd_T44 l0 x5_1).f1))) (fun _ hk => hk.2) (.int .i64 ((rd_T44 l0 x5_1).f2))) (fun _ hk => trivial))); (case aS => exact (below_size (bS2_ HB.out GE110.out GE116.out))); (case aL => have := LMc15.out; omega); intro v118 w27 ho hb hg hat; rw [← Ny117.out] at ho; have n0_ := a_ (blk_grown (g := gb110) (o := .cells #[.int .i64 x111000_1, .int .i64 x111001_1] 26 (0, 0)) (kf1_ BK110.out NB110_116.out) hg (Kd.R_ne HO_3.out BK110.out (by decide))); have n1_ := a_ (blk_grown (g := gb116) (o := .cells #[.int .i64 ((rd_T44 l0 x5_1).f0), .string ((rd_T44 l0 x5_1).f1), .int .i64 ((rd_T44 l0 x5_1).f2)] 44 (0, 0)) (kp0_ BK116.out) hg (Kd.R_ne HO_3.out BK116.out (by decide))); have n2_ := a_ (hb); have n3_ := a_ (ho); clear BK110; clear BK116; clear HB; clear HO_3; have BK110 := n0_; have BK116 := n1_; have HB := n2_; have HO119 := n3_; clear n0_ n1_ n2_ n3_; clear ho hb hg hat; obtain ⟨⟨Z28_0, Y28_0⟩, ⟨Z28_1, Y28_1⟩, Z28_2, Y28_2⟩ := cs3_ BK116.out))
          go_roundg k1
          case measure => have := HK1.out; omega
          case rel => exact ⟨(y117), ((((rd_T44 l0 x5_1).f0) == 3)), (wrap64 (x5_1 + 1)), (x111000_1), (x111001_1), (by first | rfl | (simp; done) | (simp [*]; done)), (by first | rfl | (simp; done) | (simp [*]; done)), H', ⟨by have := HK1.out; omega⟩, ⟨by (with_reducible repeat (first | apply Kd.R_alloc | apply Kd.R_drewN | apply Kd.R_drew)); exact HO119.out⟩, ⟨kv_ BK110.out⟩, ⟨bS2_ HB.out GE110.out GE116.out⟩⟩
        ·rw [if_neg c15] at H
         exact absurd H (by simp)
      ·replace c8 := Bool.eq_false_iff.mpr c8
       subst c8
       have H1 : (some (60, (rd_T44 l0 x5_1).f2)) = some (r1, r2) := by rw [if_neg (show ¬ (false = true) by decide)] at H; exact H
       clear H
       have H := H1
       clear H1
       simp only [Option.some.injEq, Prod.mk.injEq] at H
       obtain ⟨rfl, rfl⟩ := H
       have p115 : 0 ≤ (x5_1 : Int) := od_
       have q115 : x5_1 < (l0.length : Int) := od_
       obtain ⟨ad115, e115, hx115_0, hx115_1, hx115_2⟩ := at_T44 (Kd.C_below HR0.out HB.out) x5_1 p115 q115
       cases e115
       replace p115 := eq_true p115
       replace q115 := eq_true q115
       go_wp2_with (first | ((with_reducible refine gate_dst (N := 6) rfl ?_); refine box_event ?hg (N := 6) ?hd (cs := #[.int .i64 0, .string (⟨#[]⟩ : ByteArray), .int .i64 0]) (t := 44) ?hr ?_; (case hd => rfl); (case hg => rfl); (case hr => first | (go_simp; done) | (go_simp; rfl)); intro gb116 hg w29 hbox hb; have n0_ := a_ (Kd.R_below (rv_ HO_3.out) hb); have n1_ := a_ (kb_ BK110.out hb); have n2_ := a_ (below_step (bS1_ HB.out GE110.out) hb); have n3_ := a_ (hbox); have n4_ := a_ ((by rw [hg]; exact (below_size (bS1_ HB.out GE110.out)) : w.heap.size ≤ gb116)); have n5_ := a_ ((by rw [hg]; exact (below_size (bS1_ HB.out GE110.out)) : w.heap.size ≤ gb116)); have n6_ := a_ ((by rw [hg]; exact Nat.ne_of_lt (blk_lt (kv_ BK110.out)) : gb110 ≠ gb116)); have n7_ := a_ ((by rw [hg]; exact Nat.ne_of_gt (blk_lt (kv_ BK110.out)) : gb116 ≠ gb110)); clear HO_3; clear BK110; clear HB; have HO_3 := n0_; have BK110 := n1_; have HB := n2_; have BK116 := n3_; have GW116 := n4_; have GE116 := n5_; have NB110_116 := n6_; have NB116_110 := n7_; clear n0_ n1_ n2_ n3_ n4_ n5_ n6_ n7_; clear hb hbox hg; have hnb30 := NB116_110.out; have hnc30 := NB110_116.out; obtain ⟨⟨Z31_0, Y31_0⟩, ⟨Z31_1, Y31_1⟩, Z31_2, Y31_2⟩ := cs3_ BK116.out; obtain ⟨⟨Z32_0, Y32_0⟩, Z32_1, Y32_1⟩ := cs2_ BK110.out))
       refine bodyPost_ret (results_cell_row rfl _ _ gb110 26 #[.int .i64 60, .int .i64 ((rd_T44 l0 x5_1).f2)] (0, 0) _ rfl (kp1_ BK110.out NB110_116.out) Try.underlying26 rfl (by kernel_rfl)) rfl ?_
       exact ⟨by first | rfl | (simp [errW_none, errW_some] <;> rfl) | (simp [*, errW_none, errW_some] <;> rfl), bS2_ HB.out GE110.out GE116.out⟩
     ·rw [if_neg c7] at H
      have c7b0 : (((rd_T44 l0 x5_1).f0) == 2) = false := beq_eq_false_iff_ne.mpr c7
      have c7b1 : (((rd_T44 l0 x5_1).f0) != 2) = true := bne_iff_ne.mpr c7
      by_cases c33 : ((rd_T44 l0 x5_1).f0) = 3
      ·rw [if_pos c33] at H
       have c33b0 : (((rd_T44 l0 x5_1).f0) == 3) = true := beq_iff_eq.mpr c33
       have c33b1 : (((rd_T44 l0 x5_1).f0) != 3) = false := bne_eq_false_iff_eq.mpr c33
       clear c33
       by_cases c34 : (x3_1.length : Int) = 0
       ·rw [if_pos c34] at H
        have c34b0 : ((x3_1.length : Int) == 0) = true := beq_iff_eq.mpr c34
        have c34b1 : ((x3_1.length : Int) != 0) = false := bne_eq_false_iff_eq.mpr c34
        clear c34
        simp only [Option.some.injEq, Prod.mk.injEq] at H
        obtain ⟨rfl, rfl⟩ := H
        have p115 : 0 ≤ (x5_1 : Int) := od_
        have q115 : x5_1 < (l0.length : Int) := od_
        obtain ⟨ad115, e115, hx115_0, hx115_1, hx115_2⟩ := at_T44 (Kd.C_below HR0.out HB.out) x5_1 p115 q115
        cases e115
        replace p115 := eq_true p115
        replace q115 := eq_true q115
        go_wp2_with (first | ((with_reducible refine gate_dst (N := 6) rfl ?_); refine box_event ?hg (N := 6) ?hd (cs := #[.int .i64 0, .string (⟨#[]⟩ : ByteArray), .int .i64 0]) (t := 44) ?hr ?_; (case hd => rfl); (case hg => rfl); (case hr => first | (go_simp; done) | (go_simp; rfl)); intro gb116 hg w35 hbox hb; have n0_ := a_ (Kd.R_below (rv_ HO_3.out) hb); have n1_ := a_ (kb_ BK110.out hb); have n2_ := a_ (below_step (bS1_ HB.out GE110.out) hb); have n3_ := a_ (hbox); have n4_ := a_ ((by rw [hg]; exact (below_size (bS1_ HB.out GE110.out)) : w.heap.size ≤ gb116)); have n5_ := a_ ((by rw [hg]; exact (below_size (bS1_ HB.out GE110.out)) : w.heap.size ≤ gb116)); have n6_ := a_ ((by rw [hg]; exact Nat.ne_of_lt (blk_lt (kv_ BK110.out)) : gb110 ≠ gb116)); have n7_ := a_ ((by rw [hg]; exact Nat.ne_of_gt (blk_lt (kv_ BK110.out)) : gb116 ≠ gb110)); clear HO_3; clear BK110; clear HB; have HO_3 := n0_; have BK110 := n1_; have HB := n2_; have BK116 := n3_; have GW116 := n4_; have GE116 := n5_; have NB110_116 := n6_; have NB116_110 := n7_; clear n0_ n1_ n2_ n3_ n4_ n5_ n6_ n7_; clear hb hbox hg; have hnb36 := NB116_110.out; have hnc36 := NB110_116.out; obtain ⟨⟨Z37_0, Y37_0⟩, ⟨Z37_1, Y37_1⟩, Z37_2, Y37_2⟩ := cs3_ BK116.out; obtain ⟨Ao38, co38, eo38⟩ := Kd.R_slice HO_3.out; subst eo38; obtain ⟨⟨Z39_0, Y39_0⟩, Z39_1, Y39_1⟩ := cs2_ BK110.out))
        refine bodyPost_ret (results_cell_row rfl _ _ gb110 26 #[.int .i64 61, .int .i64 ((rd_T44 l0 x5_1).f2)] (0, 0) _ rfl (kp1_ BK110.out NB110_116.out) Try.underlying26 rfl (by kernel_rfl)) rfl ?_
        exact ⟨by first | rfl | (simp [errW_none, errW_some] <;> rfl) | (simp [*, errW_none, errW_some] <;> rfl), bS2_ HB.out GE110.out GE116.out⟩
       ·rw [if_neg c34] at H
        have c34b0 : ((x3_1.length : Int) == 0) = false := beq_eq_false_iff_ne.mpr c34
        have c34b1 : ((x3_1.length : Int) != 0) = true := bne_iff_ne.mpr c34
        have c34b2 : ¬ (x3_1 = []) := fun h_ => c34 (by rw [h_]; rfl)
        obtain ⟨ji40, hji40⟩ : ∃ j_ : Int, (wrap64 ((x3_1.length : Int) - 1)) = j_ := ⟨_, rfl⟩
        replace H : (if 0 ≤ (ji40) then (if (ji40) ≤ (x3_1.length : Int) then ((some (x3_1.take ((ji40) : Int).toNat : List Int)).bind fun y120 => (if ((rd_T44 l0 x5_1).f0) = 1 then (variorumref06_Fault.l0 k1 l0 y120 true (wrap64 (x5_1 + 1))) else (variorumref06_Fault.l0 k1 l0 y120 (((rd_T44 l0 x5_1).f0) == 3) (wrap64 (x5_1 + 1))))) else (none)) else (none)) = some (r1, r2) := by first | (rw [hji40] at H; exact H) | (simp only [hji40] at H ⊢; exact H)
        have hji40w : (IntKind.i64.wrap ((x3_1.length : Int) - 1)) = ji40 := (i64_w _).trans hji40
        by_cases c41 : 0 ≤ (ji40)
        ·rw [if_pos c41] at H
         have c41b0 := eq_true c41
         have c41b1 : decide (0 ≤ (ji40)) = true := decide_eq_true c41
         clear c41
         by_cases c42 : (ji40) ≤ (x3_1.length : Int)
         ·rw [if_pos c42] at H
          have c42b0 := eq_true c42
          have c42b1 : decide ((ji40) ≤ (x3_1.length : Int)) = true := decide_eq_true c42
          clear c42
          obtain ⟨y120, hy120⟩ : ∃ y_ : List Int, y_ = (x3_1.take ((ji40) : Int).toNat) := ⟨_, rfl⟩
          replace H : (if ((rd_T44 l0 x5_1).f0) = 1 then (variorumref06_Fault.l0 k1 l0 y120 true (wrap64 (x5_1 + 1))) else (variorumref06_Fault.l0 k1 l0 y120 (((rd_T44 l0 x5_1).f0) == 3) (wrap64 (x5_1 + 1)))) = some (r1, r2) := by first | (rw [hy120]; with_reducible exact H) | (have H2_ := (Option.bind_some _ _).symm.trans H; rw [hy120]; with_reducible exact H2_) | (have H2_ := (Option.bind_some _ _).symm.trans H; with_reducible exact H2_) | with_reducible exact H | (rw [hy120]; exact H) | exact H
          have Ny120 := a_ hy120
          clear hy120
          by_cases c43 : ((rd_T44 l0 x5_1).f0) = 1
          ·rw [if_pos c43] at H
           have c43b0 : (((rd_T44 l0 x5_1).f0) == 1) = true := beq_iff_eq.mpr c43
           have c43b1 : (((rd_T44 l0 x5_1).f0) != 1) = false := bne_eq_false_iff_eq.mpr c43
           clear c43
           have H' := a_ H
           clear H
           have p115 : 0 ≤ (x5_1 : Int) := od_
           have q115 : x5_1 < (l0.length : Int) := od_
           obtain ⟨ad115, e115, hx115_0, hx115_1, hx115_2⟩ := at_T44 (Kd.C_below HR0.out HB.out) x5_1 p115 q115
           cases e115
           replace p115 := eq_true p115
           replace q115 := eq_true q115
           go_wp2_with (first | ((with_reducible refine gate_dst (N := 6) rfl ?_); refine box_event ?hg (N := 6) ?hd (cs := #[.int .i64 0, .string (⟨#[]⟩ : ByteArray), .int .i64 0]) (t := 44) ?hr ?_; (case hd => rfl); (case hg => rfl); (case hr => first | (go_simp; done) | (go_simp; rfl)); intro gb116 hg w44 hbox hb; have n0_ := a_ (Kd.R_below (rv_ HO_3.out) hb); have n1_ := a_ (kb_ BK110.out hb); have n2_ := a_ (below_step (bS1_ HB.out GE110.out) hb); have n3_ := a_ (hbox); have n4_ := a_ ((by rw [hg]; exact (below_size (bS1_ HB.out GE110.out)) : w.heap.size ≤ gb116)); have n5_ := a_ ((by rw [hg]; exact (below_size (bS1_ HB.out GE110.out)) : w.heap.size ≤ gb116)); have n6_ := a_ ((by rw [hg]; exact Nat.ne_of_lt (blk_lt (kv_ BK110.out)) : gb110 ≠ gb116)); have n7_ := a_ ((by rw [hg]; exact Nat.ne_of_gt (blk_lt (kv_ BK110.out)) : gb116 ≠ gb110)); clear HO_3; clear BK110; clear HB; have HO_3 := n0_; have BK110 := n1_; have HB := n2_; have BK116 := n3_; have GW116 := n4_; have GE116 := n5_; have NB110_116 := n6_; have NB116_110 := n7_; clear n0_ n1_ n2_ n3_ n4_ n5_ n6_ n7_; clear hb hbox hg; have hnb45 := NB116_110.out; have hnc45 := NB110_116.out; obtain ⟨⟨Z46_0, Y46_0⟩, ⟨Z46_1, Y46_1⟩, Z46_2, Y46_2⟩ := cs3_ BK116.out) | ((with_reducible refine gate_store (t := 44) (p := 6) rfl ?_); refine store_event (t := 44) (p := 6) (v := ?vo_w47) (w1 := (((w44.setCell ⟨gb116, 0, none⟩ (.int .i64 ((rd_T44 l0 x5_1).f0))).setCell ⟨gb116, 1, none⟩ (.string ((rd_T44 l0 x5_1).f1))).setCell ⟨gb116, 2, none⟩ (.int .i64 ((rd_T44 l0 x5_1).f2)))) ?hg ?ho ?hn ?hr ?_; (case ho => rfl); (case hg => rfl); (case hn => rfl); (case hr => first | (go_simp; done) | (go_simp; rfl)); intro w47 hw; have n0_ : Aside0 (Kd.R (Kd.int .i64) 3 w47 w.heap.size (fun _ => True) u3 x3_1) := ⟨(by rw [hw]; exact (by (with_reducible repeat (first | apply Kd.R_alloc | apply Kd.R_drewN | apply Kd.R_drew)); exact Kd.R_mono (Kd.R_far (p := ⟨gb116, 2, none⟩) (Kd.R_far (p := ⟨gb116, 1, none⟩) (Kd.R_far (p := ⟨gb116, 0, none⟩) (Kd.R_types HO_3.out BK116.out (by decide)) (fun _ hk => hk.2) (.int .i64 ((rd_T44 l0 x5_1).f0))) (fun _ hk => hk.2) (.string ((rd_T44 l0 x5_1).f1))) (fun _ hk => hk.2) (.int .i64 ((rd_T44 l0 x5_1).f2))) (fun _ hk => trivial)))⟩; have n1_ : Aside0 (w47.heap[gb110]? = some (.cells #[.int .i64 x111000_1, .int .i64 x111001_1] 26 (0, 0))) := ⟨(by rw [hw]; exact (kf1_ BK110.out NB110_116.out))⟩; have n2_ : Aside0 (w47.heap[gb116]? = some (.cells #[.int .i64 ((rd_T44 l0 x5_1).f0), .string ((rd_T44 l0 x5_1).f1), .int .i64 ((rd_T44 l0 x5_1).f2)] 44 (0, 0))) := ⟨(by rw [hw]; exact (kp0_ BK116.out))⟩; have n3_ : Aside0 (Below w.heap.size w w47) := ⟨(by rw [hw]; exact (bS2_ HB.out GE110.out GE116.out))⟩; clear hw; clear HO_3; clear BK110; clear BK116; clear HB; have HO_3 := n0_; have BK110 := n1_; have BK116 := n2_; have HB := n3_; clear n0_ n1_ n2_ n3_; obtain ⟨⟨Z48_0, Y48_0⟩, ⟨Z48_1, Y48_1⟩, Z48_2, Y48_2⟩ := cs3_ BK116.out; obtain ⟨Ao49, co49, eo49⟩ := Kd.R_slice HO_3.out; subst eo49; have q50 : ((ji40) : Int) ≤ ((x3_1.length : Int) : Int) := od_; obtain ⟨i050, hi050, _, hsz50, _⟩ := info_parts info3; have hcut50 := cut_to (P := Try.prog) 60 3 .i64 Try.underlying60 hi050 Ao49 x3_1.length co49 (ji40) (od_) q50 (Kd.R_reads' HO_3.out).2.1; have hr50 := Kd.R_take (m := ((ji40) : Int).toNat) HO_3.out (by omega); have hy50 : y120.length = ((ji40) : Int).toNat := (by rw [Ny120.out, List.length_take]; omega); rw [← Ny120.out] at hr50; rw [← hy50] at hr50 hcut50; clear hy50 hi050 hsz50 HO_3; have HO122 := a_ hr50; clear hr50; replace q50 := eq_true q50))
           go_roundg k1
           case measure => have := HK1.out; omega
           case rel => exact ⟨(y120), (true), (wrap64 (x5_1 + 1)), (x111000_1), (x111001_1), (by first | rfl | (simp; done) | (simp [*]; done)), (by first | rfl | (simp; done) | (simp [*]; done)), H', ⟨by have := HK1.out; omega⟩, ⟨by (with_reducible repeat (first | apply Kd.R_alloc | apply Kd.R_drewN | apply Kd.R_drew)); exact HO122.out⟩, ⟨kv_ BK110.out⟩, ⟨bS2_ HB.out GE110.out GE116.out⟩⟩
          ·rw [if_neg c43] at H
           have c43b0 : (((rd_T44 l0 x5_1).f0) == 1) = false := beq_eq_false_iff_ne.mpr c43
           have c43b1 : (((rd_T44 l0 x5_1).f0) != 1) = true := bne_iff_ne.mpr c43
           have H' := a_ H
           clear H
           have p115 : 0 ≤ (x5_1 : Int) := od_
           have q115 : x5_1 < (l0.length : Int) := od_
           obtain ⟨ad115, e115, hx115_0, hx115_1, hx115_2⟩ := at_T44 (Kd.C_below HR0.out HB.out) x5_1 p115 q115
           cases e115
           replace p115 := eq_true p115
           replace q115 := eq_true q115
           go_wp2_with (first | ((with_reducible refine gate_dst (N := 6) rfl ?_); refine box_event ?hg (N := 6) ?hd (cs := #[.int .i64 0, .string (⟨#[]⟩ : ByteArray), .int .i64 0]) (t := 44) ?hr ?_; (case hd => rfl); (case hg => rfl); (case hr => first | (go_simp; done) | (go_simp; rfl)); intro gb116 hg w51 hbox hb; have n0_ := a_ (Kd.R_below (rv_ HO_3.out) hb); have n1_ := a_ (kb_ BK110.out hb); have n2_ := a_ (below_step (bS1_ HB.out GE110.out) hb); have n3_ := a_ (hbox); have n4_ := a_ ((by rw [hg]; exact (below_size (bS1_ HB.out GE110.out)) : w.heap.size ≤ gb116)); have n5_ := a_ ((by rw [hg]; exact (below_size (bS1_ HB.out GE110.out)) : w.heap.size ≤ gb116)); have n6_ := a_ ((by rw [hg]; exact Nat.ne_of_lt (blk_lt (kv_ BK110.out)) : gb110 ≠ gb116)); have n7_ := a_ ((by rw [hg]; exact Nat.ne_of_gt (blk_lt (kv_ BK110.out)) : gb116 ≠ gb110)); clear HO_3; clear BK110; clear HB; have HO_3 := n0_; have BK110 := n1_; have HB := n2_; have BK116 := n3_; have GW116 := n4_; have GE116 := n5_; have NB110_116 := n6_; have NB116_110 := n7_; clear n0_ n1_ n2_ n3_ n4_ n5_ n6_ n7_; clear hb hbox hg; have hnb52 := NB116_110.out; have hnc52 := NB110_116.out; obtain ⟨⟨Z53_0, Y53_0⟩, ⟨Z53_1, Y53_1⟩, Z53_2, Y53_2⟩ := cs3_ BK116.out) | ((with_reducible refine gate_store (t := 44) (p := 6) rfl ?_); refine store_event (t := 44) (p := 6) (v := ?vo_w54) (w1 := (((w51.setCell ⟨gb116, 0, none⟩ (.int .i64 ((rd_T44 l0 x5_1).f0))).setCell ⟨gb116, 1, none⟩ (.string ((rd_T44 l0 x5_1).f1))).setCell ⟨gb116, 2, none⟩ (.int .i64 ((rd_T44 l0 x5_1).f2)))) ?hg ?ho ?hn ?hr ?_; (case ho => rfl); (case hg => rfl); (case hn => rfl); (case hr => first | (go_simp; done) | (go_simp; rfl)); intro w54 hw; have n0_ : Aside0 (Kd.R (Kd.int .i64) 3 w54 w.heap.size (fun _ => True) u3 x3_1) := ⟨(by rw [hw]; exact (by (with_reducible repeat (first | apply Kd.R_alloc | apply Kd.R_drewN | apply Kd.R_drew)); exact Kd.R_mono (Kd.R_far (p := ⟨gb116, 2, none⟩) (Kd.R_far (p := ⟨gb116, 1, none⟩) (Kd.R_far (p := ⟨gb116, 0, none⟩) (Kd.R_types HO_3.out BK116.out (by decide)) (fun _ hk => hk.2) (.int .i64 ((rd_T44 l0 x5_1).f0))) (fun _ hk => hk.2) (.string ((rd_T44 l0 x5_1).f1))) (fun _ hk => hk.2) (.int .i64 ((rd_T44 l0 x5_1).f2))) (fun _ hk => trivial)))⟩; have n1_ : Aside0 (w54.heap[gb110]? = some (.cells #[.int .i64 x111000_1, .int .i64 x111001_1] 26 (0, 0))) := ⟨(by rw [hw]; exact (kf1_ BK110.out NB110_116.out))⟩; have n2_ : Aside0 (w54.heap[gb116]? = some (.cells #[.int .i64 ((rd_T44 l0 x5_1).f0), .string ((rd_T44 l0 x5_1).f1), .int .i64 ((rd_T44 l0 x5_1).f2)] 44 (0, 0))) := ⟨(by rw [hw]; exact (kp0_ BK116.out))⟩; have n3_ : Aside0 (Below w.heap.size w w54) := ⟨(by rw [hw]; exact (bS2_ HB.out GE110.out GE116.out))⟩; clear hw; clear HO_3; clear BK110; clear BK116; clear HB; have HO_3 := n0_; have BK110 := n1_; have BK116 := n2_; have HB := n3_; clear n0_ n1_ n2_ n3_; obtain ⟨⟨Z55_0, Y55_0⟩, ⟨Z55_1, Y55_1⟩, Z55_2, Y55_2⟩ := cs3_ BK116.out; obtain ⟨Ao56, co56, eo56⟩ := Kd.R_slice HO_3.out; subst eo56; have q57 : ((ji40) : Int) ≤ ((x3_1.length : Int) : Int) := od_; obtain ⟨i057, hi057, _, hsz57, _⟩ := info_parts info3; have hcut57 := cut_to (P := Try.prog) 60 3 .i64 Try.underlying60 hi057 Ao56 x3_1.length co56 (ji40) (od_) q57 (Kd.R_reads' HO_3.out).2.1; have hr57 := Kd.R_take (m := ((ji40) : Int).toNat) HO_3.out (by omega); have hy57 : y120.length = ((ji40) : Int).toNat := (by rw [Ny120.out, List.length_take]; omega); rw [← Ny120.out] at hr57; rw [← hy57] at hr57 hcut57; clear hy57 hi057 hsz57 HO_3; have HO122 := a_ hr57; clear hr57; replace q57 := eq_true q57))
           go_roundg k1
           case measure => have := HK1.out; omega
           case rel => exact ⟨(y120), ((((rd_T44 l0 x5_1).f0) == 3)), (wrap64 (x5_1 + 1)), (x111000_1), (x111001_1), (by first | rfl | (simp; done) | (simp [*]; done)), (by first | rfl | (simp; done) | (simp [*]; done)), H', ⟨by have := HK1.out; omega⟩, ⟨by (with_reducible repeat (first | apply Kd.R_alloc | apply Kd.R_drewN | apply Kd.R_drew)); exact HO122.out⟩, ⟨kv_ BK110.out⟩, ⟨bS2_ HB.out GE110.out GE116.out⟩⟩
         ·rw [if_neg c42] at H
          exact absurd H (by simp)
        ·rw [if_neg c41] at H
         exact absurd H (by simp)
      ·rw [if_neg c33] at H
       have c33b0 : (((rd_T44 l0 x5_1).f0) == 3) = false := beq_eq_false_iff_ne.mpr c33
       have c33b1 : (((rd_T44 l0 x5_1).f0) != 3) = true := bne_iff_ne.mpr c33
       by_cases c58 : ((rd_T44 l0 x5_1).f0) = 1
       ·rw [if_pos c58] at H
        have c58b0 : (((rd_T44 l0 x5_1).f0) == 1) = true := beq_iff_eq.mpr c58
        have c58b1 : (((rd_T44 l0 x5_1).f0) != 1) = false := bne_eq_false_iff_eq.mpr c58
        clear c58
        have H' := a_ H
        clear H
        have p115 : 0 ≤ (x5_1 : Int) := od_
        have q115 : x5_1 < (l0.length : Int) := od_
        obtain ⟨ad115, e115, hx115_0, hx115_1, hx115_2⟩ := at_T44 (Kd.C_below HR0.out HB.out) x5_1 p115 q115
        cases e115
        replace p115 := eq_true p115
        replace q115 := eq_true q115
        go_wp2_with (first | ((with_reducible refine gate_dst (N := 6) rfl ?_); refine box_event ?hg (N := 6) ?hd (cs := #[.int .i64 0, .string (⟨#[]⟩ : ByteArray), .int .i64 0]) (t := 44) ?hr ?_; (case hd => rfl); (case hg => rfl); (case hr => first | (go_simp; done) | (go_simp; rfl)); intro gb116 hg w59 hbox hb; have n0_ := a_ (Kd.R_below (rv_ HO_3.out) hb); have n1_ := a_ (kb_ BK110.out hb); have n2_ := a_ (below_step (bS1_ HB.out GE110.out) hb); have n3_ := a_ (hbox); have n4_ := a_ ((by rw [hg]; exact (below_size (bS1_ HB.out GE110.out)) : w.heap.size ≤ gb116)); have n5_ := a_ ((by rw [hg]; exact (below_size (bS1_ HB.out GE110.out)) : w.heap.size ≤ gb116)); have n6_ := a_ ((by rw [hg]; exact Nat.ne_of_lt (blk_lt (kv_ BK110.out)) : gb110 ≠ gb116)); have n7_ := a_ ((by rw [hg]; exact Nat.ne_of_gt (blk_lt (kv_ BK110.out)) : gb116 ≠ gb110)); clear HO_3; clear BK110; clear HB; have HO_3 := n0_; have BK110 := n1_; have HB := n2_; have BK116 := n3_; have GW116 := n4_; have GE116 := n5_; have NB110_116 := n6_; have NB116_110 := n7_; clear n0_ n1_ n2_ n3_ n4_ n5_ n6_ n7_; clear hb hbox hg; have hnb60 := NB116_110.out; have hnc60 := NB110_116.out; obtain ⟨⟨Z61_0, Y61_0⟩, ⟨Z61_1, Y61_1⟩, Z61_2, Y61_2⟩ := cs3_ BK116.out))
        go_roundg k1
        case measure => have := HK1.out; omega
        case rel => exact ⟨(x3_1), (true), (wrap64 (x5_1 + 1)), (x111000_1), (x111001_1), (by first | rfl | (simp; done) | (simp [*]; done)), (by first | rfl | (simp; done) | (simp [*]; done)), H', ⟨by have := HK1.out; omega⟩, ⟨by (with_reducible repeat (first | apply Kd.R_alloc | apply Kd.R_drewN | apply Kd.R_drew)); exact Kd.R_mono (Kd.R_far (p := ⟨gb116, 2, none⟩) (Kd.R_far (p := ⟨gb116, 1, none⟩) (Kd.R_far (p := ⟨gb116, 0, none⟩) (Kd.R_types HO_3.out BK116.out (by decide)) (fun _ hk => hk.2) (.int .i64 ((rd_T44 l0 x5_1).f0))) (fun _ hk => hk.2) (.string ((rd_T44 l0 x5_1).f1))) (fun _ hk => hk.2) (.int .i64 ((rd_T44 l0 x5_1).f2))) (fun _ hk => trivial)⟩, ⟨kf1_ BK110.out NB110_116.out⟩, ⟨bS2_ HB.out GE110.out GE116.out⟩⟩
       ·rw [if_neg c58] at H
        have c58b0 : (((rd_T44 l0 x5_1).f0) == 1) = false := beq_eq_false_iff_ne.mpr c58
        have c58b1 : (((rd_T44 l0 x5_1).f0) != 1) = true := bne_iff_ne.mpr c58
        have H' := a_ H
        clear H
        have p115 : 0 ≤ (x5_1 : Int) := od_
        have q115 : x5_1 < (l0.length : Int) := od_
        obtain ⟨ad115, e115, hx115_0, hx115_1, hx115_2⟩ := at_T44 (Kd.C_below HR0.out HB.out) x5_1 p115 q115
        cases e115
        replace p115 := eq_true p115
        replace q115 := eq_true q115
        go_wp2_with (first | ((with_reducible refine gate_dst (N := 6) rfl ?_); refine box_event ?hg (N := 6) ?hd (cs := #[.int .i64 0, .string (⟨#[]⟩ : ByteArray), .int .i64 0]) (t := 44) ?hr ?_; (case hd => rfl); (case hg => rfl); (case hr => first | (go_simp; done) | (go_simp; rfl)); intro gb116 hg w62 hbox hb; have n0_ := a_ (Kd.R_below (rv_ HO_3.out) hb); have n1_ := a_ (kb_ BK110.out hb); have n2_ := a_ (below_step (bS1_ HB.out GE110.out) hb); have n3_ := a_ (hbox); have n4_ := a_ ((by rw [hg]; exact (below_size (bS1_ HB.out GE110.out)) : w.heap.size ≤ gb116)); have n5_ := a_ ((by rw [hg]; exact (below_size (bS1_ HB.out GE110.out)) : w.heap.size ≤ gb116)); have n6_ := a_ ((by rw [hg]; exact Nat.ne_of_lt (blk_lt (kv_ BK110.out)) : gb110 ≠ gb116)); have n7_ := a_ ((by rw [hg]; exact Nat.ne_of_gt (blk_lt (kv_ BK110.out)) : gb116 ≠ gb110)); clear HO_3; clear BK110; clear HB; have HO_3 := n0_; have BK110 := n1_; have HB := n2_; have BK116 := n3_; have GW116 := n4_; have GE116 := n5_; have NB110_116 := n6_; have NB116_110 := n7_; clear n0_ n1_ n2_ n3_ n4_ n5_ n6_ n7_; clear hb hbox hg; have hnb63 := NB116_110.out; have hnc63 := NB110_116.out; obtain ⟨⟨Z64_0, Y64_0⟩, ⟨Z64_1, Y64_1⟩, Z64_2, Y64_2⟩ := cs3_ BK116.out))
        go_roundg k1
        case measure => have := HK1.out; omega
        case rel => exact ⟨(x3_1), ((((rd_T44 l0 x5_1).f0) == 3)), (wrap64 (x5_1 + 1)), (x111000_1), (x111001_1), (by first | rfl | (simp; done) | (simp [*]; done)), (by first | rfl | (simp; done) | (simp [*]; done)), H', ⟨by have := HK1.out; omega⟩, ⟨by (with_reducible repeat (first | apply Kd.R_alloc | apply Kd.R_drewN | apply Kd.R_drew)); exact Kd.R_mono (Kd.R_far (p := ⟨gb116, 2, none⟩) (Kd.R_far (p := ⟨gb116, 1, none⟩) (Kd.R_far (p := ⟨gb116, 0, none⟩) (Kd.R_types HO_3.out BK116.out (by decide)) (fun _ hk => hk.2) (.int .i64 ((rd_T44 l0 x5_1).f0))) (fun _ hk => hk.2) (.string ((rd_T44 l0 x5_1).f1))) (fun _ hk => hk.2) (.int .i64 ((rd_T44 l0 x5_1).f2))) (fun _ hk => trivial)⟩, ⟨kf1_ BK110.out NB110_116.out⟩, ⟨bS2_ HB.out GE110.out GE116.out⟩⟩
    ·rw [if_neg c6] at H
     exact absurd H (by simp)
   ·rw [if_neg c5] at H
    have c5b0 : decide (x5_1 < (l0.length : Int)) = false := decide_eq_false c5
    clear c5
    by_cases c65 : (x3_1.length : Int) > 0
    ·rw [if_pos c65] at H
     have c65b0 : decide (0 < (x3_1.length : Int)) = true := decide_eq_true c65
     have c65b1 : decide (0 < x3_1.length) = true := decide_eq_true (by omega)
     clear c65
     obtain ⟨ji66, hji66⟩ : ∃ j_ : Int, (wrap64 ((x3_1.length : Int) - 1)) = j_ := ⟨_, rfl⟩
     replace H : (if 0 ≤ (ji66) then (if (ji66) < (x3_1.length : Int) then (some (62, rd x3_1 (ji66))) else (none)) else (none)) = some (r1, r2) := by first | (rw [hji66] at H; exact H) | (simp only [hji66] at H ⊢; exact H)
     have hji66w : (IntKind.i64.wrap ((x3_1.length : Int) - 1)) = ji66 := (i64_w _).trans hji66
     by_cases c67 : 0 ≤ (ji66)
     ·rw [if_pos c67] at H
      have c67b0 : decide (0 ≤ (ji66)) = true := decide_eq_true c67
      clear c67
      by_cases c68 : (ji66) < (x3_1.length : Int)
      ·rw [if_pos c68] at H
       have c68b0 : decide ((ji66) < (x3_1.length : Int)) = true := decide_eq_true c68
       clear c68
       simp only [Option.some.injEq, Prod.mk.injEq] at H
       obtain ⟨rfl, rfl⟩ := H
       obtain ⟨Ao69, co69, eo69⟩ := Kd.R_slice HO_3.out
       subst eo69
       have p114 : 0 ≤ ((ji66) : Int) := od_
       have q114 : (ji66) < (x3_1.length : Int) := od_
       obtain ⟨ad114, e114, hx114_0⟩ := Kd.at_int (Kd.R_reads' HO_3.out).2.2 (ji66) p114 q114
       cases e114
       replace p114 := eq_true p114
       replace q114 := eq_true q114
       obtain ⟨⟨Z70_0, Y70_0⟩, Z70_1, Y70_1⟩ := cs2_ BK110.out
       go_wp2
       refine bodyPost_ret (results_cell_row rfl _ _ gb110 26 #[.int .i64 62, .int .i64 (rd x3_1 (ji66))] (0, 0) _ rfl (kp0_ BK110.out) Try.underlying26 rfl (by kernel_rfl)) rfl ?_
       exact ⟨by first | rfl | (simp [errW_none, errW_some] <;> rfl) | (simp only [← hji66]; first | rfl | (simp [errW_none, errW_some] <;> rfl)) | (simp [*, errW_none, errW_some] <;> rfl), bS1_ HB.out GE110.out⟩
      ·rw [if_neg c68] at H
       exact absurd H (by simp)
     ·rw [if_neg c67] at H
      exact absurd H (by simp)
    ·rw [if_neg c65] at H
     have c65b0 : decide (0 < (x3_1.length : Int)) = false := decide_eq_false c65
     have c65b1 : decide (0 < x3_1.length) = false := decide_eq_false (by omega)
     clear c65
     simp only [Option.some.injEq, Prod.mk.injEq] at H
     obtain ⟨rfl, rfl⟩ := H
     obtain ⟨Ao71, co71, eo71⟩ := Kd.R_slice HO_3.out
     subst eo71
     obtain ⟨⟨Z72_0, Y72_0⟩, Z72_1, Y72_1⟩ := cs2_ BK110.out
     go_wp2
     refine bodyPost_ret (results_cell_row rfl _ _ gb110 26 #[.int .i64 0, .int .i64 0] (0, 0) _ rfl (kp0_ BK110.out) Try.underlying26 rfl (by kernel_rfl)) rfl ?_
     exact ⟨by first | rfl | (simp [errW_none, errW_some] <;> rfl) | (simp [*, errW_none, errW_some] <;> rfl), bS1_ HB.out GE110.out⟩

/-! ### variorumref06_End: function 34 -/
mutual
def variorumref06_End.l0 : Nat → List (S44) → Int → Int → Option (Int)
 | 0, _, _, _ => none
 | k + 1, x0, x5, x6 => if x6 < (x0.length : Int) then (if 0 ≤ x6 then (if ((rd_T44 x0 x6).f0) = 2 then (variorumref06_End.j1 k x0 (wrap64 (x5 + 1)) x6) else (variorumref06_End.j1 k x0 x5 x6)) else (none)) else (some (-1))
def variorumref06_End.j1 : Nat → List (S44) → Int → Int → Option (Int)
 | 0, _, _, _ => none
 | k + 1, x0, x5, x6 => if 0 ≤ x6 then (if x6 < (x0.length : Int) then (if ((rd_T44 x0 x6).f0) = 3 then (if (wrap64 (x5 - 1)) = 0 then (some x6) else (variorumref06_End.l0 k x0 (wrap64 (x5 - 1)) (wrap64 (x6 + 1)))) else (if x5 = 0 then (some x6) else (variorumref06_End.l0 k x0 x5 (wrap64 (x6 + 1))))) else (none)) else (none)
end
def variorumref06_End.f (k : Nat) (l0 : List (S44)) (a1 : Int) : Option (Int) := variorumref06_End.l0 k l0 0 a1
theorem variorumref06_End.mono_l : ∀ k, (∀ y0 y1 y2, LeO (variorumref06_End.l0 k y0 y1 y2) (variorumref06_End.l0 (k + 1) y0 y1 y2)) ∧ (∀ y0 y1 y2, LeO (variorumref06_End.j1 k y0 y1 y2) (variorumref06_End.j1 (k + 1) y0 y1 y2))
 | 0 => ⟨fun _ _ _ r h => by simp [variorumref06_End.l0] at h, fun _ _ _ r h => by simp [variorumref06_End.j1] at h⟩
 | k + 1 => by
  obtain ⟨ih0, ih1⟩ := variorumref06_End.mono_l k
  refine ⟨?_, ?_⟩
  ·intro y0 y1 y2
   unfold variorumref06_End.l0
   repeat' first | (with_reducible first | exact ih0 _ _ _ | exact ih1 _ _ _ | exact LeO.refl _ | exact LeO.none _ | refine LeO.ite ?_ ?_ | refine LeO.bind ?_ (fun _ => ?_)) | exact LeO.none _ | refine LeO.ite ?_ ?_ | refine LeO.bind ?_ (fun _ => ?_)
  ·intro y0 y1 y2
   unfold variorumref06_End.j1
   repeat' first | (with_reducible first | exact ih0 _ _ _ | exact ih1 _ _ _ | exact LeO.refl _ | exact LeO.none _ | refine LeO.ite ?_ ?_ | refine LeO.bind ?_ (fun _ => ?_)) | exact LeO.none _ | refine LeO.ite ?_ ?_ | refine LeO.bind ?_ (fun _ => ?_)
theorem variorumref06_End.mono : ∀ a0 a1 k, LeO (variorumref06_End.f k a0 a1) (variorumref06_End.f (k + 1) a0 a1) := by
 intro a0 a1 k
 obtain ⟨ih0, ih1⟩ := variorumref06_End.mono_l k
 unfold variorumref06_End.f
 repeat' first
   | (with_reducible exact ih0 _ _ _)
   | (with_reducible exact ih1 _ _ _)
   | (with_reducible exact LeO.refl _)
   | (with_reducible exact LeO.none _)
   | (with_reducible refine LeO.ite ?_ ?_)
   | (with_reducible refine LeO.bind ?_ (fun _ => ?_))
   | exact ih0 _ _ _
   | exact ih1 _ _ _
   | exact LeO.none _
   | refine LeO.ite ?_ ?_
   | refine LeO.bind ?_ (fun _ => ?_)
set_option maxHeartbeats 8000000 in
set_option maxRecDepth 100000 in
theorem variorumref06_End.calls (k : Nat) (A0 : Option Addr) (c0 : Nat) (l0 : List (S44)) (a1 : Int) (r : Int) (w : World) (hr0 : Kd.C k44 w A0 l0.length l0) (hc0 : l0.length ≤ c0) (h : variorumref06_End.f k l0 a1 = some r) :
  Calls Try.prog 34 #[.slice A0 l0.length c0, .int .i64 a1] w fun e w' => e = .returned (.int .i64 r) ∧ Drawn0 w w' := by
 have HR0 := a_ hr0
 have HC0 := a_ hc0
 clear hr0 hc0
 have H : (variorumref06_End.l0 k l0 0 a1) = some r := h
 clear h
 have H' := a_ H
 clear H
 go_enter Try.func34, Try.ntmps34
 go_wp2
 go_loopg [5, 6] k (fun kq v5 v6 w' => ∃ (x5_1 : Int) (x6_1 : Int), v5 = .int .i64 x5_1 ∧ v6 = .int .i64 x6_1 ∧ Aside0 (variorumref06_End.l0 kq l0 x5_1 x6_1 = some r) ∧ Aside0 (kq ≤ k) ∧ Drawn0 w w')
 case atStart => exact ⟨(0), (a1), (by first | rfl | (simp; done) | (simp [*]; done)), (by first | rfl | (simp; done) | (simp [*]; done)), H', ⟨Nat.le_refl _⟩, by repeat (first | exact Drawn0.refl _ | apply Drawn0.step)⟩
 case round =>
  clear H'
  try clear p2
  obtain ⟨x5_1, x6_1, rfl, rfl, HA, HK1, ⟨m1, rfl⟩⟩ := hrel
  cases gk with
  | zero => exact absurd HA.out (by simp [variorumref06_End.l0])
  | succ k1 =>
   have H := HA.out
   clear HA
   simp only [variorumref06_End.l0] at H
   by_cases c3 : x6_1 < (l0.length : Int)
   ·rw [if_pos c3] at H
    have c3b0 : decide (x6_1 < (l0.length : Int)) = true := decide_eq_true c3
    clear c3
    by_cases c4 : 0 ≤ x6_1
    ·rw [if_pos c4] at H
     have c4b0 : decide (0 ≤ x6_1) = true := decide_eq_true c4
     clear c4
     have HC5 := a_ H
     clear H
     have p123 : 0 ≤ (x6_1 : Int) := od_
     have q123 : x6_1 < (l0.length : Int) := od_
     obtain ⟨ad123, e123, hx123_0, hx123_1, hx123_2⟩ := at_T44 HR0.out x6_1 p123 q123
     cases e123
     replace p123 := eq_true p123
     replace q123 := eq_true q123
     go_upto_if 19 with (fail)
     go_cut [5] (fun v5 wc => ∃ (kq : Nat) (x5_4 : Int), v5 = .int .i64 x5_4 ∧ Aside0 (variorumref06_End.j1 kq l0 x5_4 x6_1 = some r) ∧ Aside0 (kq ≤ k1) ∧ Drawn0 w wc)
     case first =>
      have H := HC5.out
      clear HC5
      by_cases c6 : ((rd_T44 l0 x6_1).f0) = 2
      ·rw [if_pos c6] at H
       have c6b0 : (((rd_T44 l0 x6_1).f0) == 2) = true := beq_iff_eq.mpr c6
       have c6b1 : (((rd_T44 l0 x6_1).f0) != 2) = false := bne_eq_false_iff_eq.mpr c6
       clear c6
       (first | rw [c6b0] | (simp only [i64_w, i32_w]; rw [c6b0]) | skip)
       have H' := a_ H
       clear H
       go_wp2
       go_meet
       case rel => exact ⟨_, (wrap64 (x5_1 + 1)), (by first | rfl | (simp; done) | (simp [*]; done)), H', ⟨by have := HK1.out; first | omega | exact Nat.le_refl _⟩, by repeat (first | exact Drawn0.refl _ | apply Drawn0.step)⟩
      ·rw [if_neg c6] at H
       have c6b0 : (((rd_T44 l0 x6_1).f0) == 2) = false := beq_eq_false_iff_ne.mpr c6
       have c6b1 : (((rd_T44 l0 x6_1).f0) != 2) = true := bne_iff_ne.mpr c6
       (first | rw [c6b0] | (simp only [i64_w, i32_w]; rw [c6b0]) | skip)
       have H' := a_ H
       clear H
       go_wp2
       go_meet
       case rel => exact ⟨_, (x5_1), (by first | rfl | (simp; done) | (simp [*]; done)), H', ⟨by have := HK1.out; first | omega | exact Nat.le_refl _⟩, by repeat (first | exact Drawn0.refl _ | apply Drawn0.step)⟩
     case rest =>
      clear HC5
      try clear p1
      try clear q1
      try clear hx1
      try clear p2
      try clear c3
      try clear c3b0
      try clear c4
      try clear c4b0
      try clear c6
      try clear c6b0
      try clear c6b1
      try clear p6
      try clear hx123_0
      try clear hx123_1
      try clear hx123_2
      try clear p123
      try clear p2
      try clear q123
      obtain ⟨kq, x5_4, rfl, HA, HJ4, ⟨mc4, rfl⟩⟩ := hcut
      cases kq with
      | zero => exact absurd HA.out (by simp [variorumref06_End.j1])
      | succ kj4 =>
       have H := HA.out
       clear HA
       simp only [variorumref06_End.j1] at H
       by_cases c7 : 0 ≤ x6_1
       ·rw [if_pos c7] at H
        have c7b0 : decide (0 ≤ x6_1) = true := decide_eq_true c7
        clear c7
        by_cases c8 : x6_1 < (l0.length : Int)
        ·rw [if_pos c8] at H
         have c8b0 : decide (x6_1 < (l0.length : Int)) = true := decide_eq_true c8
         clear c8
         by_cases c9 : ((rd_T44 l0 x6_1).f0) = 3
         ·rw [if_pos c9] at H
          have c9b0 : (((rd_T44 l0 x6_1).f0) == 3) = true := beq_iff_eq.mpr c9
          have c9b1 : (((rd_T44 l0 x6_1).f0) != 3) = false := bne_eq_false_iff_eq.mpr c9
          clear c9
          by_cases c10 : (wrap64 (x5_4 - 1)) = 0
          ·rw [if_pos c10] at H
           have c10b0 : ((wrap64 (x5_4 - 1)) == 0) = true := beq_iff_eq.mpr c10
           have c10b1 : ((wrap64 (x5_4 - 1)) != 0) = false := bne_eq_false_iff_eq.mpr c10
           clear c10
           obtain rfl := Option.some.inj H
           have p124 : 0 ≤ (x6_1 : Int) := od_
           have q124 : x6_1 < (l0.length : Int) := od_
           obtain ⟨ad124, e124, hx124_0, hx124_1, hx124_2⟩ := at_T44 HR0.out x6_1 p124 q124
           obtain rfl : ad123 = ad124 := (by injection e124)
           replace p124 := eq_true p124
           replace q124 := eq_true q124
           go_wp2
           go_ret
           exact ⟨by first | rfl | (simp; done) | (simp [*]; done), by repeat (first | exact Drawn0.refl _ | apply Drawn0.step)⟩
          ·rw [if_neg c10] at H
           have c10b0 : ((wrap64 (x5_4 - 1)) == 0) = false := beq_eq_false_iff_ne.mpr c10
           have c10b1 : ((wrap64 (x5_4 - 1)) != 0) = true := bne_iff_ne.mpr c10
           have H' := a_ H
           clear H
           have p124 : 0 ≤ (x6_1 : Int) := od_
           have q124 : x6_1 < (l0.length : Int) := od_
           obtain ⟨ad124, e124, hx124_0, hx124_1, hx124_2⟩ := at_T44 HR0.out x6_1 p124 q124
           obtain rfl : ad123 = ad124 := (by injection e124)
           replace p124 := eq_true p124
           replace q124 := eq_true q124
           go_wp2
           go_roundg kj4
           case measure => have := HK1.out; have := HJ4.out; omega
           case rel => exact ⟨(wrap64 (x5_4 - 1)), (wrap64 (x6_1 + 1)), (by first | rfl | (simp; done) | (simp [*]; done)), (by first | rfl | (simp; done) | (simp [*]; done)), H', ⟨by have := HK1.out; have := HJ4.out; omega⟩, by repeat (first | exact Drawn0.refl _ | apply Drawn0.step)⟩
         ·rw [if_neg c9] at H
          have c9b0 : (((rd_T44 l0 x6_1).f0) == 3) = false := beq_eq_false_iff_ne.mpr c9
          have c9b1 : (((rd_T44 l0 x6_1).f0) != 3) = true := bne_iff_ne.mpr c9
          by_cases c11 : x5_4 = 0
          ·rw [if_pos c11] at H
           have c11b0 : (x5_4 == 0) = true := beq_iff_eq.mpr c11
           have c11b1 : (x5_4 != 0) = false := bne_eq_false_iff_eq.mpr c11
           clear c11
           obtain rfl := Option.some.inj H
           have p124 : 0 ≤ (x6_1 : Int) := od_
           have q124 : x6_1 < (l0.length : Int) := od_
           obtain ⟨ad124, e124, hx124_0, hx124_1, hx124_2⟩ := at_T44 HR0.out x6_1 p124 q124
           obtain rfl : ad123 = ad124 := (by injection e124)
           replace p124 := eq_true p124
           replace q124 := eq_true q124
           go_wp2
           go_ret
           exact ⟨by first | rfl | (simp; done) | (simp [*]; done), by repeat (first | exact Drawn0.refl _ | apply Drawn0.step)⟩
          ·rw [if_neg c11] at H
           have c11b0 : (x5_4 == 0) = false := beq_eq_false_iff_ne.mpr c11
           have c11b1 : (x5_4 != 0) = true := bne_iff_ne.mpr c11
           have H' := a_ H
           clear H
           have p124 : 0 ≤ (x6_1 : Int) := od_
           have q124 : x6_1 < (l0.length : Int) := od_
           obtain ⟨ad124, e124, hx124_0, hx124_1, hx124_2⟩ := at_T44 HR0.out x6_1 p124 q124
           obtain rfl : ad123 = ad124 := (by injection e124)
           replace p124 := eq_true p124
           replace q124 := eq_true q124
           go_wp2
           go_roundg kj4
           case measure => have := HK1.out; have := HJ4.out; omega
           case rel => exact ⟨(x5_4), (wrap64 (x6_1 + 1)), (by first | rfl | (simp; done) | (simp [*]; done)), (by first | rfl | (simp; done) | (simp [*]; done)), H', ⟨by have := HK1.out; have := HJ4.out; omega⟩, by repeat (first | exact Drawn0.refl _ | apply Drawn0.step)⟩
        ·rw [if_neg c8] at H
         exact absurd H (by simp)
       ·rw [if_neg c7] at H
        exact absurd H (by simp)
    ·rw [if_neg c4] at H
     exact absurd H (by simp)
   ·rw [if_neg c3] at H
    have c3b0 : decide (x6_1 < (l0.length : Int)) = false := decide_eq_false c3
    clear c3
    obtain rfl := Option.some.inj H
    go_wp2
    go_ret
    exact ⟨by first | rfl | (simp; done) | (simp [*]; done), by repeat (first | exact Drawn0.refl _ | apply Drawn0.step)⟩

end Go.Proofs.Ytjppjlhhdfkloaa.PTp

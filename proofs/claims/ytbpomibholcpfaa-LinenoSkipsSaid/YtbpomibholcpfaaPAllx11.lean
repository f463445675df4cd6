/- Written by a program of this session: functions of the given program as plain Lean functions, the walks that show it, and the row of each law, for every input that its statement speaks of. -/
import Derived.Test.YtbpomibholcpfaaPAllx0
import Derived.Test.YtbpomibholcpfaaPAllx1
import Derived.Test.YtbpomibholcpfaaPAllx3
import Derived.Test.YtbpomibholcpfaaPAllx4
import Derived.Test.YtbpomibholcpfaaPAllx5
import Derived.Test.YtbpomibholcpfaaPAllx7
namespace Go.Proofs.Ytbpomibholcpfaa.PAll
open Go.RowKit Go.Proofs.YtbpomibholcpfaaW.PrintWords Go.Proofs.YtbpomibholcpfaaW.PrintLast Go.Proofs.YtbpomibholcpfaaW.PrintMore
attribute [local go_sem] max2_int min2_int max_two min_two max_three min_three max_four min_four   -- for this text's walks alone
set_option linter.unusedVariables false
set_option linter.unusedSimpArgs false

attribute [local go_sem high] eqA26
/-! ### variorumlaw16_LinenoSkips: function 6 -/
mutual
def variorumlaw16_LinenoSkips.j0 : Nat → List (S29) → Int → List (S31) → Bool → Option (Bool)
  | 0, _, _, _, _ => none
  | k + 1, x0, x1, x5, x20 => if x20 = true then (some false) else (variorumlaw16_LinenoSkips.l0 k x0 x1 x5 (([] : List (S29))) (([] : List (S31))) 0)
def variorumlaw16_LinenoSkips.l0 : Nat → List (S29) → Int → List (S31) → List (S29) → List (S31) → Int → Option (Bool)
  | 0, _, _, _, _, _, _ => none
  | k + 1, x0, x1, x5, x6, x7, x8 => if x8 < (x0.length : Int) then (if 0 ≤ x8 then ((lineno_Unit.f ((rd_T29 x0 x8).f0) ((rd_T29 x0 x8).f1) ((rd_T29 x0 x8).f2) ((rd_T29 x0 x8).f3) ((rd_T29 x0 x8).f4) ((rd_T29 x0 x8).f5) ((rd_T29 x0 x8).f6) x1).bind fun bt256 => (if 0 < (x0.length : Int) then ((lineno_Unit.f ((rd_T29 x0 0).f0) ((rd_T29 x0 0).f1) ((rd_T29 x0 0).f2) ((rd_T29 x0 0).f3) ((rd_T29 x0 0).f4) ((rd_T29 x0 0).f5) ((rd_T29 x0 0).f6) x1).bind fun bt260 => (if (!(bt256.1 == bt260.1) || (!(bt256.2.1 == bt260.2.1) || (!(bt256.2.2 == bt260.2.2)))) = true then (some true) else (if ((rd_T29 x0 x8).f5 = true) then (variorumlaw16_LinenoSkips.l0 k x0 x1 x5 x6 x7 (wrap64 (x8 + 1))) else (if x6.length < 3518437208883 then (if x8 < (x5.length : Int) then (if x7.length < 8796093022208 then (variorumlaw16_LinenoSkips.l0 k x0 x1 x5 (x6 ++ [(⟨(rd_T29 x0 x8).f0, (rd_T29 x0 x8).f1, (rd_T29 x0 x8).f2, (rd_T29 x0 x8).f3, (rd_T29 x0 x8).f4, (rd_T29 x0 x8).f5, (rd_T29 x0 x8).f6⟩ : S29)]) (x7 ++ [(⟨(rd_T31 x5 x8).f0, (rd_T31 x5 x8).f1⟩ : S31)]) (wrap64 (x8 + 1))) else (none)) else (none)) else (none))))) else (none))) else (none)) else ((lineno_Number.f k x6 x1).bind fun t272 => ((variorumref16_Nums.f k t272 x7).bind fun t275 => (some t275)))
end
def variorumlaw16_LinenoSkips.f (k : Nat) (l0 : List (S29)) (a1 : Int) : Option (Bool) := (lineno_Number.f k l0 a1).bind fun t245 => ((variorumlaw16_fixed.f k).bind fun t248 => (if t248 = true then (variorumlaw16_LinenoSkips.j0 k l0 a1 t245 ((t245.length : Int) != (l0.length : Int))) else (variorumlaw16_LinenoSkips.j0 k l0 a1 t245 true)))
theorem variorumlaw16_LinenoSkips.mono_l : ∀ k, (∀ y0 y1 y2 y3, LeO (variorumlaw16_LinenoSkips.j0 k y0 y1 y2 y3) (variorumlaw16_LinenoSkips.j0 (k + 1) y0 y1 y2 y3)) ∧ (∀ y0 y1 y2 y3 y4 y5, LeO (variorumlaw16_LinenoSkips.l0 k y0 y1 y2 y3 y4 y5) (variorumlaw16_LinenoSkips.l0 (k + 1) y0 y1 y2 y3 y4 y5))
  | 0 => ⟨fun _ _ _ _ r h => by simp [variorumlaw16_LinenoSkips.j0] at h, fun _ _ _ _ _ _ r h => by simp [variorumlaw16_LinenoSkips.l0] at h⟩
  | k + 1 => by
    obtain ⟨ih0, ih1⟩ := variorumlaw16_LinenoSkips.mono_l k
    refine ⟨?_, ?_⟩
    · intro y0 y1 y2 y3
      unfold variorumlaw16_LinenoSkips.j0
      repeat' first
      | (with_reducible exact ih0 _ _ _ _)
      | (with_reducible exact ih1 _ _ _ _ _ _)
      | (with_reducible exact lineno_Number.mono _ _ _)
      | (with_reducible exact variorumlaw16_fixed.mono _)
      | (with_reducible exact variorumref16_Nums.mono _ _ _)
      | (with_reducible exact LeO.refl _)
      | (with_reducible exact LeO.none _)
      | (with_reducible refine LeO.ite ?_ ?_)
      | (with_reducible refine LeO.bind ?_ (fun _ => ?_))
      | exact ih0 _ _ _ _
      | exact ih1 _ _ _ _ _ _
      | exact lineno_Number.mono _ _ _
      | exact variorumlaw16_fixed.mono _
      | exact variorumref16_Nums.mono _ _ _
      | exact LeO.none _
      | refine LeO.ite ?_ ?_
      | refine LeO.bind ?_ (fun _ => ?_)
    · intro y0 y1 y2 y3 y4 y5
      unfold variorumlaw16_LinenoSkips.l0
      repeat' first
      | (with_reducible exact ih0 _ _ _ _)
      | (with_reducible exact ih1 _ _ _ _ _ _)
      | (with_reducible exact lineno_Number.mono _ _ _)
      | (with_reducible exact variorumlaw16_fixed.mono _)
      | (with_reducible exact variorumref16_Nums.mono _ _ _)
      | (with_reducible exact LeO.refl _)
      | (with_reducible exact LeO.none _)
      | (with_reducible refine LeO.ite ?_ ?_)
      | (with_reducible refine LeO.bind ?_ (fun _ => ?_))
      | exact ih0 _ _ _ _
      | exact ih1 _ _ _ _ _ _
      | exact lineno_Number.mono _ _ _
      | exact variorumlaw16_fixed.mono _
      | exact variorumref16_Nums.mono _ _ _
      | exact LeO.none _
      | refine LeO.ite ?_ ?_
      | refine LeO.bind ?_ (fun _ => ?_)
theorem variorumlaw16_LinenoSkips.mono : ∀ a0 a1 k, LeO (variorumlaw16_LinenoSkips.f k a0 a1) (variorumlaw16_LinenoSkips.f (k + 1) a0 a1) := by
  intro a0 a1 k
  obtain ⟨ih0, ih1⟩ := variorumlaw16_LinenoSkips.mono_l k
  unfold variorumlaw16_LinenoSkips.f
  repeat' first
      | (with_reducible exact ih0 _ _ _ _)
      | (with_reducible exact ih1 _ _ _ _ _ _)
      | (with_reducible exact lineno_Number.mono _ _ _)
      | (with_reducible exact variorumlaw16_fixed.mono _)
      | (with_reducible exact variorumref16_Nums.mono _ _ _)
      | (with_reducible exact LeO.refl _)
      | (with_reducible exact LeO.none _)
      | (with_reducible refine LeO.ite ?_ ?_)
      | (with_reducible refine LeO.bind ?_ (fun _ => ?_))
      | exact ih0 _ _ _ _
      | exact ih1 _ _ _ _ _ _
      | exact lineno_Number.mono _ _ _
      | exact variorumlaw16_fixed.mono _
      | exact variorumref16_Nums.mono _ _ _
      | exact LeO.none _
      | refine LeO.ite ?_ ?_
      | refine LeO.bind ?_ (fun _ => ?_)
def variorumlaw16_LinenoSkips.T9 : Bool × List (List Nat × List Nat) := (true, [([], []), ([], []), ([0, 1], [0, 1]), ([2], [2]), ([], []), ([3, 4], [3, 4]), ([], []), ([6], [6]), ([7], [7]), ([], []), ([8, 9, 5], [8, 9]), ([5, 10], [5, 10])])
def variorumlaw16_LinenoSkips.B9 : List Nat := [0, 0, 3, 7, 0, 31, 0, 64, 192, 0, 1023, 2047]
theorem variorumlaw16_LinenoSkips.tab9 : rtab .any (opsOf Try.f6 9) = variorumlaw16_LinenoSkips.T9 := by kernel_rfl
theorem variorumlaw16_LinenoSkips.bits9 : waitsOk variorumlaw16_LinenoSkips.T9.2 variorumlaw16_LinenoSkips.B9 = true := by kernel_rfl
set_option maxHeartbeats 8000000 in
set_option maxRecDepth 100000 in
theorem variorumlaw16_LinenoSkips.calls (k : Nat) (A0 : Option Addr) (c0 : Nat) (l0 : List (S29)) (a1 : Int) (r : Bool) (w : World) (hr0 : Kd.C k29 w A0 l0.length l0) (hc0 : l0.length ≤ c0) (h : variorumlaw16_LinenoSkips.f k l0 a1 = some r) :
    Calls Try.prog 6 #[.slice A0 l0.length c0, .int .i64 a1] w fun e w' => e = .returned (.bool r) ∧ Below w.heap.size w w' := by
  have hu29 := Try.underlying29
  have hu31 := Try.underlying31
  have HR0 := Aside0.mk hr0
  have HC0 := Aside0.mk hc0
  clear hr0 hc0
  have HB := Aside0.mk (Below.refl w.heap.size w)
  have H : ((lineno_Number.f k l0 a1).bind fun t245 => ((variorumlaw16_fixed.f k).bind fun t248 => (if t248 = true then (variorumlaw16_LinenoSkips.j0 k l0 a1 t245 ((t245.length : Int) != (l0.length : Int))) else (variorumlaw16_LinenoSkips.j0 k l0 a1 t245 true)))) = some r := h
  clear h
  replace H := Option.bind_eq_some_iff.mp H
  obtain ⟨t245, A30, H⟩ := H
  replace H : ((variorumlaw16_fixed.f k).bind fun t248 => (if t248 = true then (variorumlaw16_LinenoSkips.j0 k l0 a1 t245 ((t245.length : Int) != (l0.length : Int))) else (variorumlaw16_LinenoSkips.j0 k l0 a1 t245 true))) = some r := H
  have A3 := Aside0.mk A30
  clear A30
  have HC4 := Aside0.mk H
  clear H
  go_enter Try.func6, Try.ntmps6
  go_upto_region 2 with (first | ((with_reducible refine gate_callee (f := 7) rfl ?_); refine goesL_ (some 11) rfl rfl Try.func7 (by kernel_rfl) rfl #[.slice A0 l0.length c0, .int .i64 a1] rfl (by (try simp only [List.map_toArray, List.map_cons, List.map_nil]); first | done | rfl | (simp only [List.length_drop, List.length_take]; rfl) | (simp only [*]; first | done | rfl)) ?_; (with_reducible refine (lineno_Number.calls k _ _ l0 a1 t245 _ ?side1 ?side2 A3.out).mono ?_); (case side1 => repeat (first | exact HR0.out | (with_reducible refine Kd.C_alloc ?_ _) | (with_reducible refine Kd.C_drewN ?_ _) | (with_reducible refine Kd.C_drew ?_))); (case side2 => exact HC0.out); rintro e w5 ⟨v246, rfl, ho0, hb⟩; refine ⟨_, rfl, ?_⟩; have n0_ := Aside0.mk (Kd.R_lower ho0 (below_size (by repeat (first | (with_reducible first | exact HB.out | apply below_alloc | apply pw_below_drewN | apply below_drew1) | exact HB.out)))); have n1_ := Aside0.mk (below_step (by repeat (first | (with_reducible first | exact HB.out | apply below_alloc | apply pw_below_drewN | apply below_drew1) | exact HB.out)) hb); clear HB; have HO247 := n0_; have HB := n1_; clear n0_ n1_; (try clear hb); (try clear hb2); (try clear hk); (try clear hi); (try clear ho0)))
  (try simp only [Act.put, List.setIfInBounds_toArray, List.set_cons_zero, List.set_cons_succ])
  go_cut [20] (fun v20 wc => ∃ (kq : Nat) (x20_3 : Bool), v20 = .bool x20_3 ∧ Aside0 (variorumlaw16_LinenoSkips.j0 kq l0 a1 t245 x20_3 = some r) ∧ Aside0 (kq ≤ k) ∧ Aside0 (Kd.R k31 31 wc w.heap.size (fun _ => True) v246 t245) ∧ Aside0 (Below w.heap.size w wc))
  case first =>
    have H := HC4.out
    clear HC4
    replace H := Option.bind_eq_some_iff.mp H
    obtain ⟨t248, A60, H⟩ := H
    replace H : (if t248 = true then (variorumlaw16_LinenoSkips.j0 k l0 a1 t245 ((t245.length : Int) != (l0.length : Int))) else (variorumlaw16_LinenoSkips.j0 k l0 a1 t245 true)) = some r := H
    have A6 := Aside0.mk A60
    clear A60
    by_cases c7 : t248 = true
    · subst c7
      have H1 : (variorumlaw16_LinenoSkips.j0 k l0 a1 t245 ((t245.length : Int) != (l0.length : Int))) = some r := by rw [if_pos rfl] at H; exact H
      clear H
      have H := H1
      clear H1
      have H' := Aside0.mk H
      clear H
      go_wp2_with (first | ((with_reducible refine gate_callee (f := 8) rfl ?_); refine goesL_ (some 12) rfl rfl Try.func8 (by kernel_rfl) rfl #[] rfl (by (try simp only [List.map_toArray, List.map_cons, List.map_nil]); first | done | rfl | (simp only [List.length_drop, List.length_take]; rfl) | (simp only [*]; first | done | rfl)) ?_; (with_reducible refine (variorumlaw16_fixed.calls k  true _ A6.out).mono ?_); rintro e w8 ⟨rfl, hb⟩; refine ⟨_, rfl, ?_⟩; have n0_ := Aside0.mk (Kd.R_below (by (with_reducible repeat (first | apply Kd.R_alloc | apply Kd.R_drewN | apply Kd.R_drew)); exact HO247.out) hb); have n1_ := Aside0.mk (below_step (by repeat (first | (with_reducible first | exact HB.out | apply below_alloc | apply pw_below_drewN | apply below_drew1) | exact HB.out)) hb); clear HO247; clear HB; have HO247 := n0_; have HB := n1_; clear n0_ n1_; (try clear hb); (try clear hb2); (try clear hk); (try clear hi); obtain ⟨Ao9, co9, eo9⟩ := Kd.R_slice HO247.out; subst eo9))
      go_meet
      case rel => exact ⟨_, (((t245.length : Int) != (l0.length : Int))), (by first | rfl | (simp; done) | (simp [*]; done)), H', ⟨by first | omega | exact Nat.le_refl _⟩, ⟨by (with_reducible repeat (first | apply Kd.R_alloc | apply Kd.R_drewN | apply Kd.R_drew)); exact HO247.out⟩, ⟨by repeat (first | (with_reducible first | exact HB.out | apply below_alloc | apply pw_below_drewN | apply below_drew1) | exact HB.out)⟩⟩
    · replace c7 := Bool.eq_false_iff.mpr c7
      subst c7
      have H1 : (variorumlaw16_LinenoSkips.j0 k l0 a1 t245 true) = some r := by rw [if_neg (show ¬ (false = true) by decide)] at H; exact H
      clear H
      have H := H1
      clear H1
      have H' := Aside0.mk H
      clear H
      go_wp2_with (first | ((with_reducible refine gate_callee (f := 8) rfl ?_); refine goesL_ (some 12) rfl rfl Try.func8 (by kernel_rfl) rfl #[] rfl (by (try simp only [List.map_toArray, List.map_cons, List.map_nil]); first | done | rfl | (simp only [List.length_drop, List.length_take]; rfl) | (simp only [*]; first | done | rfl)) ?_; (with_reducible refine (variorumlaw16_fixed.calls k  false _ A6.out).mono ?_); rintro e w10 ⟨rfl, hb⟩; refine ⟨_, rfl, ?_⟩; have n0_ := Aside0.mk (Kd.R_below (by (with_reducible repeat (first | apply Kd.R_alloc | apply Kd.R_drewN | apply Kd.R_drew)); exact HO247.out) hb); have n1_ := Aside0.mk (below_step (by repeat (first | (with_reducible first | exact HB.out | apply below_alloc | apply pw_below_drewN | apply below_drew1) | exact HB.out)) hb); clear HO247; clear HB; have HO247 := n0_; have HB := n1_; clear n0_ n1_; (try clear hb); (try clear hb2); (try clear hk); (try clear hi)))
      go_meet
      case rel => exact ⟨_, (true), (by first | rfl | (simp; done) | (simp [*]; done)), H', ⟨by first | omega | exact Nat.le_refl _⟩, ⟨by (with_reducible repeat (first | apply Kd.R_alloc | apply Kd.R_drewN | apply Kd.R_drew)); exact HO247.out⟩, ⟨by repeat (first | (with_reducible first | exact HB.out | apply below_alloc | apply pw_below_drewN | apply below_drew1) | exact HB.out)⟩⟩
  case rest =>
    clear HC4
    try clear p2
    try clear c6
    try clear c7
    try clear c8
    obtain ⟨kq, x20_3, rfl, HA, HJ3, HO_5, HB⟩ := hcut
    cases kq with
    | zero => exact absurd HA.out (by simp [variorumlaw16_LinenoSkips.j0])
    | succ kj3 =>
      have H := HA.out
      clear HA
      simp only [variorumlaw16_LinenoSkips.j0] at H
      by_cases c11 : x20_3 = true
      · subst c11
        have H1 : (some false) = some r := by rw [if_pos rfl] at H; exact H
        clear H
        have H := H1
        clear H1
        obtain rfl := Option.some.inj H
        go_wp2
        go_ret
        exact ⟨by first | rfl | (simp [errW_none, errW_some] <;> rfl) | (simp [*, errW_none, errW_some] <;> rfl), by repeat (first | (with_reducible first | exact HB.out | apply below_alloc | apply pw_below_drewN | apply below_drew1) | exact HB.out)⟩
      · replace c11 := Bool.eq_false_iff.mpr c11
        subst c11
        have H1 : (variorumlaw16_LinenoSkips.l0 kj3 l0 a1 t245 (([] : List (S29))) (([] : List (S31))) 0) = some r := by rw [if_neg (show ¬ (false = true) by decide)] at H; exact H
        clear H
        have H := H1
        clear H1
        obtain ⟨y249, hy249⟩ : ∃ y_ : List (S29), y_ = (([] : List (S29))) := ⟨_, rfl⟩
        replace H : (variorumlaw16_LinenoSkips.l0 kj3 l0 a1 t245 y249 (([] : List (S31))) 0) = some r := by first | (rw [hy249]; with_reducible exact H) | (have H2_ := (Option.bind_some _ _).symm.trans H; rw [hy249]; with_reducible exact H2_) | (have H2_ := (Option.bind_some _ _).symm.trans H; with_reducible exact H2_) | with_reducible exact H | (rw [hy249]; exact H) | exact H
        have Ny249 := Aside0.mk hy249
        clear hy249
        obtain ⟨y252, hy252⟩ : ∃ y_ : List (S31), y_ = (([] : List (S31))) := ⟨_, rfl⟩
        replace H : (variorumlaw16_LinenoSkips.l0 kj3 l0 a1 t245 y249 y252 0) = some r := by first | (rw [hy252]; with_reducible exact H) | (have H2_ := (Option.bind_some _ _).symm.trans H; rw [hy252]; with_reducible exact H2_) | (have H2_ := (Option.bind_some _ _).symm.trans H; with_reducible exact H2_) | with_reducible exact H | (rw [hy252]; exact H) | exact H
        have Ny252 := Aside0.mk hy252
        clear hy252
        have H' := Aside0.mk H
        clear H
        go_wp2_with (first | ((with_reducible refine gate_dst (N := 21) rfl ?_); (try (refine gate_guard (by rfl) ?_; dsimp only)); refine Kd.R_lit k29 _ 29 ?hg (N := 21) ?hd (xs := ([] : List (S29))) (inner := []) (ok := fun _ => True) (okp := fun _ => True) ?hr ?hp (fun _ hk => hk) trivial (Below.refl _ _) (Nat.le_refl _) (by simp) ?_; (case hd => rfl); (case hg => rfl); (case hr => first | (go_simp; done) | (go_simp; rfl)); (case hp => exact (Reps.none _ _)); intro v250 w12 ho13 hb hg_ hnew_; clear hg_ hnew_; (first | rw [← Ny249.out] at ho13 | (simp only [Int.reduceToNat] at ho13; rw [← Ny249.out] at ho13)); have n0_ := Aside0.mk (Kd.R_below (by (with_reducible repeat (first | apply Kd.R_alloc | apply Kd.R_drewN | apply Kd.R_drew)); exact HO_5.out) hb); have n1_ := Aside0.mk (Kd.R_lower ho13 (below_size (by repeat (first | (with_reducible first | exact HB.out | apply below_alloc | apply pw_below_drewN | apply below_drew1) | exact HB.out)))); have n2_ := Aside0.mk (below_step (by repeat (first | (with_reducible first | exact HB.out | apply below_alloc | apply pw_below_drewN | apply below_drew1) | exact HB.out)) hb); clear HO_5; clear HB; have HO_5 := n0_; have HO251 := n1_; have HB := n2_; clear n0_ n1_ n2_; clear hb ho13) | ((with_reducible refine gate_dst (N := 22) rfl ?_); (try (refine gate_guard (by rfl) ?_; dsimp only)); refine Kd.R_lit k31 _ 31 ?hg (N := 22) ?hd (xs := ([] : List (S31))) (inner := []) (ok := fun _ => True) (okp := fun _ => True) ?hr ?hp (fun _ hk => hk) trivial (Below.refl _ _) (Nat.le_refl _) (by simp) ?_; (case hd => rfl); (case hg => rfl); (case hr => first | (go_simp; done) | (go_simp; rfl)); (case hp => exact (Reps.none _ _)); intro v253 w14 ho15 hb hg_ hnew_; clear hg_ hnew_; (first | rw [← Ny252.out] at ho15 | (simp only [Int.reduceToNat] at ho15; rw [← Ny252.out] at ho15)); have n0_ := Aside0.mk (Kd.R_elder' (by (with_reducible repeat (first | apply Kd.R_alloc | apply Kd.R_drewN | apply Kd.R_drew)); exact HO_5.out) (Kd.R_base ho15) hb); have n1_ := Aside0.mk (Kd.R_below (by (with_reducible repeat (first | apply Kd.R_alloc | apply Kd.R_drewN | apply Kd.R_drew)); exact HO251.out) hb); have n2_ := Aside0.mk (Kd.R_lower (Kd.R_new' ho15 (Kd.R_lt (by (with_reducible repeat (first | apply Kd.R_alloc | apply Kd.R_drewN | apply Kd.R_drew)); exact HO_5.out))) (below_size (by repeat (first | (with_reducible first | exact HB.out | apply below_alloc | apply pw_below_drewN | apply below_drew1) | exact HB.out)))); have n3_ := Aside0.mk (below_step (by repeat (first | (with_reducible first | exact HB.out | apply below_alloc | apply pw_below_drewN | apply below_drew1) | exact HB.out)) hb); clear HO_5; clear HO251; clear HB; have HO_5 := n0_; have HO251 := n1_; have HO254 := n2_; have HB := n3_; clear n0_ n1_ n2_ n3_; clear hb ho15))
        go_loopg [6, 7, 8] kj3 (fun kq v6 v7 v8 w' => ∃ (x6_2 : List (S29)) (x7_2 : List (S31)) (x8_2 : Int), v8 = .int .i64 x8_2 ∧ Aside0 (variorumlaw16_LinenoSkips.l0 kq l0 a1 t245 x6_2 x7_2 x8_2 = some r) ∧ Aside0 (kq ≤ kj3) ∧ Aside0 (Kd.R k31 31 w' w.heap.size (fun k_ => some k_ ≠ (v7 : Value).ownBlock) v246 t245) ∧ Aside0 (Kd.R k29 29 w' w.heap.size (fun _ => True) v6 x6_2) ∧ Aside0 (Kd.R k31 31 w' w.heap.size (fun k_ => some k_ ≠ (v246 : Value).ownBlock) v7 x7_2) ∧ Aside0 (Below w.heap.size w w'))
        case atStart => exact ⟨(y249), (y252), (0), (by first | rfl | (simp; done) | (simp [*]; done)), H', ⟨Nat.le_refl _⟩, ⟨by (with_reducible repeat (first | apply Kd.R_alloc | apply Kd.R_drewN | apply Kd.R_drew)); exact Kd.R_mono HO_5.out (fun _ hk => hk.2)⟩, ⟨by (with_reducible repeat (first | apply Kd.R_alloc | apply Kd.R_drewN | apply Kd.R_drew)); exact HO251.out⟩, ⟨by (with_reducible repeat (first | apply Kd.R_alloc | apply Kd.R_drewN | apply Kd.R_drew)); exact Kd.R_mono HO254.out (fun _ hk => hk.2)⟩, ⟨by repeat (first | (with_reducible first | exact HB.out | apply below_alloc | apply pw_below_drewN | apply below_drew1) | exact HB.out)⟩⟩
        case round =>
          clear H'
          try clear c1
          try clear p2
          try clear c6
          try clear c7
          try clear c8
          try clear c11
          try clear p2
          obtain ⟨x6_2, x7_2, x8_2, rfl, HA, HK2, HO_5, HO_6, HO_7, HB⟩ := hrel
          cases gk with
          | zero => exact absurd HA.out (by simp [variorumlaw16_LinenoSkips.l0])
          | succ k2 =>
            have H := HA.out
            clear HA
            simp only [variorumlaw16_LinenoSkips.l0] at H
            by_cases c16 : x8_2 < (l0.length : Int)
            · rw [if_pos c16] at H
              have c16b0 : decide (x8_2 < (l0.length : Int)) = true := decide_eq_true c16
              clear c16
              by_cases c17 : 0 ≤ x8_2
              · rw [if_pos c17] at H
                have c17b0 : decide (0 ≤ x8_2) = true := decide_eq_true c17
                clear c17
                replace H := Option.bind_eq_some_iff.mp H
                obtain ⟨⟨t256, t257, t258⟩, A180, H⟩ := H
                replace H : (if 0 < (l0.length : Int) then ((lineno_Unit.f ((rd_T29 l0 0).f0) ((rd_T29 l0 0).f1) ((rd_T29 l0 0).f2) ((rd_T29 l0 0).f3) ((rd_T29 l0 0).f4) ((rd_T29 l0 0).f5) ((rd_T29 l0 0).f6) a1).bind fun bt260 => (if (!(t256 == bt260.1) || (!(t257 == bt260.2.1) || (!(t258 == bt260.2.2)))) = true then (some true) else (if ((rd_T29 l0 x8_2).f5 = true) then (variorumlaw16_LinenoSkips.l0 k2 l0 a1 t245 x6_2 x7_2 (wrap64 (x8_2 + 1))) else (if x6_2.length < 3518437208883 then (if x8_2 < (t245.length : Int) then (if x7_2.length < 8796093022208 then (variorumlaw16_LinenoSkips.l0 k2 l0 a1 t245 (x6_2 ++ [(⟨(rd_T29 l0 x8_2).f0, (rd_T29 l0 x8_2).f1, (rd_T29 l0 x8_2).f2, (rd_T29 l0 x8_2).f3, (rd_T29 l0 x8_2).f4, (rd_T29 l0 x8_2).f5, (rd_T29 l0 x8_2).f6⟩ : S29)]) (x7_2 ++ [(⟨(rd_T31 t245 x8_2).f0, (rd_T31 t245 x8_2).f1⟩ : S31)]) (wrap64 (x8_2 + 1))) else (none)) else (none)) else (none))))) else (none)) = some r := H
                have A18 := Aside0.mk A180
                clear A180
                by_cases c19 : 0 < (l0.length : Int)
                · rw [if_pos c19] at H
                  have c19b0 : decide (0 < (l0.length : Int)) = true := decide_eq_true c19
                  have c19b1 : decide (0 < l0.length) = true := decide_eq_true (by omega)
                  clear c19
                  replace H := Option.bind_eq_some_iff.mp H
                  obtain ⟨⟨t260, t261, t262⟩, A200, H⟩ := H
                  replace H : (if (!(t256 == t260) || (!(t257 == t261) || (!(t258 == t262)))) = true then (some true) else (if ((rd_T29 l0 x8_2).f5 = true) then (variorumlaw16_LinenoSkips.l0 k2 l0 a1 t245 x6_2 x7_2 (wrap64 (x8_2 + 1))) else (if x6_2.length < 3518437208883 then (if x8_2 < (t245.length : Int) then (if x7_2.length < 8796093022208 then (variorumlaw16_LinenoSkips.l0 k2 l0 a1 t245 (x6_2 ++ [(⟨(rd_T29 l0 x8_2).f0, (rd_T29 l0 x8_2).f1, (rd_T29 l0 x8_2).f2, (rd_T29 l0 x8_2).f3, (rd_T29 l0 x8_2).f4, (rd_T29 l0 x8_2).f5, (rd_T29 l0 x8_2).f6⟩ : S29)]) (x7_2 ++ [(⟨(rd_T31 t245 x8_2).f0, (rd_T31 t245 x8_2).f1⟩ : S31)]) (wrap64 (x8_2 + 1))) else (none)) else (none)) else (none)))) = some r := H
                  have A20 := Aside0.mk A200
                  clear A200
                  by_cases c21 : (!(t256 == t260) || (!(t257 == t261) || (!(t258 == t262)))) = true
                  · rw [if_pos c21] at H
                    have c21b0 : (!(t256 == t260) || (!(t257 == t261) || (!(t258 == t262)))) = true := c21
                    clear c21
                    obtain rfl := Option.some.inj H
                    try go_wp2
                    have n0_ := Aside0.mk (Kd.R_drew HO_5.out)
                    have n1_ := Aside0.mk (Kd.R_drew HO_6.out)
                    have n2_ := Aside0.mk (Kd.R_drew HO_7.out)
                    have n3_ := Aside0.mk (below_drew1 HB.out)
                    clear HO_5
                    clear HO_6
                    clear HO_7
                    clear HB
                    have HO_5 := n0_
                    have HO_6 := n1_
                    have HO_7 := n2_
                    have HB := n3_
                    clear n0_ n1_ n2_ n3_
                    have p255 : 0 ≤ (x8_2 : Int) := of_decide_eq_true (by first | (with_reducible assumption) | assumption)
                    have q255 : x8_2 < (l0.length : Int) := of_decide_eq_true (by first | (with_reducible assumption) | assumption)
                    obtain ⟨ad255, e255, hx255_0, hx255_1, hx255_2, hx255_3, hx255_4, hx255_5, hx255_6⟩ := at_T29 HR0.out x8_2 p255 q255
                    have hw255_6 := hx255_6
                    have hw255_5 := hx255_5
                    have hw255_4 := hx255_4
                    have hw255_3 := hx255_3
                    have hw255_2 := hx255_2
                    have hw255_1 := hx255_1
                    have hw255_0 := hx255_0
                    cases e255
                    replace hx255_0 := (HB.out.cell (World.block_lt_of_cell? w _ hx255_0)).trans hx255_0
                    replace hx255_1 := (HB.out.cell (World.block_lt_of_cell? w _ hx255_1)).trans hx255_1
                    replace hx255_2 := (HB.out.cell (World.block_lt_of_cell? w _ hx255_2)).trans hx255_2
                    replace hx255_3 := (HB.out.cell (World.block_lt_of_cell? w _ hx255_3)).trans hx255_3
                    replace hx255_4 := (HB.out.cell (World.block_lt_of_cell? w _ hx255_4)).trans hx255_4
                    replace hx255_5 := (HB.out.cell (World.block_lt_of_cell? w _ hx255_5)).trans hx255_5
                    replace hx255_6 := (HB.out.cell (World.block_lt_of_cell? w _ hx255_6)).trans hx255_6
                    replace p255 := eq_true p255
                    replace q255 := eq_true q255
                    have p259 : 0 ≤ (0 : Int) := (by omega)
                    have q259 : 0 < (l0.length : Int) := of_decide_eq_true (by first | (with_reducible assumption) | assumption)
                    obtain ⟨ad259, e259, hx259_0, hx259_1, hx259_2, hx259_3, hx259_4, hx259_5, hx259_6⟩ := at_T29 HR0.out 0 p259 q259
                    have hw259_6 := hx259_6
                    (try rw [show ((0 : Int)).toNat = 0 from rfl] at hw259_6)
                    (try rw [show 0 * 7 = 0 from rfl] at hw259_6)
                    (try rw [Addr.add_zero'] at hw259_6)
                    have hw259_5 := hx259_5
                    (try rw [show ((0 : Int)).toNat = 0 from rfl] at hw259_5)
                    (try rw [show 0 * 7 = 0 from rfl] at hw259_5)
                    (try rw [Addr.add_zero'] at hw259_5)
                    have hw259_4 := hx259_4
                    (try rw [show ((0 : Int)).toNat = 0 from rfl] at hw259_4)
                    (try rw [show 0 * 7 = 0 from rfl] at hw259_4)
                    (try rw [Addr.add_zero'] at hw259_4)
                    have hw259_3 := hx259_3
                    (try rw [show ((0 : Int)).toNat = 0 from rfl] at hw259_3)
                    (try rw [show 0 * 7 = 0 from rfl] at hw259_3)
                    (try rw [Addr.add_zero'] at hw259_3)
                    have hw259_2 := hx259_2
                    (try rw [show ((0 : Int)).toNat = 0 from rfl] at hw259_2)
                    (try rw [show 0 * 7 = 0 from rfl] at hw259_2)
                    (try rw [Addr.add_zero'] at hw259_2)
                    have hw259_1 := hx259_1
                    (try rw [show ((0 : Int)).toNat = 0 from rfl] at hw259_1)
                    (try rw [show 0 * 7 = 0 from rfl] at hw259_1)
                    (try rw [Addr.add_zero'] at hw259_1)
                    have hw259_0 := hx259_0
                    (try rw [show ((0 : Int)).toNat = 0 from rfl] at hw259_0)
                    (try rw [show 0 * 7 = 0 from rfl] at hw259_0)
                    (try rw [Addr.add_zero'] at hw259_0)
                    obtain rfl : ad255 = ad259 := (by injection e259)
                    have qi259 : (0 < l0.length) = True := eq_true (by omega)
                    (try rw [show ((0 : Int)).toNat = 0 from rfl] at hx259_0)
                    (try rw [show 0 * 7 = 0 from rfl] at hx259_0)
                    (try rw [Addr.add_zero'] at hx259_0)
                    (try rw [show ((0 : Int)).toNat = 0 from rfl] at hx259_1)
                    (try rw [show 0 * 7 = 0 from rfl] at hx259_1)
                    (try rw [Addr.add_zero'] at hx259_1)
                    (try rw [show ((0 : Int)).toNat = 0 from rfl] at hx259_2)
                    (try rw [show 0 * 7 = 0 from rfl] at hx259_2)
                    (try rw [Addr.add_zero'] at hx259_2)
                    (try rw [show ((0 : Int)).toNat = 0 from rfl] at hx259_3)
                    (try rw [show 0 * 7 = 0 from rfl] at hx259_3)
                    (try rw [Addr.add_zero'] at hx259_3)
                    (try rw [show ((0 : Int)).toNat = 0 from rfl] at hx259_4)
                    (try rw [show 0 * 7 = 0 from rfl] at hx259_4)
                    (try rw [Addr.add_zero'] at hx259_4)
                    (try rw [show ((0 : Int)).toNat = 0 from rfl] at hx259_5)
                    (try rw [show 0 * 7 = 0 from rfl] at hx259_5)
                    (try rw [Addr.add_zero'] at hx259_5)
                    (try rw [show ((0 : Int)).toNat = 0 from rfl] at hx259_6)
                    (try rw [show 0 * 7 = 0 from rfl] at hx259_6)
                    (try rw [Addr.add_zero'] at hx259_6)
                    replace hx259_0 := (HB.out.cell (World.block_lt_of_cell? w _ hx259_0)).trans hx259_0
                    replace hx259_1 := (HB.out.cell (World.block_lt_of_cell? w _ hx259_1)).trans hx259_1
                    replace hx259_2 := (HB.out.cell (World.block_lt_of_cell? w _ hx259_2)).trans hx259_2
                    replace hx259_3 := (HB.out.cell (World.block_lt_of_cell? w _ hx259_3)).trans hx259_3
                    replace hx259_4 := (HB.out.cell (World.block_lt_of_cell? w _ hx259_4)).trans hx259_4
                    replace hx259_5 := (HB.out.cell (World.block_lt_of_cell? w _ hx259_5)).trans hx259_5
                    replace hx259_6 := (HB.out.cell (World.block_lt_of_cell? w _ hx259_6)).trans hx259_6
                    replace p259 := eq_true p259
                    replace q259 := eq_true q259
                    refine start_ (n := 12) (S := fun w' => w'.cell? (ad255.add ((x8_2).toNat * 7)) = some (.int .i64 ((rd_T29 l0 x8_2).f0)) ∧ w'.cell? ⟨(ad255.add ((x8_2).toNat * 7)).block, (ad255.add ((x8_2).toNat * 7)).off + 1, none⟩ = some (.int .i64 ((rd_T29 l0 x8_2).f1)) ∧ w'.cell? ⟨(ad255.add ((x8_2).toNat * 7)).block, (ad255.add ((x8_2).toNat * 7)).off + 2, none⟩ = some (.int .i64 ((rd_T29 l0 x8_2).f2)) ∧ w'.cell? ⟨(ad255.add ((x8_2).toNat * 7)).block, (ad255.add ((x8_2).toNat * 7)).off + 3, none⟩ = some (.int .i64 ((rd_T29 l0 x8_2).f3)) ∧ w'.cell? ⟨(ad255.add ((x8_2).toNat * 7)).block, (ad255.add ((x8_2).toNat * 7)).off + 4, none⟩ = some (.bool ((rd_T29 l0 x8_2).f4)) ∧ w'.cell? ⟨(ad255.add ((x8_2).toNat * 7)).block, (ad255.add ((x8_2).toNat * 7)).off + 5, none⟩ = some (.bool ((rd_T29 l0 x8_2).f5)) ∧ w'.cell? ⟨(ad255.add ((x8_2).toNat * 7)).block, (ad255.add ((x8_2).toNat * 7)).off + 6, none⟩ = some (.bool ((rd_T29 l0 x8_2).f6)) ∧ w'.cell? ad255 = some (.int .i64 ((rd_T29 l0 0).f0)) ∧ w'.cell? ⟨ad255.block, ad255.off + 1, none⟩ = some (.int .i64 ((rd_T29 l0 0).f1)) ∧ w'.cell? ⟨ad255.block, ad255.off + 2, none⟩ = some (.int .i64 ((rd_T29 l0 0).f2)) ∧ w'.cell? ⟨ad255.block, ad255.off + 3, none⟩ = some (.int .i64 ((rd_T29 l0 0).f3)) ∧ w'.cell? ⟨ad255.block, ad255.off + 4, none⟩ = some (.bool ((rd_T29 l0 0).f4)) ∧ w'.cell? ⟨ad255.block, ad255.off + 5, none⟩ = some (.bool ((rd_T29 l0 0).f5)) ∧ w'.cell? ⟨ad255.block, ad255.off + 6, none⟩ = some (.bool ((rd_T29 l0 0).f6))) (ds := []) #[false, false, false, false, false, false, false, false, false, false, false, false] (by kernel_rfl) rfl rfl ⟨((HB.out.cell (World.block_lt_of_cell? w _ hw255_0)).trans hw255_0), ((HB.out.cell (World.block_lt_of_cell? w _ hw255_1)).trans hw255_1), ((HB.out.cell (World.block_lt_of_cell? w _ hw255_2)).trans hw255_2), ((HB.out.cell (World.block_lt_of_cell? w _ hw255_3)).trans hw255_3), ((HB.out.cell (World.block_lt_of_cell? w _ hw255_4)).trans hw255_4), ((HB.out.cell (World.block_lt_of_cell? w _ hw255_5)).trans hw255_5), ((HB.out.cell (World.block_lt_of_cell? w _ hw255_6)).trans hw255_6), ((HB.out.cell (World.block_lt_of_cell? w _ hw259_0)).trans hw259_0), ((HB.out.cell (World.block_lt_of_cell? w _ hw259_1)).trans hw259_1), ((HB.out.cell (World.block_lt_of_cell? w _ hw259_2)).trans hw259_2), ((HB.out.cell (World.block_lt_of_cell? w _ hw259_3)).trans hw259_3), ((HB.out.cell (World.block_lt_of_cell? w _ hw259_4)).trans hw259_4), ((HB.out.cell (World.block_lt_of_cell? w _ hw259_5)).trans hw259_5), ((HB.out.cell (World.block_lt_of_cell? w _ hw259_6)).trans hw259_6)⟩ (fun hHeld => ?_); refine with_tabW variorumlaw16_LinenoSkips.tab9 variorumlaw16_LinenoSkips.bits9 (fun HT_ HW_ => ?_)
                    generalize wr.drew = w22 at HO_5 HO_6 HO_7 HB hx255_0 hx255_1 hx255_2 hx255_3 hx255_4 hx255_5 hx255_6 hx259_0 hx259_1 hx259_2 hx259_3 hx259_4 hx259_5 hx259_6 hHeld ⊢
                    refine pure_ (i := 0) (N := some 29) (v := ?_) (a' := ?_) #[true, false, false, false, false, false, false, false, false, false, false, false] rfl rfl (any_of HT_.out (by kernel_rfl)) (fun _ _ _ h => h) (Or.inl ⟨by rfl, ?_⟩) ?_ ?_
                    rotate_left
                    · intro w'
                      go_simp
                      with_reducible rfl
                    rotate_left
                    · simp only [Act.put, List.setIfInBounds_toArray, List.set_cons_zero, List.set_cons_succ, i64_w, i32_w]
                      rfl
                    refine pure_ (i := 1) (N := some 30) (v := ?_) (a' := ?_) #[true, true, false, false, false, false, false, false, false, false, false, false] rfl rfl (any_of HT_.out (by kernel_rfl)) (fun _ _ _ h => h) (Or.inl ⟨by rfl, ?_⟩) ?_ ?_
                    rotate_left
                    · intro w'
                      go_simp
                      with_reducible rfl
                    rotate_left
                    · simp only [Act.put, List.setIfInBounds_toArray, List.set_cons_zero, List.set_cons_succ, i64_w, i32_w]
                      rfl
                    refine pure_ (i := 2) (N := some 31) (v := ?_) (a' := ?_) #[true, true, true, false, false, false, false, false, false, false, false, false] rfl rfl (any_of HT_.out (by kernel_rfl)) (fun _ _ _ h => h) (Or.inl ⟨by rfl, ?_⟩) ?_ ?_
                    rotate_left
                    · intro w'
                      go_simp
                      with_reducible rfl
                    rotate_left
                    · simp only [Act.put, List.setIfInBounds_toArray, List.set_cons_zero, List.set_cons_succ, i64_w, i32_w]
                      rfl
                    refine pure_ (i := 4) (N := some 33) (v := ?_) (a' := ?_) #[true, true, true, false, true, false, false, false, false, false, false, false] rfl rfl (any_of HT_.out (by kernel_rfl)) (fun _ _ _ h => h) (Or.inl ⟨by rfl, ?_⟩) ?_ ?_
                    rotate_left
                    · intro w'
                      go_simp
                      with_reducible rfl
                    rotate_left
                    · simp only [Act.put, List.setIfInBounds_toArray, List.set_cons_zero, List.set_cons_succ, i64_w, i32_w]
                      rfl
                    refine pure_ (i := 6) (N := some 35) (v := ?_) (a' := ?_) #[true, true, true, false, true, false, true, false, false, false, false, false] rfl rfl (any_of HT_.out (by kernel_rfl)) (fun _ _ _ h => h) (Or.inl ⟨by rfl, ?_⟩) ?_ ?_
                    rotate_left
                    · intro w'
                      go_simp
                      with_reducible rfl
                    rotate_left
                    · simp only [Act.put, List.setIfInBounds_toArray, List.set_cons_zero, List.set_cons_succ, i64_w, i32_w]
                      rfl
                    refine pure_ (i := 7) (N := some 36) (v := ?_) (a' := ?_) #[true, true, true, false, true, false, true, true, false, false, false, false] rfl rfl (any_of HT_.out (by kernel_rfl)) (fun _ _ _ h => h) (Or.inl ⟨by rfl, ?_⟩) ?_ ?_
                    rotate_left
                    · intro w'
                      go_simp
                      with_reducible rfl
                    rotate_left
                    · simp only [Act.put, List.setIfInBounds_toArray, List.set_cons_zero, List.set_cons_succ, i64_w, i32_w]
                      rfl
                    refine pure_ (i := 9) (N := some 38) (v := ?_) (a' := ?_) #[true, true, true, false, true, false, true, true, false, true, false, false] rfl rfl (any_of HT_.out (by kernel_rfl)) (fun _ _ _ h => h) (Or.inl ⟨by rfl, ?_⟩) ?_ ?_
                    rotate_left
                    · intro w'
                      go_simp
                      with_reducible rfl
                    rotate_left
                    · simp only [Act.put, List.setIfInBounds_toArray, List.set_cons_zero, List.set_cons_succ, i64_w, i32_w]
                      rfl
                    refine take_ (i := 3) (N := some 32) (v := ?_) (a' := ?_) #[true, true, true, true, true, false, true, true, false, true, false, false] rfl rfl (take_ofW HT_.out HW_.out (by kernel_rfl)) (fun _ _ _ h => h) (Or.inl ⟨by rfl, ?_⟩) hHeld ?_ ?_
                    rotate_left
                    · rintro w' ⟨s0, s1, s2, s3, s4, s5, s6, s7, s8, s9, s10, s11, s12, s13⟩
                      go_simp
                      with_reducible rfl
                    rotate_left
                    · simp only [Act.put, List.setIfInBounds_toArray, List.set_cons_zero, List.set_cons_succ, i64_w, i32_w]
                      rfl
                    refine take_ (i := 8) (N := some 37) (v := ?_) (a' := ?_) #[true, true, true, true, true, false, true, true, true, true, false, false] rfl rfl (take_ofW HT_.out HW_.out (by kernel_rfl)) (fun _ _ _ h => h) (Or.inl ⟨by rfl, ?_⟩) hHeld ?_ ?_
                    rotate_left
                    · rintro w' ⟨s0, s1, s2, s3, s4, s5, s6, s7, s8, s9, s10, s11, s12, s13⟩
                      go_simp
                      with_reducible rfl
                    rotate_left
                    · simp only [Act.put, List.setIfInBounds_toArray, List.set_cons_zero, List.set_cons_succ, i64_w, i32_w]
                      rfl
                    refine one_ (i := 5) (N := some 34) #[true, true, true, true, true, true, true, true, true, true, false, false] rfl rfl (one_of HT_.out (by kernel_rfl)) (by decide) (fun K hK => ?_)
                    refine goes_ Try.func9 (by kernel_rfl) rfl #[.agg #[.int .i64 ((rd_T29 l0 x8_2).f0), .int .i64 ((rd_T29 l0 x8_2).f1), .int .i64 ((rd_T29 l0 x8_2).f2), .int .i64 ((rd_T29 l0 x8_2).f3), .bool ((rd_T29 l0 x8_2).f4), .bool ((rd_T29 l0 x8_2).f5), .bool ((rd_T29 l0 x8_2).f6)], .int .i64 a1] (by rfl) rfl rfl (by (try simp only [List.map_toArray, List.map_cons, List.map_nil]); first | done | rfl | (simp only [List.length_drop, List.length_take]; rfl) | (simp only [*]; first | done | rfl)) ?_
                    with_reducible refine (lineno_Unit.calls ((rd_T29 l0 x8_2).f0) ((rd_T29 l0 x8_2).f1) ((rd_T29 l0 x8_2).f2) ((rd_T29 l0 x8_2).f3) ((rd_T29 l0 x8_2).f4) ((rd_T29 l0 x8_2).f5) ((rd_T29 l0 x8_2).f6) a1 t256 t257 t258 _ A18.out).mono ?_
                    rintro e w23 ⟨rfl, hb⟩
                    refine ⟨_, rfl, ?_⟩
                    have n0_ := Aside0.mk (Kd.R_below (by (with_reducible repeat (first | apply Kd.R_alloc | apply Kd.R_drewN | apply Kd.R_drew)); exact HO_5.out) hb)
                    have n1_ := Aside0.mk (Kd.R_below (by (with_reducible repeat (first | apply Kd.R_alloc | apply Kd.R_drewN | apply Kd.R_drew)); exact HO_6.out) hb)
                    have n2_ := Aside0.mk (Kd.R_below (by (with_reducible repeat (first | apply Kd.R_alloc | apply Kd.R_drewN | apply Kd.R_drew)); exact HO_7.out) hb)
                    have n3_ := Aside0.mk (below_step (by repeat (first | (with_reducible first | exact HB.out | apply below_alloc | apply pw_below_drewN | apply below_drew1) | exact HB.out)) hb)
                    clear HO_5
                    clear HO_6
                    clear HO_7
                    clear HB
                    have HO_5 := n0_
                    have HO_6 := n1_
                    have HO_7 := n2_
                    have HB := n3_
                    clear n0_ n1_ n2_ n3_
                    (try clear hb)
                    (try clear hb2)
                    (try clear hk)
                    (try clear hi)
                    refine hK.out _ _ ⟨((HB.out.cell (World.block_lt_of_cell? w _ hw255_0)).trans hw255_0), ((HB.out.cell (World.block_lt_of_cell? w _ hw255_1)).trans hw255_1), ((HB.out.cell (World.block_lt_of_cell? w _ hw255_2)).trans hw255_2), ((HB.out.cell (World.block_lt_of_cell? w _ hw255_3)).trans hw255_3), ((HB.out.cell (World.block_lt_of_cell? w _ hw255_4)).trans hw255_4), ((HB.out.cell (World.block_lt_of_cell? w _ hw255_5)).trans hw255_5), ((HB.out.cell (World.block_lt_of_cell? w _ hw255_6)).trans hw255_6), ((HB.out.cell (World.block_lt_of_cell? w _ hw259_0)).trans hw259_0), ((HB.out.cell (World.block_lt_of_cell? w _ hw259_1)).trans hw259_1), ((HB.out.cell (World.block_lt_of_cell? w _ hw259_2)).trans hw259_2), ((HB.out.cell (World.block_lt_of_cell? w _ hw259_3)).trans hw259_3), ((HB.out.cell (World.block_lt_of_cell? w _ hw259_4)).trans hw259_4), ((HB.out.cell (World.block_lt_of_cell? w _ hw259_5)).trans hw259_5), ((HB.out.cell (World.block_lt_of_cell? w _ hw259_6)).trans hw259_6)⟩ (fun hHeld => ?_)
                    clear hK K
                    refine norm_ (a' := ?_) ?_ ?_
                    rotate_left
                    · show Act.put _ (some 34) _ = _
                      simp only [Act.put, List.setIfInBounds_toArray, List.set_cons_zero, List.set_cons_succ, i64_w, i32_w]
                      rfl
                    refine one_ (i := 10) (N := some 39) #[true, true, true, true, true, true, true, true, true, true, true, false] rfl rfl (one_of HT_.out (by kernel_rfl)) (by decide) (fun K hK => ?_)
                    refine goes_ Try.func9 (by kernel_rfl) rfl #[.agg #[.int .i64 ((rd_T29 l0 0).f0), .int .i64 ((rd_T29 l0 0).f1), .int .i64 ((rd_T29 l0 0).f2), .int .i64 ((rd_T29 l0 0).f3), .bool ((rd_T29 l0 0).f4), .bool ((rd_T29 l0 0).f5), .bool ((rd_T29 l0 0).f6)], .int .i64 a1] (by rfl) rfl rfl (by (try simp only [List.map_toArray, List.map_cons, List.map_nil]); first | done | rfl | (simp only [List.length_drop, List.length_take]; rfl) | (simp only [*]; first | done | rfl)) ?_
                    with_reducible refine (lineno_Unit.calls ((rd_T29 l0 0).f0) ((rd_T29 l0 0).f1) ((rd_T29 l0 0).f2) ((rd_T29 l0 0).f3) ((rd_T29 l0 0).f4) ((rd_T29 l0 0).f5) ((rd_T29 l0 0).f6) a1 t260 t261 t262 _ A20.out).mono ?_
                    rintro e w24 ⟨rfl, hb⟩
                    refine ⟨_, rfl, ?_⟩
                    have n0_ := Aside0.mk (Kd.R_below (by (with_reducible repeat (first | apply Kd.R_alloc | apply Kd.R_drewN | apply Kd.R_drew)); exact HO_5.out) hb)
                    have n1_ := Aside0.mk (Kd.R_below (by (with_reducible repeat (first | apply Kd.R_alloc | apply Kd.R_drewN | apply Kd.R_drew)); exact HO_6.out) hb)
                    have n2_ := Aside0.mk (Kd.R_below (by (with_reducible repeat (first | apply Kd.R_alloc | apply Kd.R_drewN | apply Kd.R_drew)); exact HO_7.out) hb)
                    have n3_ := Aside0.mk (below_step (by repeat (first | (with_reducible first | exact HB.out | apply below_alloc | apply pw_below_drewN | apply below_drew1) | exact HB.out)) hb)
                    clear HO_5
                    clear HO_6
                    clear HO_7
                    clear HB
                    have HO_5 := n0_
                    have HO_6 := n1_
                    have HO_7 := n2_
                    have HB := n3_
                    clear n0_ n1_ n2_ n3_
                    (try clear hb)
                    (try clear hb2)
                    (try clear hk)
                    (try clear hi)
                    refine hK.out _ _ ⟨((HB.out.cell (World.block_lt_of_cell? w _ hw255_0)).trans hw255_0), ((HB.out.cell (World.block_lt_of_cell? w _ hw255_1)).trans hw255_1), ((HB.out.cell (World.block_lt_of_cell? w _ hw255_2)).trans hw255_2), ((HB.out.cell (World.block_lt_of_cell? w _ hw255_3)).trans hw255_3), ((HB.out.cell (World.block_lt_of_cell? w _ hw255_4)).trans hw255_4), ((HB.out.cell (World.block_lt_of_cell? w _ hw255_5)).trans hw255_5), ((HB.out.cell (World.block_lt_of_cell? w _ hw255_6)).trans hw255_6), ((HB.out.cell (World.block_lt_of_cell? w _ hw259_0)).trans hw259_0), ((HB.out.cell (World.block_lt_of_cell? w _ hw259_1)).trans hw259_1), ((HB.out.cell (World.block_lt_of_cell? w _ hw259_2)).trans hw259_2), ((HB.out.cell (World.block_lt_of_cell? w _ hw259_3)).trans hw259_3), ((HB.out.cell (World.block_lt_of_cell? w _ hw259_4)).trans hw259_4), ((HB.out.cell (World.block_lt_of_cell? w _ hw259_5)).trans hw259_5), ((HB.out.cell (World.block_lt_of_cell? w _ hw259_6)).trans hw259_6)⟩ (fun hHeld => ?_)
                    clear hK K
                    refine norm_ (a' := ?_) ?_ ?_
                    rotate_left
                    · show Act.put _ (some 39) _ = _
                      simp only [Act.put, List.setIfInBounds_toArray, List.set_cons_zero, List.set_cons_succ, i64_w, i32_w]
                      rfl
                    refine pure_ (i := 11) (N := some 40) (v := ?_) (a' := ?_) #[true, true, true, true, true, true, true, true, true, true, true, true] rfl rfl (any_of HT_.out (by kernel_rfl)) (fun _ _ _ h => h) (Or.inl ⟨by rfl, ?_⟩) ?_ ?_
                    rotate_left
                    · intro w'
                      go_simp
                      with_reducible rfl
                    rotate_left
                    · simp only [Act.put, List.setIfInBounds_toArray, List.set_cons_zero, List.set_cons_succ, i64_w, i32_w]
                      rfl
                    refine done_ (done_of HT_.out (by kernel_rfl)) ?_
                    try go_wp2
                    go_ret
                    exact ⟨by first | rfl | (simp [errW_none, errW_some] <;> rfl) | (simp [*, errW_none, errW_some] <;> rfl), by repeat (first | (with_reducible first | exact HB.out | apply below_alloc | apply pw_below_drewN | apply below_drew1) | exact HB.out)⟩
                  · rw [if_neg c21] at H
                    have c21b0 : (!(t256 == t260) || (!(t257 == t261) || (!(t258 == t262)))) = false := by simpa using c21
                    clear c21
                    obtain ⟨bq25, hbq25⟩ : ∃ b_ : Bool, b_ = ((rd_T29 l0 x8_2).f5) := ⟨_, rfl⟩
                    replace H : (if (bq25 = true) then (variorumlaw16_LinenoSkips.l0 k2 l0 a1 t245 x6_2 x7_2 (wrap64 (x8_2 + 1))) else (if x6_2.length < 3518437208883 then (if x8_2 < (t245.length : Int) then (if x7_2.length < 8796093022208 then (variorumlaw16_LinenoSkips.l0 k2 l0 a1 t245 (x6_2 ++ [(⟨(rd_T29 l0 x8_2).f0, (rd_T29 l0 x8_2).f1, (rd_T29 l0 x8_2).f2, (rd_T29 l0 x8_2).f3, (rd_T29 l0 x8_2).f4, bq25, (rd_T29 l0 x8_2).f6⟩ : S29)]) (x7_2 ++ [(⟨(rd_T31 t245 x8_2).f0, (rd_T31 t245 x8_2).f1⟩ : S31)]) (wrap64 (x8_2 + 1))) else (none)) else (none)) else (none))) = some r := by rw [← hbq25] at H; exact H
                    (try simp only [← hbq25] at A3)
                    (try simp only [← hbq25] at A6)
                    (try simp only [← hbq25] at A18)
                    (try simp only [← hbq25] at A20)
                    have Nbq25 := Aside0.mk hbq25
                    clear hbq25
                    by_cases c26 : (bq25 = true)
                    · subst c26
                      have H1 : (variorumlaw16_LinenoSkips.l0 k2 l0 a1 t245 x6_2 x7_2 (wrap64 (x8_2 + 1))) = some r := by rw [if_pos rfl] at H; exact H
                      clear H
                      have H := H1
                      clear H1
                      have H' := Aside0.mk H
                      clear H
                      try go_wp2
                      have n0_ := Aside0.mk (Kd.R_drew HO_5.out)
                      have n1_ := Aside0.mk (Kd.R_drew HO_6.out)
                      have n2_ := Aside0.mk (Kd.R_drew HO_7.out)
                      have n3_ := Aside0.mk (below_drew1 HB.out)
                      clear HO_5
                      clear HO_6
                      clear HO_7
                      clear HB
                      have HO_5 := n0_
                      have HO_6 := n1_
                      have HO_7 := n2_
                      have HB := n3_
                      clear n0_ n1_ n2_ n3_
                      have p255 : 0 ≤ (x8_2 : Int) := of_decide_eq_true (by first | (with_reducible assumption) | assumption)
                      have q255 : x8_2 < (l0.length : Int) := of_decide_eq_true (by first | (with_reducible assumption) | assumption)
                      obtain ⟨ad255, e255, hx255_0, hx255_1, hx255_2, hx255_3, hx255_4, hx255_5, hx255_6⟩ := at_T29 HR0.out x8_2 p255 q255
                      have hw255_6 := hx255_6
                      have hw255_5 := hx255_5
                      have hw255_4 := hx255_4
                      have hw255_3 := hx255_3
                      have hw255_2 := hx255_2
                      have hw255_1 := hx255_1
                      have hw255_0 := hx255_0
                      (try rw [← Nbq25.out] at hx255_4)
                      (try rw [← Nbq25.out] at hw255_4)
                      (try rw [← Nbq25.out] at hx255_5)
                      (try rw [← Nbq25.out] at hw255_5)
                      (try rw [← Nbq25.out] at hx255_6)
                      (try rw [← Nbq25.out] at hw255_6)
                      cases e255
                      replace hx255_0 := (HB.out.cell (World.block_lt_of_cell? w _ hx255_0)).trans hx255_0
                      replace hx255_1 := (HB.out.cell (World.block_lt_of_cell? w _ hx255_1)).trans hx255_1
                      replace hx255_2 := (HB.out.cell (World.block_lt_of_cell? w _ hx255_2)).trans hx255_2
                      replace hx255_3 := (HB.out.cell (World.block_lt_of_cell? w _ hx255_3)).trans hx255_3
                      replace hx255_4 := (HB.out.cell (World.block_lt_of_cell? w _ hx255_4)).trans hx255_4
                      replace hx255_5 := (HB.out.cell (World.block_lt_of_cell? w _ hx255_5)).trans hx255_5
                      replace hx255_6 := (HB.out.cell (World.block_lt_of_cell? w _ hx255_6)).trans hx255_6
                      replace p255 := eq_true p255
                      replace q255 := eq_true q255
                      have p259 : 0 ≤ (0 : Int) := (by omega)
                      have q259 : 0 < (l0.length : Int) := of_decide_eq_true (by first | (with_reducible assumption) | assumption)
                      obtain ⟨ad259, e259, hx259_0, hx259_1, hx259_2, hx259_3, hx259_4, hx259_5, hx259_6⟩ := at_T29 HR0.out 0 p259 q259
                      have hw259_6 := hx259_6
                      (try rw [show ((0 : Int)).toNat = 0 from rfl] at hw259_6)
                      (try rw [show 0 * 7 = 0 from rfl] at hw259_6)
                      (try rw [Addr.add_zero'] at hw259_6)
                      have hw259_5 := hx259_5
                      (try rw [show ((0 : Int)).toNat = 0 from rfl] at hw259_5)
                      (try rw [show 0 * 7 = 0 from rfl] at hw259_5)
                      (try rw [Addr.add_zero'] at hw259_5)
                      have hw259_4 := hx259_4
                      (try rw [show ((0 : Int)).toNat = 0 from rfl] at hw259_4)
                      (try rw [show 0 * 7 = 0 from rfl] at hw259_4)
                      (try rw [Addr.add_zero'] at hw259_4)
                      have hw259_3 := hx259_3
                      (try rw [show ((0 : Int)).toNat = 0 from rfl] at hw259_3)
                      (try rw [show 0 * 7 = 0 from rfl] at hw259_3)
                      (try rw [Addr.add_zero'] at hw259_3)
                      have hw259_2 := hx259_2
                      (try rw [show ((0 : Int)).toNat = 0 from rfl] at hw259_2)
                      (try rw [show 0 * 7 = 0 from rfl] at hw259_2)
                      (try rw [Addr.add_zero'] at hw259_2)
                      have hw259_1 := hx259_1
                      (try rw [show ((0 : Int)).toNat = 0 from rfl] at hw259_1)
                      (try rw [show 0 * 7 = 0 from rfl] at hw259_1)
                      (try rw [Addr.add_zero'] at hw259_1)
                      have hw259_0 := hx259_0
                      (try rw [show ((0 : Int)).toNat = 0 from rfl] at hw259_0)
                      (try rw [show 0 * 7 = 0 from rfl] at hw259_0)
                      (try rw [Addr.add_zero'] at hw259_0)
                      (try rw [← Nbq25.out] at hx259_4)
                      (try rw [← Nbq25.out] at hw259_4)
                      (try rw [← Nbq25.out] at hx259_5)
                      (try rw [← Nbq25.out] at hw259_5)
                      (try rw [← Nbq25.out] at hx259_6)
                      (try rw [← Nbq25.out] at hw259_6)
                      obtain rfl : ad255 = ad259 := (by injection e259)
                      have qi259 : (0 < l0.length) = True := eq_true (by omega)
                      (try rw [show ((0 : Int)).toNat = 0 from rfl] at hx259_0)
                      (try rw [show 0 * 7 = 0 from rfl] at hx259_0)
                      (try rw [Addr.add_zero'] at hx259_0)
                      (try rw [show ((0 : Int)).toNat = 0 from rfl] at hx259_1)
                      (try rw [show 0 * 7 = 0 from rfl] at hx259_1)
                      (try rw [Addr.add_zero'] at hx259_1)
                      (try rw [show ((0 : Int)).toNat = 0 from rfl] at hx259_2)
                      (try rw [show 0 * 7 = 0 from rfl] at hx259_2)
                      (try rw [Addr.add_zero'] at hx259_2)
                      (try rw [show ((0 : Int)).toNat = 0 from rfl] at hx259_3)
                      (try rw [show 0 * 7 = 0 from rfl] at hx259_3)
                      (try rw [Addr.add_zero'] at hx259_3)
                      (try rw [show ((0 : Int)).toNat = 0 from rfl] at hx259_4)
                      (try rw [show 0 * 7 = 0 from rfl] at hx259_4)
                      (try rw [Addr.add_zero'] at hx259_4)
                      (try rw [show ((0 : Int)).toNat = 0 from rfl] at hx259_5)
                      (try rw [show 0 * 7 = 0 from rfl] at hx259_5)
                      (try rw [Addr.add_zero'] at hx259_5)
                      (try rw [show ((0 : Int)).toNat = 0 from rfl] at hx259_6)
                      (try rw [show 0 * 7 = 0 from rfl] at hx259_6)
                      (try rw [Addr.add_zero'] at hx259_6)
                      replace hx259_0 := (HB.out.cell (World.block_lt_of_cell? w _ hx259_0)).trans hx259_0
                      replace hx259_1 := (HB.out.cell (World.block_lt_of_cell? w _ hx259_1)).trans hx259_1
                      replace hx259_2 := (HB.out.cell (World.block_lt_of_cell? w _ hx259_2)).trans hx259_2
                      replace hx259_3 := (HB.out.cell (World.block_lt_of_cell? w _ hx259_3)).trans hx259_3
                      replace hx259_4 := (HB.out.cell (World.block_lt_of_cell? w _ hx259_4)).trans hx259_4
                      replace hx259_5 := (HB.out.cell (World.block_lt_of_cell? w _ hx259_5)).trans hx259_5
                      replace hx259_6 := (HB.out.cell (World.block_lt_of_cell? w _ hx259_6)).trans hx259_6
                      replace p259 := eq_true p259
                      replace q259 := eq_true q259
                      refine start_ (n := 12) (S := fun w' => w'.cell? (ad255.add ((x8_2).toNat * 7)) = some (.int .i64 ((rd_T29 l0 x8_2).f0)) ∧ w'.cell? ⟨(ad255.add ((x8_2).toNat * 7)).block, (ad255.add ((x8_2).toNat * 7)).off + 1, none⟩ = some (.int .i64 ((rd_T29 l0 x8_2).f1)) ∧ w'.cell? ⟨(ad255.add ((x8_2).toNat * 7)).block, (ad255.add ((x8_2).toNat * 7)).off + 2, none⟩ = some (.int .i64 ((rd_T29 l0 x8_2).f2)) ∧ w'.cell? ⟨(ad255.add ((x8_2).toNat * 7)).block, (ad255.add ((x8_2).toNat * 7)).off + 3, none⟩ = some (.int .i64 ((rd_T29 l0 x8_2).f3)) ∧ w'.cell? ⟨(ad255.add ((x8_2).toNat * 7)).block, (ad255.add ((x8_2).toNat * 7)).off + 4, none⟩ = some (.bool ((rd_T29 l0 x8_2).f4)) ∧ w'.cell? ⟨(ad255.add ((x8_2).toNat * 7)).block, (ad255.add ((x8_2).toNat * 7)).off + 5, none⟩ = some (.bool true) ∧ w'.cell? ⟨(ad255.add ((x8_2).toNat * 7)).block, (ad255.add ((x8_2).toNat * 7)).off + 6, none⟩ = some (.bool ((rd_T29 l0 x8_2).f6)) ∧ w'.cell? ad255 = some (.int .i64 ((rd_T29 l0 0).f0)) ∧ w'.cell? ⟨ad255.block, ad255.off + 1, none⟩ = some (.int .i64 ((rd_T29 l0 0).f1)) ∧ w'.cell? ⟨ad255.block, ad255.off + 2, none⟩ = some (.int .i64 ((rd_T29 l0 0).f2)) ∧ w'.cell? ⟨ad255.block, ad255.off + 3, none⟩ = some (.int .i64 ((rd_T29 l0 0).f3)) ∧ w'.cell? ⟨ad255.block, ad255.off + 4, none⟩ = some (.bool ((rd_T29 l0 0).f4)) ∧ w'.cell? ⟨ad255.block, ad255.off + 5, none⟩ = some (.bool ((rd_T29 l0 0).f5)) ∧ w'.cell? ⟨ad255.block, ad255.off + 6, none⟩ = some (.bool ((rd_T29 l0 0).f6))) (ds := []) #[false, false, false, false, false, false, false, false, false, false, false, false] (by kernel_rfl) rfl rfl ⟨((HB.out.cell (World.block_lt_of_cell? w _ hw255_0)).trans hw255_0), ((HB.out.cell (World.block_lt_of_cell? w _ hw255_1)).trans hw255_1), ((HB.out.cell (World.block_lt_of_cell? w _ hw255_2)).trans hw255_2), ((HB.out.cell (World.block_lt_of_cell? w _ hw255_3)).trans hw255_3), ((HB.out.cell (World.block_lt_of_cell? w _ hw255_4)).trans hw255_4), ((HB.out.cell (World.block_lt_of_cell? w _ hw255_5)).trans hw255_5), ((HB.out.cell (World.block_lt_of_cell? w _ hw255_6)).trans hw255_6), ((HB.out.cell (World.block_lt_of_cell? w _ hw259_0)).trans hw259_0), ((HB.out.cell (World.block_lt_of_cell? w _ hw259_1)).trans hw259_1), ((HB.out.cell (World.block_lt_of_cell? w _ hw259_2)).trans hw259_2), ((HB.out.cell (World.block_lt_of_cell? w _ hw259_3)).trans hw259_3), ((HB.out.cell (World.block_lt_of_cell? w _ hw259_4)).trans hw259_4), ((HB.out.cell (World.block_lt_of_cell? w _ hw259_5)).trans hw259_5), ((HB.out.cell (World.block_lt_of_cell? w _ hw259_6)).trans hw259_6)⟩ (fun hHeld => ?_); refine with_tabW variorumlaw16_LinenoSkips.tab9 variorumlaw16_LinenoSkips.bits9 (fun HT_ HW_ => ?_)
                      generalize wr.drew = w27 at HO_5 HO_6 HO_7 HB hx255_0 hx255_1 hx255_2 hx255_3 hx255_4 hx255_5 hx255_6 hx259_0 hx259_1 hx259_2 hx259_3 hx259_4 hx259_5 hx259_6 hHeld ⊢
                      refine pure_ (i := 0) (N := some 29) (v := ?_) (a' := ?_) #[true, false, false, false, false, false, false, false, false, false, false, false] rfl rfl (any_of HT_.out (by kernel_rfl)) (fun _ _ _ h => h) (Or.inl ⟨by rfl, ?_⟩) ?_ ?_
                      rotate_left
                      · intro w'
                        go_simp
                        with_reducible rfl
                      rotate_left
                      · simp only [Act.put, List.setIfInBounds_toArray, List.set_cons_zero, List.set_cons_succ, i64_w, i32_w]
                        rfl
                      refine pure_ (i := 1) (N := some 30) (v := ?_) (a' := ?_) #[true, true, false, false, false, false, false, false, false, false, false, false] rfl rfl (any_of HT_.out (by kernel_rfl)) (fun _ _ _ h => h) (Or.inl ⟨by rfl, ?_⟩) ?_ ?_
                      rotate_left
                      · intro w'
                        go_simp
                        with_reducible rfl
                      rotate_left
                      · simp only [Act.put, List.setIfInBounds_toArray, List.set_cons_zero, List.set_cons_succ, i64_w, i32_w]
                        rfl
                      refine pure_ (i := 2) (N := some 31) (v := ?_) (a' := ?_) #[true, true, true, false, false, false, false, false, false, false, false, false] rfl rfl (any_of HT_.out (by kernel_rfl)) (fun _ _ _ h => h) (Or.inl ⟨by rfl, ?_⟩) ?_ ?_
                      rotate_left
                      · intro w'
                        go_simp
                        with_reducible rfl
                      rotate_left
                      · simp only [Act.put, List.setIfInBounds_toArray, List.set_cons_zero, List.set_cons_succ, i64_w, i32_w]
                        rfl
                      refine pure_ (i := 4) (N := some 33) (v := ?_) (a' := ?_) #[true, true, true, false, true, false, false, false, false, false, false, false] rfl rfl (any_of HT_.out (by kernel_rfl)) (fun _ _ _ h => h) (Or.inl ⟨by rfl, ?_⟩) ?_ ?_
                      rotate_left
                      · intro w'
                        go_simp
                        with_reducible rfl
                      rotate_left
                      · simp only [Act.put, List.setIfInBounds_toArray, List.set_cons_zero, List.set_cons_succ, i64_w, i32_w]
                        rfl
                      refine pure_ (i := 6) (N := some 35) (v := ?_) (a' := ?_) #[true, true, true, false, true, false, true, false, false, false, false, false] rfl rfl (any_of HT_.out (by kernel_rfl)) (fun _ _ _ h => h) (Or.inl ⟨by rfl, ?_⟩) ?_ ?_
                      rotate_left
                      · intro w'
                        go_simp
                        with_reducible rfl
                      rotate_left
                      · simp only [Act.put, List.setIfInBounds_toArray, List.set_cons_zero, List.set_cons_succ, i64_w, i32_w]
                        rfl
                      refine pure_ (i := 7) (N := some 36) (v := ?_) (a' := ?_) #[true, true, true, false, true, false, true, true, false, false, false, false] rfl rfl (any_of HT_.out (by kernel_rfl)) (fun _ _ _ h => h) (Or.inl ⟨by rfl, ?_⟩) ?_ ?_
                      rotate_left
                      · intro w'
                        go_simp
                        with_reducible rfl
                      rotate_left
                      · simp only [Act.put, List.setIfInBounds_toArray, List.set_cons_zero, List.set_cons_succ, i64_w, i32_w]
                        rfl
                      refine pure_ (i := 9) (N := some 38) (v := ?_) (a' := ?_) #[true, true, true, false, true, false, true, true, false, true, false, false] rfl rfl (any_of HT_.out (by kernel_rfl)) (fun _ _ _ h => h) (Or.inl ⟨by rfl, ?_⟩) ?_ ?_
                      rotate_left
                      · intro w'
                        go_simp
                        with_reducible rfl
                      rotate_left
                      · simp only [Act.put, List.setIfInBounds_toArray, List.set_cons_zero, List.set_cons_succ, i64_w, i32_w]
                        rfl
                      refine take_ (i := 3) (N := some 32) (v := ?_) (a' := ?_) #[true, true, true, true, true, false, true, true, false, true, false, false] rfl rfl (take_ofW HT_.out HW_.out (by kernel_rfl)) (fun _ _ _ h => h) (Or.inl ⟨by rfl, ?_⟩) hHeld ?_ ?_
                      rotate_left
                      · rintro w' ⟨s0, s1, s2, s3, s4, s5, s6, s7, s8, s9, s10, s11, s12, s13⟩
                        go_simp
                        with_reducible rfl
                      rotate_left
                      · simp only [Act.put, List.setIfInBounds_toArray, List.set_cons_zero, List.set_cons_succ, i64_w, i32_w]
                        rfl
                      refine take_ (i := 8) (N := some 37) (v := ?_) (a' := ?_) #[true, true, true, true, true, false, true, true, true, true, false, false] rfl rfl (take_ofW HT_.out HW_.out (by kernel_rfl)) (fun _ _ _ h => h) (Or.inl ⟨by rfl, ?_⟩) hHeld ?_ ?_
                      rotate_left
                      · rintro w' ⟨s0, s1, s2, s3, s4, s5, s6, s7, s8, s9, s10, s11, s12, s13⟩
                        go_simp
                        with_reducible rfl
                      rotate_left
                      · simp only [Act.put, List.setIfInBounds_toArray, List.set_cons_zero, List.set_cons_succ, i64_w, i32_w]
                        rfl
                      refine one_ (i := 5) (N := some 34) #[true, true, true, true, true, true, true, true, true, true, false, false] rfl rfl (one_of HT_.out (by kernel_rfl)) (by decide) (fun K hK => ?_)
                      refine goes_ Try.func9 (by kernel_rfl) rfl #[.agg #[.int .i64 ((rd_T29 l0 x8_2).f0), .int .i64 ((rd_T29 l0 x8_2).f1), .int .i64 ((rd_T29 l0 x8_2).f2), .int .i64 ((rd_T29 l0 x8_2).f3), .bool ((rd_T29 l0 x8_2).f4), .bool true, .bool ((rd_T29 l0 x8_2).f6)], .int .i64 a1] (by rfl) rfl rfl (by (try simp only [List.map_toArray, List.map_cons, List.map_nil]); first | done | rfl | (simp only [List.length_drop, List.length_take]; rfl) | (simp only [*]; first | done | rfl)) ?_
                      with_reducible refine (lineno_Unit.calls ((rd_T29 l0 x8_2).f0) ((rd_T29 l0 x8_2).f1) ((rd_T29 l0 x8_2).f2) ((rd_T29 l0 x8_2).f3) ((rd_T29 l0 x8_2).f4) true ((rd_T29 l0 x8_2).f6) a1 t256 t257 t258 _ A18.out).mono ?_
                      rintro e w28 ⟨rfl, hb⟩
                      refine ⟨_, rfl, ?_⟩
                      have n0_ := Aside0.mk (Kd.R_below (by (with_reducible repeat (first | apply Kd.R_alloc | apply Kd.R_drewN | apply Kd.R_drew)); exact HO_5.out) hb)
                      have n1_ := Aside0.mk (Kd.R_below (by (with_reducible repeat (first | apply Kd.R_alloc | apply Kd.R_drewN | apply Kd.R_drew)); exact HO_6.out) hb)
                      have n2_ := Aside0.mk (Kd.R_below (by (with_reducible repeat (first | apply Kd.R_alloc | apply Kd.R_drewN | apply Kd.R_drew)); exact HO_7.out) hb)
                      have n3_ := Aside0.mk (below_step (by repeat (first | (with_reducible first | exact HB.out | apply below_alloc | apply pw_below_drewN | apply below_drew1) | exact HB.out)) hb)
                      clear HO_5
                      clear HO_6
                      clear HO_7
                      clear HB
                      have HO_5 := n0_
                      have HO_6 := n1_
                      have HO_7 := n2_
                      have HB := n3_
                      clear n0_ n1_ n2_ n3_
                      (try clear hb)
                      (try clear hb2)
                      (try clear hk)
                      (try clear hi)
                      refine hK.out _ _ ⟨((HB.out.cell (World.block_lt_of_cell? w _ hw255_0)).trans hw255_0), ((HB.out.cell (World.block_lt_of_cell? w _ hw255_1)).trans hw255_1), ((HB.out.cell (World.block_lt_of_cell? w _ hw255_2)).trans hw255_2), ((HB.out.cell (World.block_lt_of_cell? w _ hw255_3)).trans hw255_3), ((HB.out.cell (World.block_lt_of_cell? w _ hw255_4)).trans hw255_4), ((HB.out.cell (World.block_lt_of_cell? w _ hw255_5)).trans hw255_5), ((HB.out.cell (World.block_lt_of_cell? w _ hw255_6)).trans hw255_6), ((HB.out.cell (World.block_lt_of_cell? w _ hw259_0)).trans hw259_0), ((HB.out.cell (World.block_lt_of_cell? w _ hw259_1)).trans hw259_1), ((HB.out.cell (World.block_lt_of_cell? w _ hw259_2)).trans hw259_2), ((HB.out.cell (World.block_lt_of_cell? w _ hw259_3)).trans hw259_3), ((HB.out.cell (World.block_lt_of_cell? w _ hw259_4)).trans hw259_4), ((HB.out.cell (World.block_lt_of_cell? w _ hw259_5)).trans hw259_5), ((HB.out.cell (World.block_lt_of_cell? w _ hw259_6)).trans hw259_6)⟩ (fun hHeld => ?_)
                      clear hK K
                      refine norm_ (a' := ?_) ?_ ?_
                      rotate_left
                      · show Act.put _ (some 34) _ = _
                        simp only [Act.put, List.setIfInBounds_toArray, List.set_cons_zero, List.set_cons_succ, i64_w, i32_w]
                        rfl
                      refine one_ (i := 10) (N := some 39) #[true, true, true, true, true, true, true, true, true, true, true, false] rfl rfl (one_of HT_.out (by kernel_rfl)) (by decide) (fun K hK => ?_)
                      refine goes_ Try.func9 (by kernel_rfl) rfl #[.agg #[.int .i64 ((rd_T29 l0 0).f0), .int .i64 ((rd_T29 l0 0).f1), .int .i64 ((rd_T29 l0 0).f2), .int .i64 ((rd_T29 l0 0).f3), .bool ((rd_T29 l0 0).f4), .bool ((rd_T29 l0 0).f5), .bool ((rd_T29 l0 0).f6)], .int .i64 a1] (by rfl) rfl rfl (by (try simp only [List.map_toArray, List.map_cons, List.map_nil]); first | done | rfl | (simp only [List.length_drop, List.length_take]; rfl) | (simp only [*]; first | done | rfl)) ?_
                      with_reducible refine (lineno_Unit.calls ((rd_T29 l0 0).f0) ((rd_T29 l0 0).f1) ((rd_T29 l0 0).f2) ((rd_T29 l0 0).f3) ((rd_T29 l0 0).f4) ((rd_T29 l0 0).f5) ((rd_T29 l0 0).f6) a1 t260 t261 t262 _ A20.out).mono ?_
                      rintro e w29 ⟨rfl, hb⟩
                      refine ⟨_, rfl, ?_⟩
                      have n0_ := Aside0.mk (Kd.R_below (by (with_reducible repeat (first | apply Kd.R_alloc | apply Kd.R_drewN | apply Kd.R_drew)); exact HO_5.out) hb)
                      have n1_ := Aside0.mk (Kd.R_below (by (with_reducible repeat (first | apply Kd.R_alloc | apply Kd.R_drewN | apply Kd.R_drew)); exact HO_6.out) hb)
                      have n2_ := Aside0.mk (Kd.R_below (by (with_reducible repeat (first | apply Kd.R_alloc | apply Kd.R_drewN | apply Kd.R_drew)); exact HO_7.out) hb)
                      have n3_ := Aside0.mk (below_step (by repeat (first | (with_reducible first | exact HB.out | apply below_alloc | apply pw_below_drewN | apply below_drew1) | exact HB.out)) hb)
                      clear HO_5
                      clear HO_6
                      clear HO_7
                      clear HB
                      have HO_5 := n0_
                      have HO_6 := n1_
                      have HO_7 := n2_
                      have HB := n3_
                      clear n0_ n1_ n2_ n3_
                      (try clear hb)
                      (try clear hb2)
                      (try clear hk)
                      (try clear hi)
                      refine hK.out _ _ ⟨((HB.out.cell (World.block_lt_of_cell? w _ hw255_0)).trans hw255_0), ((HB.out.cell (World.block_lt_of_cell? w _ hw255_1)).trans hw255_1), ((HB.out.cell (World.block_lt_of_cell? w _ hw255_2)).trans hw255_2), ((HB.out.cell (World.block_lt_of_cell? w _ hw255_3)).trans hw255_3), ((HB.out.cell (World.block_lt_of_cell? w _ hw255_4)).trans hw255_4), ((HB.out.cell (World.block_lt_of_cell? w _ hw255_5)).trans hw255_5), ((HB.out.cell (World.block_lt_of_cell? w _ hw255_6)).trans hw255_6), ((HB.out.cell (World.block_lt_of_cell? w _ hw259_0)).trans hw259_0), ((HB.out.cell (World.block_lt_of_cell? w _ hw259_1)).trans hw259_1), ((HB.out.cell (World.block_lt_of_cell? w _ hw259_2)).trans hw259_2), ((HB.out.cell (World.block_lt_of_cell? w _ hw259_3)).trans hw259_3), ((HB.out.cell (World.block_lt_of_cell? w _ hw259_4)).trans hw259_4), ((HB.out.cell (World.block_lt_of_cell? w _ hw259_5)).trans hw259_5), ((HB.out.cell (World.block_lt_of_cell? w _ hw259_6)).trans hw259_6)⟩ (fun hHeld => ?_)
                      clear hK K
                      refine norm_ (a' := ?_) ?_ ?_
                      rotate_left
                      · show Act.put _ (some 39) _ = _
                        simp only [Act.put, List.setIfInBounds_toArray, List.set_cons_zero, List.set_cons_succ, i64_w, i32_w]
                        rfl
                      refine pure_ (i := 11) (N := some 40) (v := ?_) (a' := ?_) #[true, true, true, true, true, true, true, true, true, true, true, true] rfl rfl (any_of HT_.out (by kernel_rfl)) (fun _ _ _ h => h) (Or.inl ⟨by rfl, ?_⟩) ?_ ?_
                      rotate_left
                      · intro w'
                        go_simp
                        with_reducible rfl
                      rotate_left
                      · simp only [Act.put, List.setIfInBounds_toArray, List.set_cons_zero, List.set_cons_succ, i64_w, i32_w]
                        rfl
                      refine done_ (done_of HT_.out (by kernel_rfl)) ?_
                      have p263 : 0 ≤ (x8_2 : Int) := of_decide_eq_true (by first | (with_reducible assumption) | assumption)
                      have q263 : x8_2 < (l0.length : Int) := of_decide_eq_true (by first | (with_reducible assumption) | assumption)
                      obtain ⟨ad263, e263, hx263_0, hx263_1, hx263_2, hx263_3, hx263_4, hx263_5, hx263_6⟩ := at_T29 HR0.out x8_2 p263 q263
                      (try rw [← Nbq25.out] at hx263_4)
                      (try rw [← Nbq25.out] at hw263_4)
                      (try rw [← Nbq25.out] at hx263_5)
                      (try rw [← Nbq25.out] at hw263_5)
                      (try rw [← Nbq25.out] at hx263_6)
                      (try rw [← Nbq25.out] at hw263_6)
                      obtain rfl : ad255 = ad263 := (by injection e263)
                      replace hx263_0 := (HB.out.cell (World.block_lt_of_cell? w _ hx263_0)).trans hx263_0
                      replace hx263_1 := (HB.out.cell (World.block_lt_of_cell? w _ hx263_1)).trans hx263_1
                      replace hx263_2 := (HB.out.cell (World.block_lt_of_cell? w _ hx263_2)).trans hx263_2
                      replace hx263_3 := (HB.out.cell (World.block_lt_of_cell? w _ hx263_3)).trans hx263_3
                      replace hx263_4 := (HB.out.cell (World.block_lt_of_cell? w _ hx263_4)).trans hx263_4
                      replace hx263_5 := (HB.out.cell (World.block_lt_of_cell? w _ hx263_5)).trans hx263_5
                      replace hx263_6 := (HB.out.cell (World.block_lt_of_cell? w _ hx263_6)).trans hx263_6
                      replace p263 := eq_true p263
                      replace q263 := eq_true q263
                      try go_wp2
                      go_roundg k2
                      case measure => have := HJ3.out; have := HK2.out; omega
                      case rel => exact ⟨(x6_2), (x7_2), (wrap64 (x8_2 + 1)), (by first | rfl | (simp; done) | (simp [*]; done)), H', ⟨by have := HJ3.out; have := HK2.out; omega⟩, ⟨by (with_reducible repeat (first | apply Kd.R_alloc | apply Kd.R_drewN | apply Kd.R_drew)); exact HO_5.out⟩, ⟨by (with_reducible repeat (first | apply Kd.R_alloc | apply Kd.R_drewN | apply Kd.R_drew)); exact HO_6.out⟩, ⟨by (with_reducible repeat (first | apply Kd.R_alloc | apply Kd.R_drewN | apply Kd.R_drew)); exact HO_7.out⟩, ⟨by repeat (first | (with_reducible first | exact HB.out | apply below_alloc | apply pw_below_drewN | apply below_drew1) | exact HB.out)⟩⟩
                    · replace c26 := Bool.eq_false_iff.mpr c26
                      subst c26
                      have H1 : (if x6_2.length < 3518437208883 then (if x8_2 < (t245.length : Int) then (if x7_2.length < 8796093022208 then (variorumlaw16_LinenoSkips.l0 k2 l0 a1 t245 (x6_2 ++ [(⟨(rd_T29 l0 x8_2).f0, (rd_T29 l0 x8_2).f1, (rd_T29 l0 x8_2).f2, (rd_T29 l0 x8_2).f3, (rd_T29 l0 x8_2).f4, false, (rd_T29 l0 x8_2).f6⟩ : S29)]) (x7_2 ++ [(⟨(rd_T31 t245 x8_2).f0, (rd_T31 t245 x8_2).f1⟩ : S31)]) (wrap64 (x8_2 + 1))) else (none)) else (none)) else (none)) = some r := by rw [if_neg (show ¬ (false = true) by decide)] at H; exact H
                      clear H
                      have H := H1
                      clear H1
                      by_cases c30 : x6_2.length < 3518437208883
                      · rw [if_pos c30] at H
                        have LMc30 := Aside0.mk c30
                        clear c30
                        obtain ⟨y265, hy265⟩ : ∃ y_ : List (S29), y_ = (x6_2 ++ [(⟨(rd_T29 l0 x8_2).f0, (rd_T29 l0 x8_2).f1, (rd_T29 l0 x8_2).f2, (rd_T29 l0 x8_2).f3, (rd_T29 l0 x8_2).f4, false, (rd_T29 l0 x8_2).f6⟩ : S29)]) := ⟨_, rfl⟩
                        replace H : (if x8_2 < (t245.length : Int) then (if x7_2.length < 8796093022208 then (variorumlaw16_LinenoSkips.l0 k2 l0 a1 t245 y265 (x7_2 ++ [(⟨(rd_T31 t245 x8_2).f0, (rd_T31 t245 x8_2).f1⟩ : S31)]) (wrap64 (x8_2 + 1))) else (none)) else (none)) = some r := by first | (rw [hy265]; with_reducible exact H) | (have H2_ := (Option.bind_some _ _).symm.trans H; rw [hy265]; with_reducible exact H2_) | (have H2_ := (Option.bind_some _ _).symm.trans H; with_reducible exact H2_) | with_reducible exact H | (rw [hy265]; exact H) | exact H
                        have Ny265 := Aside0.mk hy265
                        clear hy265
                        by_cases c31 : x8_2 < (t245.length : Int)
                        · rw [if_pos c31] at H
                          have c31b0 : decide (x8_2 < (t245.length : Int)) = true := decide_eq_true c31
                          clear c31
                          by_cases c32 : x7_2.length < 8796093022208
                          · rw [if_pos c32] at H
                            have LMc32 := Aside0.mk c32
                            clear c32
                            obtain ⟨y269, hy269⟩ : ∃ y_ : List (S31), y_ = (x7_2 ++ [(⟨(rd_T31 t245 x8_2).f0, (rd_T31 t245 x8_2).f1⟩ : S31)]) := ⟨_, rfl⟩
                            replace H : (variorumlaw16_LinenoSkips.l0 k2 l0 a1 t245 y265 y269 (wrap64 (x8_2 + 1))) = some r := by first | (rw [hy269]; with_reducible exact H) | (have H2_ := (Option.bind_some _ _).symm.trans H; rw [hy269]; with_reducible exact H2_) | (have H2_ := (Option.bind_some _ _).symm.trans H; with_reducible exact H2_) | with_reducible exact H | (rw [hy269]; exact H) | exact H
                            have Ny269 := Aside0.mk hy269
                            clear hy269
                            have H' := Aside0.mk H
                            clear H
                            try go_wp2
                            have n0_ := Aside0.mk (Kd.R_drew HO_5.out)
                            have n1_ := Aside0.mk (Kd.R_drew HO_6.out)
                            have n2_ := Aside0.mk (Kd.R_drew HO_7.out)
                            have n3_ := Aside0.mk (below_drew1 HB.out)
                            clear HO_5
                            clear HO_6
                            clear HO_7
                            clear HB
                            have HO_5 := n0_
                            have HO_6 := n1_
                            have HO_7 := n2_
                            have HB := n3_
                            clear n0_ n1_ n2_ n3_
                            have p255 : 0 ≤ (x8_2 : Int) := of_decide_eq_true (by first | (with_reducible assumption) | assumption)
                            have q255 : x8_2 < (l0.length : Int) := of_decide_eq_true (by first | (with_reducible assumption) | assumption)
                            obtain ⟨ad255, e255, hx255_0, hx255_1, hx255_2, hx255_3, hx255_4, hx255_5, hx255_6⟩ := at_T29 HR0.out x8_2 p255 q255
                            have hw255_6 := hx255_6
                            have hw255_5 := hx255_5
                            have hw255_4 := hx255_4
                            have hw255_3 := hx255_3
                            have hw255_2 := hx255_2
                            have hw255_1 := hx255_1
                            have hw255_0 := hx255_0
                            (try rw [← Nbq25.out] at hx255_4)
                            (try rw [← Nbq25.out] at hw255_4)
                            (try rw [← Nbq25.out] at hx255_5)
                            (try rw [← Nbq25.out] at hw255_5)
                            (try rw [← Nbq25.out] at hx255_6)
                            (try rw [← Nbq25.out] at hw255_6)
                            cases e255
                            replace hx255_0 := (HB.out.cell (World.block_lt_of_cell? w _ hx255_0)).trans hx255_0
                            replace hx255_1 := (HB.out.cell (World.block_lt_of_cell? w _ hx255_1)).trans hx255_1
                            replace hx255_2 := (HB.out.cell (World.block_lt_of_cell? w _ hx255_2)).trans hx255_2
                            replace hx255_3 := (HB.out.cell (World.block_lt_of_cell? w _ hx255_3)).trans hx255_3
                            replace hx255_4 := (HB.out.cell (World.block_lt_of_cell? w _ hx255_4)).trans hx255_4
                            replace hx255_5 := (HB.out.cell (World.block_lt_of_cell? w _ hx255_5)).trans hx255_5
                            replace hx255_6 := (HB.out.cell (World.block_lt_of_cell? w _ hx255_6)).trans hx255_6
                            replace p255 := eq_true p255
                            replace q255 := eq_true q255
                            have p259 : 0 ≤ (0 : Int) := (by omega)
                            have q259 : 0 < (l0.length : Int) := of_decide_eq_true (by first | (with_reducible assumption) | assumption)
                            obtain ⟨ad259, e259, hx259_0, hx259_1, hx259_2, hx259_3, hx259_4, hx259_5, hx259_6⟩ := at_T29 HR0.out 0 p259 q259
                            have hw259_6 := hx259_6
                            (try rw [show ((0 : Int)).toNat = 0 from rfl] at hw259_6)
                            (try rw [show 0 * 7 = 0 from rfl] at hw259_6)
                            (try rw [Addr.add_zero'] at hw259_6)
                            have hw259_5 := hx259_5
                            (try rw [show ((0 : Int)).toNat = 0 from rfl] at hw259_5)
                            (try rw [show 0 * 7 = 0 from rfl] at hw259_5)
                            (try rw [Addr.add_zero'] at hw259_5)
                            have hw259_4 := hx259_4
                            (try rw [show ((0 : Int)).toNat = 0 from rfl] at hw259_4)
                            (try rw [show 0 * 7 = 0 from rfl] at hw259_4)
                            (try rw [Addr.add_zero'] at hw259_4)
                            have hw259_3 := hx259_3
                            (try rw [show ((0 : Int)).toNat = 0 from rfl] at hw259_3)
                            (try rw [show 0 * 7 = 0 from rfl] at hw259_3)
                            (try rw [Addr.add_zero'] at hw259_3)
                            have hw259_2 := hx259_2
                            (try rw [show ((0 : Int)).toNat = 0 from rfl] at hw259_2)
                            (try rw [show 0 * 7 = 0 from rfl] at hw259_2)
                            (try rw [Addr.add_zero'] at hw259_2)
                            have hw259_1 := hx259_1
                            (try rw [show ((0 : Int)).toNat = 0 from rfl] at hw259_1)
                            (try rw [show 0 * 7 = 0 from rfl] at hw259_1)
                            (try rw [Addr.add_zero'] at hw259_1)
                            have hw259_0 := hx259_0
                            (try rw [show ((0 : Int)).toNat = 0 from rfl] at hw259_0)
                            (try rw [show 0 * 7 = 0 from rfl] at hw259_0)
                            (try rw [Addr.add_zero'] at hw259_0)
                            (try rw [← Nbq25.out] at hx259_4)
                            (try rw [← Nbq25.out] at hw259_4)
                            (try rw [← Nbq25.out] at hx259_5)
                            (try rw [← Nbq25.out] at hw259_5)
                            (try rw [← Nbq25.out] at hx259_6)
                            (try rw [← Nbq25.out] at hw259_6)
                            obtain rfl : ad255 = ad259 := (by injection e259)
                            have qi259 : (0 < l0.length) = True := eq_true (by omega)
                            (try rw [show ((0 : Int)).toNat = 0 from rfl] at hx259_0)
                            (try rw [show 0 * 7 = 0 from rfl] at hx259_0)
                            (try rw [Addr.add_zero'] at hx259_0)
                            (try rw [show ((0 : Int)).toNat = 0 from rfl] at hx259_1)
                            (try rw [show 0 * 7 = 0 from rfl] at hx259_1)
                            (try rw [Addr.add_zero'] at hx259_1)
                            (try rw [show ((0 : Int)).toNat = 0 from rfl] at hx259_2)
                            (try rw [show 0 * 7 = 0 from rfl] at hx259_2)
                            (try rw [Addr.add_zero'] at hx259_2)
                            (try rw [show ((0 : Int)).toNat = 0 from rfl] at hx259_3)
                            (try rw [show 0 * 7 = 0 from rfl] at hx259_3)
                            (try rw [Addr.add_zero'] at hx259_3)
                            (try rw [show ((0 : Int)).toNat = 0 from rfl] at hx259_4)
                            (try rw [show 0 * 7 = 0 from rfl] at hx259_4)
                            (try rw [Addr.add_zero'] at hx259_4)
                            (try rw [show ((0 : Int)).toNat = 0 from rfl] at hx259_5)
                            (try rw [show 0 * 7 = 0 from rfl] at hx259_5)
                            (try rw [Addr.add_zero'] at hx259_5)
                            (try rw [show ((0 : Int)).toNat = 0 from rfl] at hx259_6)
                            (try rw [show 0 * 7 = 0 from rfl] at hx259_6)
                            (try rw [Addr.add_zero'] at hx259_6)
                            replace hx259_0 := (HB.out.cell (World.block_lt_of_cell? w _ hx259_0)).trans hx259_0
                            replace hx259_1 := (HB.out.cell (World.block_lt_of_cell? w _ hx259_1)).trans hx259_1
                            replace hx259_2 := (HB.out.cell (World.block_lt_of_cell? w _ hx259_2)).trans hx259_2
                            replace hx259_3 := (HB.out.cell (World.block_lt_of_cell? w _ hx259_3)).trans hx259_3
                            replace hx259_4 := (HB.out.cell (World.block_lt_of_cell? w _ hx259_4)).trans hx259_4
                            replace hx259_5 := (HB.out.cell (World.block_lt_of_cell? w _ hx259_5)).trans hx259_5
                            replace hx259_6 := (HB.out.cell (World.block_lt_of_cell? w _ hx259_6)).trans hx259_6
                            replace p259 := eq_true p259
                            replace q259 := eq_true q259
                            refine start_ (n := 12) (S := fun w' => w'.cell? (ad255.add ((x8_2).toNat * 7)) = some (.int .i64 ((rd_T29 l0 x8_2).f0)) ∧ w'.cell? ⟨(ad255.add ((x8_2).toNat * 7)).block, (ad255.add ((x8_2).toNat * 7)).off + 1, none⟩ = some (.int .i64 ((rd_T29 l0 x8_2).f1)) ∧ w'.cell? ⟨(ad255.add ((x8_2).toNat * 7)).block, (ad255.add ((x8_2).toNat * 7)).off + 2, none⟩ = some (.int .i64 ((rd_T29 l0 x8_2).f2)) ∧ w'.cell? ⟨(ad255.add ((x8_2).toNat * 7)).block, (ad255.add ((x8_2).toNat * 7)).off + 3, none⟩ = some (.int .i64 ((rd_T29 l0 x8_2).f3)) ∧ w'.cell? ⟨(ad255.add ((x8_2).toNat * 7)).block, (ad255.add ((x8_2).toNat * 7)).off + 4, none⟩ = some (.bool ((rd_T29 l0 x8_2).f4)) ∧ w'.cell? ⟨(ad255.add ((x8_2).toNat * 7)).block, (ad255.add ((x8_2).toNat * 7)).off + 5, none⟩ = some (.bool false) ∧ w'.cell? ⟨(ad255.add ((x8_2).toNat * 7)).block, (ad255.add ((x8_2).toNat * 7)).off + 6, none⟩ = some (.bool ((rd_T29 l0 x8_2).f6)) ∧ w'.cell? ad255 = some (.int .i64 ((rd_T29 l0 0).f0)) ∧ w'.cell? ⟨ad255.block, ad255.off + 1, none⟩ = some (.int .i64 ((rd_T29 l0 0).f1)) ∧ w'.cell? ⟨ad255.block, ad255.off + 2, none⟩ = some (.int .i64 ((rd_T29 l0 0).f2)) ∧ w'.cell? ⟨ad255.block, ad255.off + 3, none⟩ = some (.int .i64 ((rd_T29 l0 0).f3)) ∧ w'.cell? ⟨ad255.block, ad255.off + 4, none⟩ = some (.bool ((rd_T29 l0 0).f4)) ∧ w'.cell? ⟨ad255.block, ad255.off + 5, none⟩ = some (.bool ((rd_T29 l0 0).f5)) ∧ w'.cell? ⟨ad255.block, ad255.off + 6, none⟩ = some (.bool ((rd_T29 l0 0).f6))) (ds := []) #[false, false, false, false, false, false, false, false, false, false, false, false] (by kernel_rfl) rfl rfl ⟨((HB.out.cell (World.block_lt_of_cell? w _ hw255_0)).trans hw255_0), ((HB.out.cell (World.block_lt_of_cell? w _ hw255_1)).trans hw255_1), ((HB.out.cell (World.block_lt_of_cell? w _ hw255_2)).trans hw255_2), ((HB.out.cell (World.block_lt_of_cell? w _ hw255_3)).trans hw255_3), ((HB.out.cell (World.block_lt_of_cell? w _ hw255_4)).trans hw255_4), ((HB.out.cell (World.block_lt_of_cell? w _ hw255_5)).trans hw255_5), ((HB.out.cell (World.block_lt_of_cell? w _ hw255_6)).trans hw255_6), ((HB.out.cell (World.block_lt_of_cell? w _ hw259_0)).trans hw259_0), ((HB.out.cell (World.block_lt_of_cell? w _ hw259_1)).trans hw259_1), ((HB.out.cell (World.block_lt_of_cell? w _ hw259_2)).trans hw259_2), ((HB.out.cell (World.block_lt_of_cell? w _ hw259_3)).trans hw259_3), ((HB.out.cell (World.block_lt_of_cell? w _ hw259_4)).trans hw259_4), ((HB.out.cell (World.block_lt_of_cell? w _ hw259_5)).trans hw259_5), ((HB.out.cell (World.block_lt_of_cell? w _ hw259_6)).trans hw259_6)⟩ (fun hHeld => ?_); refine with_tabW variorumlaw16_LinenoSkips.tab9 variorumlaw16_LinenoSkips.bits9 (fun HT_ HW_ => ?_)
                            generalize wr.drew = w33 at HO_5 HO_6 HO_7 HB hx255_0 hx255_1 hx255_2 hx255_3 hx255_4 hx255_5 hx255_6 hx259_0 hx259_1 hx259_2 hx259_3 hx259_4 hx259_5 hx259_6 hHeld ⊢
                            refine pure_ (i := 0) (N := some 29) (v := ?_) (a' := ?_) #[true, false, false, false, false, false, false, false, false, false, false, false] rfl rfl (any_of HT_.out (by kernel_rfl)) (fun _ _ _ h => h) (Or.inl ⟨by rfl, ?_⟩) ?_ ?_
                            rotate_left
                            · intro w'
                              go_simp
                              with_reducible rfl
                            rotate_left
                            · simp only [Act.put, List.setIfInBounds_toArray, List.set_cons_zero, List.set_cons_succ, i64_w, i32_w]
                              rfl
                            refine pure_ (i := 1) (N := some 30) (v := ?_) (a' := ?_) #[true, true, false, false, false, false, false, false, false, false, false, false] rfl rfl (any_of HT_.out (by kernel_rfl)) (fun _ _ _ h => h) (Or.inl ⟨by rfl, ?_⟩) ?_ ?_
                            rotate_left
                            · intro w'
                              go_simp
                              with_reducible rfl
                            rotate_left
                            · simp only [Act.put, List.setIfInBounds_toArray, List.set_cons_zero, List.set_cons_succ, i64_w, i32_w]
                              rfl
                            refine pure_ (i := 2) (N := some 31) (v := ?_) (a' := ?_) #[true, true, true, false, false, false, false, false, false, false, false, false] rfl rfl (any_of HT_.out (by kernel_rfl)) (fun _ _ _ h => h) (Or.inl ⟨by rfl, ?_⟩) ?_ ?_
                            rotate_left
                            · intro w'
                              go_simp
                              with_reducible rfl
                            rotate_left
                            · simp only [Act.put, List.setIfInBounds_toArray, List.set_cons_zero, List.set_cons_succ, i64_w, i32_w]
                              rfl
                            refine pure_ (i := 4) (N := some 33) (v := ?_) (a' := ?_) #[true, true, true, false, true, false, false, false, false, false, false, false] rfl rfl (any_of HT_.out (by kernel_rfl)) (fun _ _ _ h => h) (Or.inl ⟨by rfl, ?_⟩) ?_ ?_
                            rotate_left
                            · intro w'
                              go_simp
                              with_reducible rfl
                            rotate_left
                            · simp only [Act.put, List.setIfInBounds_toArray, List.set_cons_zero, List.set_cons_succ, i64_w, i32_w]
                              rfl
                            refine pure_ (i := 6) (N := some 35) (v := ?_) (a' := ?_) #[true, true, true, false, true, false, true, false, false, false, false, false] rfl rfl (any_of HT_.out (by kernel_rfl)) (fun _ _ _ h => h) (Or.inl ⟨by rfl, ?_⟩) ?_ ?_
                            rotate_left
                            · intro w'
                              go_simp
                              with_reducible rfl
                            rotate_left
                            · simp only [Act.put, List.setIfInBounds_toArray, List.set_cons_zero, List.set_cons_succ, i64_w, i32_w]
                              rfl
                            refine pure_ (i := 7) (N := some 36) (v := ?_) (a' := ?_) #[true, true, true, false, true, false, true, true, false, false, false, false] rfl rfl (any_of HT_.out (by kernel_rfl)) (fun _ _ _ h => h) (Or.inl ⟨by rfl, ?_⟩) ?_ ?_
                            rotate_left
                            · intro w'
                              go_simp
                              with_reducible rfl
                            rotate_left
                            · simp only [Act.put, List.setIfInBounds_toArray, List.set_cons_zero, List.set_cons_succ, i64_w, i32_w]
                              rfl
                            refine pure_ (i := 9) (N := some 38) (v := ?_) (a' := ?_) #[true, true, true, false, true, false, true, true, false, true, false, false] rfl rfl (any_of HT_.out (by kernel_rfl)) (fun _ _ _ h => h) (Or.inl ⟨by rfl, ?_⟩) ?_ ?_
                            rotate_left
                            · intro w'
                              go_simp
                              with_reducible rfl
                            rotate_left
                            · simp only [Act.put, List.setIfInBounds_toArray, List.set_cons_zero, List.set_cons_succ, i64_w, i32_w]
                              rfl
                            refine take_ (i := 3) (N := some 32) (v := ?_) (a' := ?_) #[true, true, true, true, true, false, true, true, false, true, false, false] rfl rfl (take_ofW HT_.out HW_.out (by kernel_rfl)) (fun _ _ _ h => h) (Or.inl ⟨by rfl, ?_⟩) hHeld ?_ ?_
                            rotate_left
                            · rintro w' ⟨s0, s1, s2, s3, s4, s5, s6, s7, s8, s9, s10, s11, s12, s13⟩
                              go_simp
                              with_reducible rfl
                            rotate_left
                            · simp only [Act.put, List.setIfInBounds_toArray, List.set_cons_zero, List.set_cons_succ, i64_w, i32_w]
                              rfl
                            refine take_ (i := 8) (N := some 37) (v := ?_) (a' := ?_) #[true, true, true, true, true, false, true, true, true, true, false, false] rfl rfl (take_ofW HT_.out HW_.out (by kernel_rfl)) (fun _ _ _ h => h) (Or.inl ⟨by rfl, ?_⟩) hHeld ?_ ?_
                            rotate_left
                            · rintro w' ⟨s0, s1, s2, s3, s4, s5, s6, s7, s8, s9, s10, s11, s12, s13⟩
                              go_simp
                              with_reducible rfl
                            rotate_left
                            · simp only [Act.put, List.setIfInBounds_toArray, List.set_cons_zero, List.set_cons_succ, i64_w, i32_w]
                              rfl
                            refine one_ (i := 5) (N := some 34) #[true, true, true, true, true, true, true, true, true, true, false, false] rfl rfl (one_of HT_.out (by kernel_rfl)) (by decide) (fun K hK => ?_)
                            refine goes_ Try.func9 (by kernel_rfl) rfl #[.agg #[.int .i64 ((rd_T29 l0 x8_2).f0), .int .i64 ((rd_T29 l0 x8_2).f1), .int .i64 ((rd_T29 l0 x8_2).f2), .int .i64 ((rd_T29 l0 x8_2).f3), .bool ((rd_T29 l0 x8_2).f4), .bool false, .bool ((rd_T29 l0 x8_2).f6)], .int .i64 a1] (by rfl) rfl rfl (by (try simp only [List.map_toArray, List.map_cons, List.map_nil]); first | done | rfl | (simp only [List.length_drop, List.length_take]; rfl) | (simp only [*]; first | done | rfl)) ?_
                            with_reducible refine (lineno_Unit.calls ((rd_T29 l0 x8_2).f0) ((rd_T29 l0 x8_2).f1) ((rd_T29 l0 x8_2).f2) ((rd_T29 l0 x8_2).f3) ((rd_T29 l0 x8_2).f4) false ((rd_T29 l0 x8_2).f6) a1 t256 t257 t258 _ A18.out).mono ?_
                            rintro e w34 ⟨rfl, hb⟩
                            refine ⟨_, rfl, ?_⟩
                            have n0_ := Aside0.mk (Kd.R_below (by (with_reducible repeat (first | apply Kd.R_alloc | apply Kd.R_drewN | apply Kd.R_drew)); exact HO_5.out) hb)
                            have n1_ := Aside0.mk (Kd.R_below (by (with_reducible repeat (first | apply Kd.R_alloc | apply Kd.R_drewN | apply Kd.R_drew)); exact HO_6.out) hb)
                            have n2_ := Aside0.mk (Kd.R_below (by (with_reducible repeat (first | apply Kd.R_alloc | apply Kd.R_drewN | apply Kd.R_drew)); exact HO_7.out) hb)
                            have n3_ := Aside0.mk (below_step (by repeat (first | (with_reducible first | exact HB.out | apply below_alloc | apply pw_below_drewN | apply below_drew1) | exact HB.out)) hb)
                            clear HO_5
                            clear HO_6
                            clear HO_7
                            clear HB
                            have HO_5 := n0_
                            have HO_6 := n1_
                            have HO_7 := n2_
                            have HB := n3_
                            clear n0_ n1_ n2_ n3_
                            (try clear hb)
                            (try clear hb2)
                            (try clear hk)
                            (try clear hi)
                            refine hK.out _ _ ⟨((HB.out.cell (World.block_lt_of_cell? w _ hw255_0)).trans hw255_0), ((HB.out.cell (World.block_lt_of_cell? w _ hw255_1)).trans hw255_1), ((HB.out.cell (World.block_lt_of_cell? w _ hw255_2)).trans hw255_2), ((HB.out.cell (World.block_lt_of_cell? w _ hw255_3)).trans hw255_3), ((HB.out.cell (World.block_lt_of_cell? w _ hw255_4)).trans hw255_4), ((HB.out.cell (World.block_lt_of_cell? w _ hw255_5)).trans hw255_5), ((HB.out.cell (World.block_lt_of_cell? w _ hw255_6)).trans hw255_6), ((HB.out.cell (World.block_lt_of_cell? w _ hw259_0)).trans hw259_0), ((HB.out.cell (World.block_lt_of_cell? w _ hw259_1)).trans hw259_1), ((HB.out.cell (World.block_lt_of_cell? w _ hw259_2)).trans hw259_2), ((HB.out.cell (World.block_lt_of_cell? w _ hw259_3)).trans hw259_3), ((HB.out.cell (World.block_lt_of_cell? w _ hw259_4)).trans hw259_4), ((HB.out.cell (World.block_lt_of_cell? w _ hw259_5)).trans hw259_5), ((HB.out.cell (World.block_lt_of_cell? w _ hw259_6)).trans hw259_6)⟩ (fun hHeld => ?_)
                            clear hK K
                            refine norm_ (a' := ?_) ?_ ?_
                            rotate_left
                            · show Act.put _ (some 34) _ = _
                              simp only [Act.put, List.setIfInBounds_toArray, List.set_cons_zero, List.set_cons_succ, i64_w, i32_w]
                              rfl
                            refine one_ (i := 10) (N := some 39) #[true, true, true, true, true, true, true, true, true, true, true, false] rfl rfl (one_of HT_.out (by kernel_rfl)) (by decide) (fun K hK => ?_)
                            refine goes_ Try.func9 (by kernel_rfl) rfl #[.agg #[.int .i64 ((rd_T29 l0 0).f0), .int .i64 ((rd_T29 l0 0).f1), .int .i64 ((rd_T29 l0 0).f2), .int .i64 ((rd_T29 l0 0).f3), .bool ((rd_T29 l0 0).f4), .bool ((rd_T29 l0 0).f5), .bool ((rd_T29 l0 0).f6)], .int .i64 a1] (by rfl) rfl rfl (by (try simp only [List.map_toArray, List.map_cons, List.map_nil]); first | done | rfl | (simp only [List.length_drop, List.length_take]; rfl) | (simp only [*]; first | done | rfl)) ?_
                            with_reducible refine (lineno_Unit.calls ((rd_T29 l0 0).f0) ((rd_T29 l0 0).f1) ((rd_T29 l0 0).f2) ((rd_T29 l0 0).f3) ((rd_T29 l0 0).f4) ((rd_T29 l0 0).f5) ((rd_T29 l0 0).f6) a1 t260 t261 t262 _ A20.out).mono ?_
                            rintro e w35 ⟨rfl, hb⟩
                            refine ⟨_, rfl, ?_⟩
                            have n0_ := Aside0.mk (Kd.R_below (by (with_reducible repeat (first | apply Kd.R_alloc | apply Kd.R_drewN | apply Kd.R_drew)); exact HO_5.out) hb)
                            have n1_ := Aside0.mk (Kd.R_below (by (with_reducible repeat (first | apply Kd.R_alloc | apply Kd.R_drewN | apply Kd.R_drew)); exact HO_6.out) hb)
                            have n2_ := Aside0.mk (Kd.R_below (by (with_reducible repeat (first | apply Kd.R_alloc | apply Kd.R_drewN | apply Kd.R_drew)); exact HO_7.out) hb)
                            have n3_ := Aside0.mk (below_step (by repeat (first | (with_reducible first | exact HB.out | apply below_alloc | apply pw_below_drewN | apply below_drew1) | exact HB.out)) hb)
                            clear HO_5
                            clear HO_6
                            clear HO_7
                            clear HB
                            have HO_5 := n0_
                            have HO_6 := n1_
                            have HO_7 := n2_
                            have HB := n3_
                            clear n0_ n1_ n2_ n3_
                            (try clear hb)
                            (try clear hb2)
                            (try clear hk)
                            (try clear hi)
                            refine hK.out _ _ ⟨((HB.out.cell (World.block_lt_of_cell? w _ hw255_0)).trans hw255_0), ((HB.out.cell (World.block_lt_of_cell? w _ hw255_1)).trans hw255_1), ((HB.out.cell (World.block_lt_of_cell? w _ hw255_2)).trans hw255_2), ((HB.out.cell (World.block_lt_of_cell? w _ hw255_3)).trans hw255_3), ((HB.out.cell (World.block_lt_of_cell? w _ hw255_4)).trans hw255_4), ((HB.out.cell (World.block_lt_of_cell? w _ hw255_5)).trans hw255_5), ((HB.out.cell (World.block_lt_of_cell? w _ hw255_6)).trans hw255_6), ((HB.out.cell (World.block_lt_of_cell? w _ hw259_0)).trans hw259_0), ((HB.out.cell (World.block_lt_of_cell? w _ hw259_1)).trans hw259_1), ((HB.out.cell (World.block_lt_of_cell? w _ hw259_2)).trans hw259_2), ((HB.out.cell (World.block_lt_of_cell? w _ hw259_3)).trans hw259_3), ((HB.out.cell (World.block_lt_of_cell? w _ hw259_4)).trans hw259_4), ((HB.out.cell (World.block_lt_of_cell? w _ hw259_5)).trans hw259_5), ((HB.out.cell (World.block_lt_of_cell? w _ hw259_6)).trans hw259_6)⟩ (fun hHeld => ?_)
                            clear hK K
                            refine norm_ (a' := ?_) ?_ ?_
                            rotate_left
                            · show Act.put _ (some 39) _ = _
                              simp only [Act.put, List.setIfInBounds_toArray, List.set_cons_zero, List.set_cons_succ, i64_w, i32_w]
                              rfl
                            refine pure_ (i := 11) (N := some 40) (v := ?_) (a' := ?_) #[true, true, true, true, true, true, true, true, true, true, true, true] rfl rfl (any_of HT_.out (by kernel_rfl)) (fun _ _ _ h => h) (Or.inl ⟨by rfl, ?_⟩) ?_ ?_
                            rotate_left
                            · intro w'
                              go_simp
                              with_reducible rfl
                            rotate_left
                            · simp only [Act.put, List.setIfInBounds_toArray, List.set_cons_zero, List.set_cons_succ, i64_w, i32_w]
                              rfl
                            refine done_ (done_of HT_.out (by kernel_rfl)) ?_
                            have p263 : 0 ≤ (x8_2 : Int) := of_decide_eq_true (by first | (with_reducible assumption) | assumption)
                            have q263 : x8_2 < (l0.length : Int) := of_decide_eq_true (by first | (with_reducible assumption) | assumption)
                            obtain ⟨ad263, e263, hx263_0, hx263_1, hx263_2, hx263_3, hx263_4, hx263_5, hx263_6⟩ := at_T29 HR0.out x8_2 p263 q263
                            (try rw [← Nbq25.out] at hx263_4)
                            (try rw [← Nbq25.out] at hw263_4)
                            (try rw [← Nbq25.out] at hx263_5)
                            (try rw [← Nbq25.out] at hw263_5)
                            (try rw [← Nbq25.out] at hx263_6)
                            (try rw [← Nbq25.out] at hw263_6)
                            obtain rfl : ad255 = ad263 := (by injection e263)
                            replace hx263_0 := (HB.out.cell (World.block_lt_of_cell? w _ hx263_0)).trans hx263_0
                            replace hx263_1 := (HB.out.cell (World.block_lt_of_cell? w _ hx263_1)).trans hx263_1
                            replace hx263_2 := (HB.out.cell (World.block_lt_of_cell? w _ hx263_2)).trans hx263_2
                            replace hx263_3 := (HB.out.cell (World.block_lt_of_cell? w _ hx263_3)).trans hx263_3
                            replace hx263_4 := (HB.out.cell (World.block_lt_of_cell? w _ hx263_4)).trans hx263_4
                            replace hx263_5 := (HB.out.cell (World.block_lt_of_cell? w _ hx263_5)).trans hx263_5
                            replace hx263_6 := (HB.out.cell (World.block_lt_of_cell? w _ hx263_6)).trans hx263_6
                            replace p263 := eq_true p263
                            replace q263 := eq_true q263
                            have p264 : 0 ≤ (x8_2 : Int) := of_decide_eq_true (by first | (with_reducible assumption) | assumption)
                            have q264 : x8_2 < (l0.length : Int) := of_decide_eq_true (by first | (with_reducible assumption) | assumption)
                            obtain ⟨ad264, e264, hx264_0, hx264_1, hx264_2, hx264_3, hx264_4, hx264_5, hx264_6⟩ := at_T29 HR0.out x8_2 p264 q264
                            (try rw [← Nbq25.out] at hx264_4)
                            (try rw [← Nbq25.out] at hw264_4)
                            (try rw [← Nbq25.out] at hx264_5)
                            (try rw [← Nbq25.out] at hw264_5)
                            (try rw [← Nbq25.out] at hx264_6)
                            (try rw [← Nbq25.out] at hw264_6)
                            obtain rfl : ad255 = ad264 := (by injection e264)
                            replace hx264_0 := (HB.out.cell (World.block_lt_of_cell? w _ hx264_0)).trans hx264_0
                            replace hx264_1 := (HB.out.cell (World.block_lt_of_cell? w _ hx264_1)).trans hx264_1
                            replace hx264_2 := (HB.out.cell (World.block_lt_of_cell? w _ hx264_2)).trans hx264_2
                            replace hx264_3 := (HB.out.cell (World.block_lt_of_cell? w _ hx264_3)).trans hx264_3
                            replace hx264_4 := (HB.out.cell (World.block_lt_of_cell? w _ hx264_4)).trans hx264_4
                            replace hx264_5 := (HB.out.cell (World.block_lt_of_cell? w _ hx264_5)).trans hx264_5
                            replace hx264_6 := (HB.out.cell (World.block_lt_of_cell? w _ hx264_6)).trans hx264_6
                            replace p264 := eq_true p264
                            replace q264 := eq_true q264
                            try go_wp2_with (first | ((with_reducible refine gate_builtin (b := .append) (xs := #[.tmp 47, .tmp 52]) rfl ?_); (try (refine gate_guard (by rfl) ?_; dsimp only)); at_builtin; refine Kd.R_append k29 (w0 := w) w.heap.size rfl (.tmp 47) (.tmp 52) 22 29 (.agg #[(.int .i64 0), (.int .i64 0), (.int .i64 0), (.int .i64 0), (.bool false), (.bool false), (.bool false)]) 40 rfl Try.underlying22 info29 rfl (by decide) (by omega) u6 x6_2 (⟨(rd_T29 l0 x8_2).f0, (rd_T29 l0 x8_2).f1, (rd_T29 l0 x8_2).f2, (rd_T29 l0 x8_2).f3, (rd_T29 l0 x8_2).f4, false, (rd_T29 l0 x8_2).f6⟩ : S29) [.int .i64 ((rd_T29 l0 x8_2).f0), .int .i64 ((rd_T29 l0 x8_2).f1), .int .i64 ((rd_T29 l0 x8_2).f2), .int .i64 ((rd_T29 l0 x8_2).f3), .bool ((rd_T29 l0 x8_2).f4), .bool false, .bool ((rd_T29 l0 x8_2).f6)] (fun _ => True) (fun _ => False) rfl rfl ?aP (fun _ hk => hk.elim) ?aF ?aO ?aB ?aS ?aL ?_; (case aP => exact k29_mkM _ _ _ (⟨(rd_T29 l0 x8_2).f0, (rd_T29 l0 x8_2).f1, (rd_T29 l0 x8_2).f2, (rd_T29 l0 x8_2).f3, (rd_T29 l0 x8_2).f4, false, (rd_T29 l0 x8_2).f6⟩ : S29)); (case aB => exact (by repeat (first | (with_reducible first | exact HB.out | apply below_alloc | apply pw_below_drewN | apply below_drew1) | exact HB.out))); (case aF => exact (fun _ _ => trivial)); (case aO => exact (by (with_reducible repeat (first | apply Kd.R_alloc | apply Kd.R_drewN | apply Kd.R_drew)); exact HO_6.out)); (case aS => exact (below_size (by repeat (first | (with_reducible first | exact HB.out | apply below_alloc | apply pw_below_drewN | apply below_drew1) | exact HB.out)))); (case aL => have := LMc30.out; omega); intro v266 w36 ho hb hg hat; rw [← Ny265.out] at ho; have n0_ := Aside0.mk (Kd.R_over' (by (with_reducible repeat (first | apply Kd.R_alloc | apply Kd.R_drewN | apply Kd.R_drew)); exact HO_5.out) (Kd.R_typed (by (with_reducible repeat (first | apply Kd.R_alloc | apply Kd.R_drewN | apply Kd.R_drew)); exact HO_6.out)) (by decide) hg); have n1_ := Aside0.mk (Kd.R_over' (by (with_reducible repeat (first | apply Kd.R_alloc | apply Kd.R_drewN | apply Kd.R_drew)); exact HO_7.out) (Kd.R_typed (by (with_reducible repeat (first | apply Kd.R_alloc | apply Kd.R_drewN | apply Kd.R_drew)); exact HO_6.out)) (by decide) hg); have n2_ := Aside0.mk (hb); have n3_ := Aside0.mk (ho); clear HO_5; clear HO_7; clear HB; clear HO_6; have HO_5 := n0_; have HO_7 := n1_; have HB := n2_; have HO267 := n3_; clear n0_ n1_ n2_ n3_; clear ho hb hg hat; obtain ⟨Ao37, co37, eo37⟩ := Kd.R_slice HO_5.out; subst eo37; have p268 : 0 ≤ (x8_2 : Int) := of_decide_eq_true (by first | (with_reducible assumption) | assumption); have q268 : x8_2 < (t245.length : Int) := of_decide_eq_true (by first | (with_reducible assumption) | assumption); obtain ⟨ad268, e268, hx268_0, hx268_1⟩ := at_T31 (Kd.R_reads' HO_5.out).2.2 x8_2 p268 q268; cases e268; replace p268 := eq_true p268; replace q268 := eq_true q268) | ((with_reducible refine gate_builtin (b := .append) (xs := #[.tmp 54, .tmp 59]) rfl ?_); (try (refine gate_guard (by rfl) ?_; dsimp only)); at_builtin; refine Kd.R_append k31 (w0 := w) w.heap.size rfl (.tmp 54) (.tmp 59) 23 31 (.agg #[(.int .i64 0), (.int .i64 0)]) 16 rfl Try.underlying23 info31 rfl (by decide) (by omega) u7 x7_2 (⟨(rd_T31 t245 x8_2).f0, (rd_T31 t245 x8_2).f1⟩ : S31) [.int .i64 ((rd_T31 t245 x8_2).f0), .int .i64 ((rd_T31 t245 x8_2).f1)] (fun k_ => some k_ ≠ (.slice (some ad268) t245.length co37 : Value).ownBlock) (fun _ => False) rfl rfl ?aP (fun _ hk => hk.elim) ?aF ?aO ?aB ?aS ?aL ?_; (case aP => exact k31_mkM _ _ _ (⟨(rd_T31 t245 x8_2).f0, (rd_T31 t245 x8_2).f1⟩ : S31)); (case aB => exact (by repeat (first | (with_reducible first | exact HB.out | apply below_alloc | apply pw_below_drewN | apply below_drew1) | exact HB.out))); (case aF => exact (fun k_ hk => Kd.fresh' (Kd.R_lt (by (with_reducible repeat (first | apply Kd.R_alloc | apply Kd.R_drewN | apply Kd.R_drew)); exact HO_5.out)) k_ hk)); (case aO => exact (by (with_reducible repeat (first | apply Kd.R_alloc | apply Kd.R_drewN | apply Kd.R_drew)); exact HO_7.out)); (case aS => exact (below_size (by repeat (first | (with_reducible first | exact HB.out | apply below_alloc | apply pw_below_drewN | apply below_drew1) | exact HB.out)))); (case aL => have := LMc32.out; omega); intro v270 w38 ho hb hg hat; rw [← Ny269.out] at ho; have n0_ := Aside0.mk (Kd.R_after (ok := (fun _ => True)) (by (with_reducible repeat (first | apply Kd.R_alloc | apply Kd.R_drewN | apply Kd.R_drew)); exact Kd.R_mono HO_5.out (fun _ hk => ⟨trivial, hk⟩)) hg hat); have n1_ := Aside0.mk (Kd.R_over' (by (with_reducible repeat (first | apply Kd.R_alloc | apply Kd.R_drewN | apply Kd.R_drew)); exact HO267.out) (Kd.R_typed (by (with_reducible repeat (first | apply Kd.R_alloc | apply Kd.R_drewN | apply Kd.R_drew)); exact HO_7.out)) (by decide) hg); have n2_ := Aside0.mk (hb); have n3_ := Aside0.mk (ho); clear HO_5; clear HO267; clear HB; clear HO_7; have HO_5 := n0_; have HO267 := n1_; have HB := n2_; have HO271 := n3_; clear n0_ n1_ n2_ n3_; clear ho hb hg hat))
                            go_roundg k2
                            case measure => have := HJ3.out; have := HK2.out; omega
                            case rel => exact ⟨(y265), (y269), (wrap64 (x8_2 + 1)), (by first | rfl | (simp; done) | (simp [*]; done)), H', ⟨by have := HJ3.out; have := HK2.out; omega⟩, ⟨by (with_reducible repeat (first | apply Kd.R_alloc | apply Kd.R_drewN | apply Kd.R_drew)); exact Kd.R_mono HO_5.out (fun _ hk => hk.2)⟩, ⟨by (with_reducible repeat (first | apply Kd.R_alloc | apply Kd.R_drewN | apply Kd.R_drew)); exact HO267.out⟩, ⟨by (with_reducible repeat (first | apply Kd.R_alloc | apply Kd.R_drewN | apply Kd.R_drew)); exact HO271.out⟩, ⟨by repeat (first | (with_reducible first | exact HB.out | apply below_alloc | apply pw_below_drewN | apply below_drew1) | exact HB.out)⟩⟩
                          · rw [if_neg c32] at H
                            exact absurd H (by simp)
                        · rw [if_neg c31] at H
                          exact absurd H (by simp)
                      · rw [if_neg c30] at H
                        exact absurd H (by simp)
                · rw [if_neg c19] at H
                  exact absurd H (by simp)
              · rw [if_neg c17] at H
                exact absurd H (by simp)
            · rw [if_neg c16] at H
              have c16b0 : decide (x8_2 < (l0.length : Int)) = false := decide_eq_false c16
              clear c16
              replace H := Option.bind_eq_some_iff.mp H
              obtain ⟨t272, A390, H⟩ := H
              replace H : ((variorumref16_Nums.f k2 t272 x7_2).bind fun t275 => (some t275)) = some r := H
              have A39 := Aside0.mk A390
              clear A390
              replace H := Option.bind_eq_some_iff.mp H
              obtain ⟨t275, A400, H⟩ := H
              replace H : (some t275) = some r := H
              have A40 := Aside0.mk A400
              clear A400
              obtain rfl := Option.some.inj H
              obtain ⟨Ao41, co41, eo41⟩ := Kd.R_slice HO_6.out
              subst eo41
              go_wp2_with (first | ((with_reducible refine gate_callee (f := 7) rfl ?_); refine goesL_ (some 63) rfl rfl Try.func7 (by kernel_rfl) rfl #[.slice Ao41 x6_2.length co41, .int .i64 a1] rfl (by (try simp only [List.map_toArray, List.map_cons, List.map_nil]); first | done | rfl | (simp only [List.length_drop, List.length_take]; rfl) | (simp only [*]; first | done | rfl)) ?_; (with_reducible refine (lineno_Number.calls k2 _ _ x6_2 a1 t272 _ ?side1 ?side2 A39.out).mono ?_); (case side1 => repeat (first | exact (Kd.R_reads' HO_6.out).2.2 | (with_reducible refine Kd.C_alloc ?_ _) | (with_reducible refine Kd.C_drewN ?_ _) | (with_reducible refine Kd.C_drew ?_))); (case side2 => exact (Kd.R_reads' HO_6.out).2.1); rintro e w42 ⟨v273, rfl, ho0, hb⟩; refine ⟨_, rfl, ?_⟩; have n0_ := Aside0.mk (Kd.R_elder' (by (with_reducible repeat (first | apply Kd.R_alloc | apply Kd.R_drewN | apply Kd.R_drew)); exact HO_5.out) (Kd.R_base ho0) hb); have n1_ := Aside0.mk (Kd.R_below (by (with_reducible repeat (first | apply Kd.R_alloc | apply Kd.R_drewN | apply Kd.R_drew)); exact HO_6.out) hb); have n2_ := Aside0.mk (Kd.R_elder' (by (with_reducible repeat (first | apply Kd.R_alloc | apply Kd.R_drewN | apply Kd.R_drew)); exact HO_7.out) (Kd.R_base ho0) hb); have n3_ := Aside0.mk (Kd.R_lower (Kd.R_new' (Kd.R_new' ho0 (Kd.R_lt (by (with_reducible repeat (first | apply Kd.R_alloc | apply Kd.R_drewN | apply Kd.R_drew)); exact HO_5.out))) (Kd.R_lt (by (with_reducible repeat (first | apply Kd.R_alloc | apply Kd.R_drewN | apply Kd.R_drew)); exact HO_7.out))) (below_size (by repeat (first | (with_reducible first | exact HB.out | apply below_alloc | apply pw_below_drewN | apply below_drew1) | exact HB.out)))); have n4_ := Aside0.mk (below_step (by repeat (first | (with_reducible first | exact HB.out | apply below_alloc | apply pw_below_drewN | apply below_drew1) | exact HB.out)) hb); clear HO_5; clear HO_6; clear HO_7; clear HB; have HO_5 := n0_; have HO_6 := n1_; have HO_7 := n2_; have HO274 := n3_; have HB := n4_; clear n0_ n1_ n2_ n3_ n4_; (try clear hb); (try clear hb2); (try clear hk); (try clear hi); (try clear ho0); obtain ⟨Ao43, co43, eo43⟩ := Kd.R_slice HO274.out; subst eo43; obtain ⟨Ao44, co44, eo44⟩ := Kd.R_slice HO_7.out; subst eo44) | ((with_reducible refine gate_callee (f := 10) rfl ?_); refine goesL_ (some 65) rfl rfl Try.func10 (by kernel_rfl) rfl #[.slice Ao43 t272.length co43, .slice Ao44 x7_2.length co44] rfl (by (try simp only [List.map_toArray, List.map_cons, List.map_nil]); first | done | rfl | (simp only [List.length_drop, List.length_take]; rfl) | (simp only [*]; first | done | rfl)) ?_; (with_reducible refine (variorumref16_Nums.calls k2 _ _ t272 _ _ x7_2 t275 _ ?side1 ?side2 ?side3 ?side4 A40.out).mono ?_); (case side1 => repeat (first | exact (Kd.R_reads' HO274.out).2.2 | (with_reducible refine Kd.C_alloc ?_ _) | (with_reducible refine Kd.C_drewN ?_ _) | (with_reducible refine Kd.C_drew ?_))); (case side2 => exact (Kd.R_reads' HO274.out).2.1); (case side3 => repeat (first | exact (Kd.R_reads' HO_7.out).2.2 | (with_reducible refine Kd.C_alloc ?_ _) | (with_reducible refine Kd.C_drewN ?_ _) | (with_reducible refine Kd.C_drew ?_))); (case side4 => exact (Kd.R_reads' HO_7.out).2.1); rintro e w' ⟨rfl, ⟨nd, rfl⟩⟩; refine ⟨_, rfl, ?_⟩))
              go_ret
              exact ⟨by first | rfl | (simp [errW_none, errW_some] <;> rfl) | (simp [*, errW_none, errW_some] <;> rfl), by repeat (first | (with_reducible first | exact HB.out | apply below_alloc | apply pw_below_drewN | apply below_drew1) | exact HB.out)⟩

/-- The one statement about numbers and lists that is left of the law. -/
def variorumlaw16_LinenoSkips.Pure : Prop := ∀ (x0 : List (S29)) (x1 : Int), (x0.length * 40 ≤ 140737488351232 ∧ ∀ y0 ∈ x0, ((Lit.int .i64 y0.f0).wf = true ∧ ((Lit.int .i64 y0.f1).wf = true ∧ ((Lit.int .i64 y0.f2).wf = true ∧ ((Lit.int .i64 y0.f3).wf = true ∧ (True ∧ (True ∧ (True)))))))) → (Lit.int .i64 x1).wf = true → ∃ k, variorumlaw16_LinenoSkips.f k x0 x1 = some true

end Go.Proofs.Ytbpomibholcpfaa.PAll

/- Written by a program of this session: functions of the given program as plain Lean functions, the walks that show it, and the row of each law, for every input that its statement speaks of. -/
import Derived.Test.YtnkdopihaohimaaPBrx0
import Derived.Test.YtnkdopihaohimaaPBrx2
import Derived.Test.YtnkdopihaohimaaPBrx3
namespace Go.Proofs.Ytnkdopihaohimaa.PBr
open Go.RowKit Go.Proofs.YtnkdopihaohimaaW.PrintWords Go.Proofs.YtnkdopihaohimaaW.PrintLast Go.Proofs.YtnkdopihaohimaaW.PrintMore
attribute [local go_sem] max2_int min2_int max_two min_two max_three min_three max_four min_four   -- for this text's walks alone
set_option linter.unusedVariables false
set_option linter.unusedSimpArgs false

/-! ### item_May: function 23 -/
def item_May.l0 : Nat → List (S45) → List (S47) → Int → Int → Option (Bool)
 | 0, _, _, _, _ => none
 | k + 1, x3, x9, x10, x11 => if x11 < x10 then (if 0 ≤ x11 then (if x11 < (x9.length : Int) then ((item_right.f k ((rd_T47 x9 x11).f0) ((rd_T47 x9 x11).f1.f0) ((rd_T47 x9 x11).f1.f1) ((rd_T47 x9 x11).f1.f2) ((rd_T47 x9 x11).f1.f3) ((rd_T47 x9 x11).f2) ((rd_T47 x9 x11).f3) ((rd_T47 x9 x11).f4) ((rd_T47 x9 x11).f5)).bind fun t119 => (if t119 = true then (if x3.length < 4398046511104 then (item_May.l0 k (x3 ++ [(⟨(rd_T47 x9 x11).f1.f0, (rd_T47 x9 x11).f1.f1, (rd_T47 x9 x11).f1.f2, (rd_T47 x9 x11).f1.f3⟩ : S45)]) x9 x10 (wrap64 (x11 + 1))) else (none)) else (some false))) else (none)) else (none)) else ((glue_May.f k x3).bind fun t123 => (some t123))
def item_May.f (k : Nat) (l0 : List (S47)) : Option (Bool) := if (l0.length : Int) > 2000 then (some false) else (item_May.l0 k ([] : List (S45)) l0 (l0.length : Int) 0)
theorem item_May.mono_l : ∀ k, (∀ y0 y1 y2 y3, LeO (item_May.l0 k y0 y1 y2 y3) (item_May.l0 (k + 1) y0 y1 y2 y3))
 | 0 => fun _ _ _ _ r h => by simp [item_May.l0] at h
 | k + 1 => by
  have ih0 := item_May.mono_l k
  ·intro y0 y1 y2 y3
   unfold item_May.l0
   repeat' first | (with_reducible first | exact ih0 _ _ _ _ | exact glue_May.mono _ _ | exact item_right.mono _ _ _ _ _ _ _ _ _ _ | exact LeO.refl _ | exact LeO.none _ | refine LeO.ite ?_ ?_ | refine LeO.bind ?_ (fun _ => ?_)) | exact LeO.none _ | refine LeO.ite ?_ ?_ | refine LeO.bind ?_ (fun _ => ?_)
theorem item_May.mono : ∀ a0 k, LeO (item_May.f k a0) (item_May.f (k + 1) a0) := by
 intro a0 k
 have ih0 := item_May.mono_l k
 unfold item_May.f
 repeat' first
   | (with_reducible exact ih0 _ _ _ _)
   | (with_reducible exact glue_May.mono _ _)
   | (with_reducible exact item_right.mono _ _ _ _ _ _ _ _ _ _)
   | (with_reducible exact LeO.refl _)
   | (with_reducible exact LeO.none _)
   | (with_reducible refine LeO.ite ?_ ?_)
   | (with_reducible refine LeO.bind ?_ (fun _ => ?_))
   | exact ih0 _ _ _ _
   | exact glue_May.mono _ _
   | exact item_right.mono _ _ _ _ _ _ _ _ _ _
   | exact LeO.none _
   | refine LeO.ite ?_ ?_
   | refine LeO.bind ?_ (fun _ => ?_)
set_option maxHeartbeats 8000000 in
set_option maxRecDepth 100000 in
theorem item_May.calls (k : Nat) (A0 : Option Addr) (c0 : Nat) (l0 : List (S47)) (r : Bool) (w : World) (hr0 : Kd.C k47 w A0 l0.length l0) (hc0 : l0.length ≤ c0) (h : item_May.f k l0 = some r) :
  Calls Try.prog 23 #[.slice A0 l0.length c0] w fun e w' => e = .returned (.bool r) ∧ Below w.heap.size w w' := by
 have hu47 := Try.underlying47
 have hu45 := Try.underlying45
 have HR0 := a_ hr0
 have HC0 := a_ hc0
 clear hr0 hc0
 have HB := a_ (Below.refl w.heap.size w)
 have H : (if (l0.length : Int) > 2000 then (some false) else (item_May.l0 k ([] : List (S45)) l0 (l0.length : Int) 0)) = some r := h
 clear h
 by_cases c2 : (l0.length : Int) > 2000
 ·rw [if_pos c2] at H
  have c2b0 : decide (2000 < (l0.length : Int)) = true := decide_eq_true c2
  have c2b1 : decide (2000 < l0.length) = true := decide_eq_true (by omega)
  clear c2
  obtain rfl := Option.some.inj H
  go_enter Try.func23, Try.ntmps23
  go_wp2
  go_ret
  exact ⟨by first | rfl | (simp [errW_none, errW_some] <;> rfl) | (simp [*, errW_none, errW_some] <;> rfl), bv_ HB.out⟩
 ·rw [if_neg c2] at H
  have c2b0 : decide (2000 < (l0.length : Int)) = false := decide_eq_false c2
  have c2b1 : decide (2000 < l0.length) = false := decide_eq_false (by omega)
  clear c2
  have H' := a_ H
  clear H
  go_enter Try.func23, Try.ntmps23
  go_wp2
  go_loopg [3, 11] k (fun kq v3 v11 w' => ∃ (x3_1 : List (S45)) (x11_1 : Int), v11 = .int .i64 x11_1 ∧ Aside0 (item_May.l0 kq x3_1 l0 (l0.length : Int) x11_1 = some r) ∧ Aside0 (kq ≤ k) ∧ Aside0 (Kd.R k45 45 w' w.heap.size (fun _ => True) v3 x3_1) ∧ Aside0 (Below w.heap.size w w'))
  case atStart => exact ⟨(([] : List (S45))), (0), (by first | rfl | (simp; done) | (simp [*]; done)), H', ⟨Nat.le_refl _⟩, ⟨by first | exact Kd.R_nil _ _ _ _ _ | exact Kd.N_nil _ _ _ _ _ | exact Kd.V_nil _ _ _ _ _ | exact Kd.Q_nil _ _ _ _ _ | exact Kd.S_nil _ _ _ _ _⟩, ⟨bv_ HB.out⟩⟩
  case round =>
   clear H'
   try clear c2
   try clear c2b0
   try clear c2b1
   try clear p2
   obtain ⟨x3_1, x11_1, rfl, HA, HK1, HO_3, HB⟩ := hrel
   cases gk with
   | zero => exact absurd HA.out (by simp [item_May.l0])
   | succ k1 =>
    have H := HA.out
    clear HA
    simp only [item_May.l0] at H
    by_cases c3 : x11_1 < (l0.length : Int)
    ·rw [if_pos c3] at H
     have c3b0 : decide (x11_1 < (l0.length : Int)) = true := decide_eq_true c3
     clear c3
     by_cases c4 : 0 ≤ x11_1
     ·rw [if_pos c4] at H
      have c4b0 : decide (0 ≤ x11_1) = true := decide_eq_true c4
      clear c4
      by_cases c5 : x11_1 < (l0.length : Int)
      ·rw [if_pos c5] at H
       have c5b0 : decide (x11_1 < (l0.length : Int)) = true := decide_eq_true c5
       clear c5
       replace H := Option.bind_eq_some_iff.mp H
       obtain ⟨t119, A60, H⟩ := H
       replace H : (if t119 = true then (if x3_1.length < 4398046511104 then (item_May.l0 k1 (x3_1 ++ [(⟨(rd_T47 l0 x11_1).f1.f0, (rd_T47 l0 x11_1).f1.f1, (rd_T47 l0 x11_1).f1.f2, (rd_T47 l0 x11_1).f1.f3⟩ : S45)]) l0 (l0.length : Int) (wrap64 (x11_1 + 1))) else (none)) else (some false)) = some r := H
       have A6 := a_ A60
       clear A60
       by_cases c7 : t119 = true
       ·subst c7
        have H1 : (if x3_1.length < 4398046511104 then (item_May.l0 k1 (x3_1 ++ [(⟨(rd_T47 l0 x11_1).f1.f0, (rd_T47 l0 x11_1).f1.f1, (rd_T47 l0 x11_1).f1.f2, (rd_T47 l0 x11_1).f1.f3⟩ : S45)]) l0 (l0.length : Int) (wrap64 (x11_1 + 1))) else (none)) = some r := by rw [if_pos rfl] at H; exact H
        clear H
        have H := H1
        clear H1
        by_cases c8 : x3_1.length < 4398046511104
        ·rw [if_pos c8] at H
         have LMc8 := a_ c8
         clear c8
         obtain ⟨y120, hy120⟩ : ∃ y_ : List (S45), y_ = (x3_1 ++ [(⟨(rd_T47 l0 x11_1).f1.f0, (rd_T47 l0 x11_1).f1.f1, (rd_T47 l0 x11_1).f1.f2, (rd_T47 l0 x11_1).f1.f3⟩ : S45)]) := ⟨_, rfl⟩
         replace H : (item_May.l0 k1 y120 l0 (l0.length : Int) (wrap64 (x11_1 + 1))) = some r := by first | (rw [hy120]; with_reducible exact H) | (have H2_ := (Option.bind_some _ _).symm.trans H; rw [hy120]; with_reducible exact H2_) | (have H2_ := (Option.bind_some _ _).symm.trans H; with_reducible exact H2_) | with_reducible exact H | (rw [hy120]; exact H) | exact H
         have Ny120 := a_ hy120
         clear hy120
         have H' := a_ H
         clear H
         have p117 : 0 ≤ (x11_1 : Int) := od_
         have q117 : x11_1 < (l0.length : Int) := od_
         obtain ⟨ad117, e117, hx117_0, hx117_1, hx117_2, hx117_3, hx117_4, hx117_5, hx117_6, hx117_7, hx117_8⟩ := at_T47 (Kd.C_below HR0.out HB.out) x11_1 p117 q117
         cases e117
         replace p117 := eq_true p117
         replace q117 := eq_true q117
         go_wp2_with (first | ((with_reducible refine gate_dst (N := 5) rfl ?_); refine box_event ?hg (N := 5) ?hd (cs := #[.int .i64 0, .int .i64 0, .int .i64 0, .int .i64 0, .int .i64 0, .int .i64 0, .bool false, .int .i64 0, .int .i64 0]) (t := 47) ?hr ?_; (case hd => rfl); (case hg => rfl); (case hr => first | (go_simp; done) | (go_simp; rfl)); intro gb118 hg w9 hbox hb; have n0_ := a_ (Kd.R_below (rv_ HO_3.out) hb); have n1_ := a_ (bs_ HB.out hb); have n2_ := a_ (hbox); have n3_ := a_ ((by rw [hg]; exact (below_size (bv_ HB.out)) : w.heap.size ≤ gb118)); have n4_ := a_ ((by rw [hg]; exact (below_size (bv_ HB.out)) : w.heap.size ≤ gb118)); clear HO_3; clear HB; have HO_3 := n0_; have HB := n1_; have BK118 := n2_; have GW118 := n3_; have GE118 := n4_; clear n0_ n1_ n2_ n3_ n4_; clear hb hbox hg; obtain ⟨⟨Z10_0, Y10_0⟩, ⟨Z10_1, Y10_1⟩, ⟨Z10_2, Y10_2⟩, ⟨Z10_3, Y10_3⟩, ⟨Z10_4, Y10_4⟩, ⟨Z10_5, Y10_5⟩, ⟨Z10_6, Y10_6⟩, ⟨Z10_7, Y10_7⟩, Z10_8, Y10_8⟩ := cs9_ BK118.out) | ((with_reducible refine gate_callee (f := 32) rfl ?_); refine gl_ (some 16) Try.func32 (by kernel_rfl) #[.agg #[.int .i64 ((rd_T47 l0 x11_1).f0), .int .i64 ((rd_T47 l0 x11_1).f1.f0), .int .i64 ((rd_T47 l0 x11_1).f1.f1), .int .i64 ((rd_T47 l0 x11_1).f1.f2), .int .i64 ((rd_T47 l0 x11_1).f1.f3), .int .i64 ((rd_T47 l0 x11_1).f2), .bool ((rd_T47 l0 x11_1).f3), .int .i64 ((rd_T47 l0 x11_1).f4), .int .i64 ((rd_T47 l0 x11_1).f5)]] ?_; (with_reducible refine (item_right.calls k1 ((rd_T47 l0 x11_1).f0) ((rd_T47 l0 x11_1).f1.f0) ((rd_T47 l0 x11_1).f1.f1) ((rd_T47 l0 x11_1).f1.f2) ((rd_T47 l0 x11_1).f1.f3) ((rd_T47 l0 x11_1).f2) ((rd_T47 l0 x11_1).f3) ((rd_T47 l0 x11_1).f4) ((rd_T47 l0 x11_1).f5) true _ A6.out).mono ?_); rintro e w11 ⟨rfl, hb⟩; refine ⟨_, rfl, ?_⟩; have n0_ := a_ (Kd.R_below (by (with_reducible repeat (first | apply Kd.R_alloc | apply Kd.R_drewN | apply Kd.R_drew)); exact (Kd.R_mono (Kd.R_far (p := ⟨gb118, 8, none⟩) (Kd.R_far (p := ⟨gb118, 7, none⟩) (Kd.R_far (p := ⟨gb118, 6, none⟩) (Kd.R_far (p := ⟨gb118, 5, none⟩) (Kd.R_far (p := ⟨gb118, 4, none⟩) (Kd.R_far (p := ⟨gb118, 3, none⟩) (Kd.R_far (p := ⟨gb118, 2, none⟩) (Kd.R_far (p := ⟨gb118, 1, none⟩) (Kd.R_far (p := ⟨gb118, 0, none⟩) (Kd.R_types HO_3.out BK118.out (by decide)) (fun _ hk => hk.2) (.int .i64 ((rd_T47 l0 x11_1).f0))) (fun _ hk => hk.2) (.int .i64 ((rd_T47 l0 x11_1).f1.f0))) (fun _ hk => hk.2) (.int .i64 ((rd_T47 l0 x11_1).f1.f1))) (fun _ hk => hk.2) (.int .i64 ((rd_T47 l0 x11_1).f1.f2))) (fun _ hk => hk.2) (.int .i64 ((rd_T47 l0 x11_1).f1.f3))) (fun _ hk => hk.2) (.int .i64 ((rd_T47 l0 x11_1).f2))) (fun _ hk => hk.2) (.bool ((rd_T47 l0 x11_1).f3))) (fun _ hk => hk.2) (.int .i64 ((rd_T47 l0 x11_1).f4))) (fun _ hk => hk.2) (.int .i64 ((rd_T47 l0 x11_1).f5))) (fun _ h_ => h_.1))) hb); have n1_ := a_ (blk_below (g := gb118) (o := .cells #[.int .i64 ((rd_T47 l0 x11_1).f0), .int .i64 ((rd_T47 l0 x11_1).f1.f0), .int .i64 ((rd_T47 l0 x11_1).f1.f1), .int .i64 ((rd_T47 l0 x11_1).f1.f2), .int .i64 ((rd_T47 l0 x11_1).f1.f3), .int .i64 ((rd_T47 l0 x11_1).f2), .bool ((rd_T47 l0 x11_1).f3), .int .i64 ((rd_T47 l0 x11_1).f4), .int .i64 ((rd_T47 l0 x11_1).f5)] 47 (0, 0)) (kp0_ BK118.out) hb); have n2_ := a_ (below_step (bS1_ HB.out GE118.out) hb); clear HO_3; clear BK118; clear HB; have HO_3 := n0_; have BK118 := n1_; have HB := n2_; clear n0_ n1_ n2_; (try clear hb); (try clear hb2); (try clear hk); (try clear hi); obtain ⟨⟨Z12_0, Y12_0⟩, ⟨Z12_1, Y12_1⟩, ⟨Z12_2, Y12_2⟩, ⟨Z12_3, Y12_3⟩, ⟨Z12_4, Y12_4⟩, ⟨Z12_5, Y12_5⟩, ⟨Z12_6, Y12_6⟩, ⟨Z12_7, Y12_7⟩, Z12_8, Y12_8⟩ := cs9_ BK118.out) | ((with_reducible refine gate_builtin (b := .append) (xs := #[.tmp 18, .tmp 21]) rfl ?_); at_builtin; refine Kd.R_append k45 (w0 := w) w.heap.size rfl (.tmp 18) (.tmp 21) 67 45 (.agg #[(.int .i64 0), (.int .i64 0), (.int .i64 0), (.int .i64 0)]) 32 rfl Try.underlying67 info45 rfl (by decide) (by omega) u3 x3_1 (⟨(rd_T47 l0 x11_1).f1.f0, (rd_T47 l0 x11_1).f1.f1, (rd_T47 l0 x11_1).f1.f2, (rd_T47 l0 x11_1).f1.f3⟩ : S45) [.int .i64 ((rd_T47 l0 x11_1).f1.f0), .int .i64 ((rd_T47 l0 x11_1).f1.f1), .int .i64 ((rd_T47 l0 x11_1).f1.f2), .int .i64 ((rd_T47 l0 x11_1).f1.f3)] (fun _ => True) (fun _ => False) rfl rfl ?aP (fun _ hk => hk.elim) ?aF ?aO ?aB ?aS ?aL ?_; (case aP => exact k45_mkM _ _ _ (⟨(rd_T47 l0 x11_1).f1.f0, (rd_T47 l0 x11_1).f1.f1, (rd_T47 l0 x11_1).f1.f2, (rd_T47 l0 x11_1).f1.f3⟩ : S45)); (case aB => exact (bS1_ HB.out GE118.out)); (case aF => exact (fun _ _ => trivial)); (case aO => exact (rv_ HO_3.out)); (case aS => exact (below_size (bS1_ HB.out GE118.out))); (case aL => have := LMc8.out; omega); intro v121 w13 ho hb hg hat; rw [← Ny120.out] at ho; have n0_ := a_ (blk_grown (g := gb118) (o := .cells #[.int .i64 ((rd_T47 l0 x11_1).f0), .int .i64 ((rd_T47 l0 x11_1).f1.f0), .int .i64 ((rd_T47 l0 x11_1).f1.f1), .int .i64 ((rd_T47 l0 x11_1).f1.f2), .int .i64 ((rd_T47 l0 x11_1).f1.f3), .int .i64 ((rd_T47 l0 x11_1).f2), .bool ((rd_T47 l0 x11_1).f3), .int .i64 ((rd_T47 l0 x11_1).f4), .int .i64 ((rd_T47 l0 x11_1).f5)] 47 (0, 0)) (kv_ BK118.out) hg (Kd.R_ne HO_3.out BK118.out (by decide))); have n1_ := a_ (hb); have n2_ := a_ (ho); clear BK118; clear HB; clear HO_3; have BK118 := n0_; have HB := n1_; have HO122 := n2_; clear n0_ n1_ n2_; clear ho hb hg hat))
         go_roundg k1
         case measure => have := HK1.out; omega
         case rel => exact ⟨(y120), (wrap64 (x11_1 + 1)), (by first | rfl | (simp; done) | (simp [*]; done)), H', ⟨by have := HK1.out; omega⟩, ⟨by (with_reducible repeat (first | apply Kd.R_alloc | apply Kd.R_drewN | apply Kd.R_drew)); exact HO122.out⟩, ⟨bS1_ HB.out GE118.out⟩⟩
        ·rw [if_neg c8] at H
         exact absurd H (by simp)
       ·replace c7 := Bool.eq_false_iff.mpr c7
        subst c7
        have H1 : (some false) = some r := by rw [if_neg (show ¬ (false = true) by decide)] at H; exact H
        clear H
        have H := H1
        clear H1
        obtain rfl := Option.some.inj H
        have p117 : 0 ≤ (x11_1 : Int) := od_
        have q117 : x11_1 < (l0.length : Int) := od_
        obtain ⟨ad117, e117, hx117_0, hx117_1, hx117_2, hx117_3, hx117_4, hx117_5, hx117_6, hx117_7, hx117_8⟩ := at_T47 (Kd.C_below HR0.out HB.out) x11_1 p117 q117
        cases e117
        replace p117 := eq_true p117
        replace q117 := eq_true q117
        go_wp2_with (first | ((with_reducible refine gate_dst (N := 5) rfl ?_); refine box_event ?hg (N := 5) ?hd (cs := #[.int .i64 0, .int .i64 0, .int .i64 0, .int .i64 0, .int .i64 0, .int .i64 0, .bool false, .int .i64 0, .int .i64 0]) (t := 47) ?hr ?_; (case hd => rfl); (case hg => rfl); (case hr => first | (go_simp; done) | (go_simp; rfl)); intro gb118 hg w14 hbox hb; have n0_ := a_ (Kd.R_below (rv_ HO_3.out) hb); have n1_ := a_ (bs_ HB.out hb); have n2_ := a_ (hbox); have n3_ := a_ ((by rw [hg]; exact (below_size (bv_ HB.out)) : w.heap.size ≤ gb118)); have n4_ := a_ ((by rw [hg]; exact (below_size (bv_ HB.out)) : w.heap.size ≤ gb118)); clear HO_3; clear HB; have HO_3 := n0_; have HB := n1_; have BK118 := n2_; have GW118 := n3_; have GE118 := n4_; clear n0_ n1_ n2_ n3_ n4_; clear hb hbox hg; obtain ⟨⟨Z15_0, Y15_0⟩, ⟨Z15_1, Y15_1⟩, ⟨Z15_2, Y15_2⟩, ⟨Z15_3, Y15_3⟩, ⟨Z15_4, Y15_4⟩, ⟨Z15_5, Y15_5⟩, ⟨Z15_6, Y15_6⟩, ⟨Z15_7, Y15_7⟩, Z15_8, Y15_8⟩ := cs9_ BK118.out) | ((with_reducible refine gate_callee (f := 32) rfl ?_); refine gl_ (some 16) Try.func32 (by kernel_rfl) #[.agg #[.int .i64 ((rd_T47 l0 x11_1).f0), .int .i64 ((rd_T47 l0 x11_1).f1.f0), .int .i64 ((rd_T47 l0 x11_1).f1.f1), .int .i64 ((rd_T47 l0 x11_1).f1.f2), .int .i64 ((rd_T47 l0 x11_1).f1.f3), .int .i64 ((rd_T47 l0 x11_1).f2), .bool ((rd_T47 l0 x11_1).f3), .int .i64 ((rd_T47 l0 x11_1).f4), .int .i64 ((rd_T47 l0 x11_1).f5)]] ?_; (with_reducible refine (item_right.calls k1 ((rd_T47 l0 x11_1).f0) ((rd_T47 l0 x11_1).f1.f0) ((rd_T47 l0 x11_1).f1.f1) ((rd_T47 l0 x11_1).f1.f2) ((rd_T47 l0 x11_1).f1.f3) ((rd_T47 l0 x11_1).f2) ((rd_T47 l0 x11_1).f3) ((rd_T47 l0 x11_1).f4) ((rd_T47 l0 x11_1).f5) false _ A6.out).mono ?_); rintro e w16 ⟨rfl, hb⟩; refine ⟨_, rfl, ?_⟩; have n0_ := a_ (Kd.R_below (by (with_reducible repeat (first | apply Kd.R_alloc | apply Kd.R_drewN | apply Kd.R_drew)); exact (Kd.R_mono (Kd.R_far (p := ⟨gb118, 8, none⟩) (Kd.R_far (p := ⟨gb118, 7, none⟩) (Kd.R_far (p := ⟨gb118, 6, none⟩) (Kd.R_far (p := ⟨gb118, 5, none⟩) (Kd.R_far (p := ⟨gb118, 4, none⟩) (Kd.R_far (p := ⟨gb118, 3, none⟩) (Kd.R_far (p := ⟨gb118, 2, none⟩) (Kd.R_far (p := ⟨gb118, 1, none⟩) (Kd.R_far (p := ⟨gb118, 0, none⟩) (Kd.R_types HO_3.out BK118.out (by decide)) (fun _ hk => hk.2) (.int .i64 ((rd_T47 l0 x11_1).f0))) (fun _ hk => hk.2) (.int .i64 ((rd_T47 l0 x11_1).f1.f0))) (fun _ hk => hk.2) (.int .i64 ((rd_T47 l0 x11_1).f1.f1))) (fun _ hk => hk.2) (.int .i64 ((rd_T47 l0 x11_1).f1.f2))) (fun _ hk => hk.2) (.int .i64 ((rd_T47 l0 x11_1).f1.f3))) (fun _ hk => hk.2) (.int .i64 ((rd_T47 l0 x11_1).f2))) (fun _ hk => hk.2) (.bool ((rd_T47 l0 x11_1).f3))) (fun _ hk => hk.2) (.int .i64 ((rd_T47 l0 x11_1).f4))) (fun _ hk => hk.2) (.int .i64 ((rd_T47 l0 x11_1).f5))) (fun _ h_ => h_.1))) hb); have n1_ := a_ (blk_below (g := gb118) (o := .cells #[.int .i64 ((rd_T47 l0 x11_1).f0), .int .i64 ((rd_T47 l0 x11_1).f1.f0), .int .i64 ((rd_T47 l0 x11_1).f1.f1), .int .i64 ((rd_T47 l0 x11_1).f1.f2), .int .i64 ((rd_T47 l0 x11_1).f1.f3), .int .i64 ((rd_T47 l0 x11_1).f2), .bool ((rd_T47 l0 x11_1).f3), .int .i64 ((rd_T47 l0 x11_1).f4), .int .i64 ((rd_T47 l0 x11_1).f5)] 47 (0, 0)) (kp0_ BK118.out) hb); have n2_ := a_ (below_step (bS1_ HB.out GE118.out) hb); clear HO_3; clear BK118; clear HB; have HO_3 := n0_; have BK118 := n1_; have HB := n2_; clear n0_ n1_ n2_; (try clear hb); (try clear hb2); (try clear hk); (try clear hi)))
        go_ret
        exact ⟨by first | rfl | (simp [errW_none, errW_some] <;> rfl) | (simp [*, errW_none, errW_some] <;> rfl), bS1_ HB.out GE118.out⟩
      ·rw [if_neg c5] at H
       exact absurd H (by simp)
     ·rw [if_neg c4] at H
      exact absurd H (by simp)
    ·rw [if_neg c3] at H
     have c3b0 : decide (x11_1 < (l0.length : Int)) = false := decide_eq_false c3
     clear c3
     replace H := Option.bind_eq_some_iff.mp H
     obtain ⟨t123, A170, H⟩ := H
     replace H : (some t123) = some r := H
     have A17 := a_ A170
     clear A170
     obtain rfl := Option.some.inj H
     obtain ⟨Ao18, co18, eo18⟩ := Kd.R_slice HO_3.out
     subst eo18
     go_wp2_with (first | ((with_reducible refine gate_callee (f := 33) rfl ?_); refine gl_ (some 25) Try.func33 (by kernel_rfl) #[.slice Ao18 x3_1.length co18] ?_; (with_reducible refine (glue_May.calls k1 _ _ x3_1 t123 _ ?side1 ?side2 A17.out).mono ?_); (case side1 => exact cr_ (Kd.R_reads' HO_3.out).2.2); (case side2 => exact (Kd.R_reads' HO_3.out).2.1); rintro e w19 ⟨rfl, hb⟩; refine ⟨_, rfl, ?_⟩; have n0_ := a_ (Kd.R_below (rv_ HO_3.out) hb); have n1_ := a_ (bs_ HB.out hb); clear HO_3; clear HB; have HO_3 := n0_; have HB := n1_; clear n0_ n1_; (try clear hb); (try clear hb2); (try clear hk); (try clear hi)))
     go_ret
     exact ⟨by first | rfl | (simp [errW_none, errW_some] <;> rfl) | (simp [*, errW_none, errW_some] <;> rfl), bv_ HB.out⟩

/-! ### demerit_Legal: function 24 -/
def demerit_Legal.j0 : Nat → List (S47) → Int → Bool → Option (Bool)
 | 0, _, _, _ => none
 | k + 1, x0, x1, x12 => if x12 = true then (some false) else (if 0 ≤ x1 then (if x1 < (x0.length : Int) then (if ((rd_T47 x0 x1).f0) = 2 then (some (decide (((rd_T47 x0 x1).f2) < 10000))) else (if ((rd_T47 x0 x1).f0) = 1 then (if x1 > 0 then (if 0 ≤ (wrap64 (x1 - 1)) then (if (wrap64 (x1 - 1)) < (x0.length : Int) then (some (((rd_T47 x0 (wrap64 (x1 - 1))).f0) == 0)) else (none)) else (none)) else (some false)) else (some false))) else (none)) else (none))
def demerit_Legal.f (k : Nat) (l0 : List (S47)) (a1 : Int) : Option (Bool) := if a1 < 0 then (demerit_Legal.j0 k l0 a1 true) else (demerit_Legal.j0 k l0 a1 (decide (a1 ≥ (l0.length : Int))))
theorem demerit_Legal.mono_l : ∀ k, (∀ y0 y1 y2, LeO (demerit_Legal.j0 k y0 y1 y2) (demerit_Legal.j0 (k + 1) y0 y1 y2))
 | 0 => fun _ _ _ r h => by simp [demerit_Legal.j0] at h
 | k + 1 => by
  have ih0 := demerit_Legal.mono_l k
  ·intro y0 y1 y2
   unfold demerit_Legal.j0
   repeat' first | (with_reducible first | exact ih0 _ _ _ | exact LeO.refl _ | exact LeO.none _ | refine LeO.ite ?_ ?_ | refine LeO.bind ?_ (fun _ => ?_)) | exact LeO.none _ | refine LeO.ite ?_ ?_ | refine LeO.bind ?_ (fun _ => ?_)
theorem demerit_Legal.mono : ∀ a0 a1 k, LeO (demerit_Legal.f k a0 a1) (demerit_Legal.f (k + 1) a0 a1) := by
 intro a0 a1 k
 have ih0 := demerit_Legal.mono_l k
 unfold demerit_Legal.f
 repeat' first
   | (with_reducible exact ih0 _ _ _)
   | (with_reducible exact LeO.refl _)
   | (with_reducible exact LeO.none _)
   | (with_reducible refine LeO.ite ?_ ?_)
   | (with_reducible refine LeO.bind ?_ (fun _ => ?_))
   | exact ih0 _ _ _
   | exact LeO.none _
   | refine LeO.ite ?_ ?_
   | refine LeO.bind ?_ (fun _ => ?_)
set_option maxHeartbeats 8000000 in
set_option maxRecDepth 100000 in
theorem demerit_Legal.calls (k : Nat) (A0 : Option Addr) (c0 : Nat) (l0 : List (S47)) (a1 : Int) (r : Bool) (w : World) (hr0 : Kd.C k47 w A0 l0.length l0) (hc0 : l0.length ≤ c0) (h : demerit_Legal.f k l0 a1 = some r) :
  Calls Try.prog 24 #[.slice A0 l0.length c0, .int .i64 a1] w fun e w' => e = .returned (.bool r) ∧ Drawn0 w w' := by
 have HR0 := a_ hr0
 have HC0 := a_ hc0
 clear hr0 hc0
 have H : (if a1 < 0 then (demerit_Legal.j0 k l0 a1 true) else (demerit_Legal.j0 k l0 a1 (decide (a1 ≥ (l0.length : Int))))) = some r := h
 clear h
 have HC3 := a_ H
 clear H
 go_enter Try.func24, Try.ntmps24
 go_upto_region 1 with (fail)
 go_cut [12] (fun v12 wc => ∃ (kq : Nat) (x12_2 : Bool), v12 = .bool x12_2 ∧ Aside0 (demerit_Legal.j0 kq l0 a1 x12_2 = some r) ∧ Aside0 (kq ≤ k) ∧ Drawn0 w wc)
 case first =>
  have H := HC3.out
  clear HC3
  by_cases c4 : a1 < 0
  ·rw [if_pos c4] at H
   have c4b0 : decide (a1 < 0) = true := decide_eq_true c4
   clear c4
   (first | rw [c4b0] | (simp only [i64_w, i32_w]; rw [c4b0]) | skip)
   have H' := a_ H
   clear H
   go_wp2
   go_meet
   case rel => exact ⟨_, (true), (by first | rfl | (simp; done) | (simp [*]; done)), H', ⟨by first | omega | exact Nat.le_refl _⟩, by repeat (first | exact Drawn0.refl _ | apply Drawn0.step)⟩
  ·rw [if_neg c4] at H
   have c4b0 : decide (a1 < 0) = false := decide_eq_false c4
   clear c4
   (first | rw [c4b0] | (simp only [i64_w, i32_w]; rw [c4b0]) | skip)
   have H' := a_ H
   clear H
   go_wp2
   go_meet
   case rel => exact ⟨_, (decide (a1 ≥ (l0.length : Int))), (by first | rfl | (simp; done) | (simp [*]; done)), H', ⟨by first | omega | exact Nat.le_refl _⟩, by repeat (first | exact Drawn0.refl _ | apply Drawn0.step)⟩
 case rest =>
  clear HC3
  try clear c2
  try clear p2
  try clear c4
  try clear c4b0
  obtain ⟨kq, x12_2, rfl, HA, HJ2, ⟨mc2, rfl⟩⟩ := hcut
  cases kq with
  | zero => exact absurd HA.out (by simp [demerit_Legal.j0])
  | succ kj2 =>
   have H := HA.out
   clear HA
   simp only [demerit_Legal.j0] at H
   by_cases c5 : x12_2 = true
   ·subst c5
    have H1 : (some false) = some r := by rw [if_pos rfl] at H; exact H
    clear H
    have H := H1
    clear H1
    obtain rfl := Option.some.inj H
    go_wp2
    go_ret
    exact ⟨by first | rfl | (simp; done) | (simp [*]; done), by repeat (first | exact Drawn0.refl _ | apply Drawn0.step)⟩
   ·replace c5 := Bool.eq_false_iff.mpr c5
    subst c5
    have H1 : (if 0 ≤ a1 then (if a1 < (l0.length : Int) then (if ((rd_T47 l0 a1).f0) = 2 then (some (decide (((rd_T47 l0 a1).f2) < 10000))) else (if ((rd_T47 l0 a1).f0) = 1 then (if a1 > 0 then (if 0 ≤ (wrap64 (a1 - 1)) then (if (wrap64 (a1 - 1)) < (l0.length : Int) then (some (((rd_T47 l0 (wrap64 (a1 - 1))).f0) == 0)) else (none)) else (none)) else (some false)) else (some false))) else (none)) else (none)) = some r := by rw [if_neg (show ¬ (false = true) by decide)] at H; exact H
    clear H
    have H := H1
    clear H1
    by_cases c6 : 0 ≤ a1
    ·rw [if_pos c6] at H
     have c6b0 : decide (0 ≤ a1) = true := decide_eq_true c6
     clear c6
     by_cases c7 : a1 < (l0.length : Int)
     ·rw [if_pos c7] at H
      have c7b0 : decide (a1 < (l0.length : Int)) = true := decide_eq_true c7
      clear c7
      by_cases c8 : ((rd_T47 l0 a1).f0) = 2
      ·rw [if_pos c8] at H
       have c8b0 : (((rd_T47 l0 a1).f0) == 2) = true := beq_iff_eq.mpr c8
       have c8b1 : (((rd_T47 l0 a1).f0) != 2) = false := bne_eq_false_iff_eq.mpr c8
       clear c8
       obtain rfl := Option.some.inj H
       have p124 : 0 ≤ (a1 : Int) := od_
       have q124 : a1 < (l0.length : Int) := od_
       obtain ⟨ad124, e124, hx124_0, hx124_1, hx124_2, hx124_3, hx124_4, hx124_5, hx124_6, hx124_7, hx124_8⟩ := at_T47 HR0.out a1 p124 q124
       cases e124
       replace p124 := eq_true p124
       replace q124 := eq_true q124
       have p125 : 0 ≤ (a1 : Int) := od_
       have q125 : a1 < (l0.length : Int) := od_
       obtain ⟨ad125, e125, hx125_0, hx125_1, hx125_2, hx125_3, hx125_4, hx125_5, hx125_6, hx125_7, hx125_8⟩ := at_T47 HR0.out a1 p125 q125
       obtain rfl : ad124 = ad125 := (by injection e125)
       replace p125 := eq_true p125
       replace q125 := eq_true q125
       go_wp2
       go_ret
       exact ⟨by first | rfl | (simp; done) | (simp [*]; done), by repeat (first | exact Drawn0.refl _ | apply Drawn0.step)⟩
      ·rw [if_neg c8] at H
       have c8b0 : (((rd_T47 l0 a1).f0) == 2) = false := beq_eq_false_iff_ne.mpr c8
       have c8b1 : (((rd_T47 l0 a1).f0) != 2) = true := bne_iff_ne.mpr c8
       by_cases c9 : ((rd_T47 l0 a1).f0) = 1
       ·rw [if_pos c9] at H
        have c9b0 : (((rd_T47 l0 a1).f0) == 1) = true := beq_iff_eq.mpr c9
        have c9b1 : (((rd_T47 l0 a1).f0) != 1) = false := bne_eq_false_iff_eq.mpr c9
        clear c9
        by_cases c10 : a1 > 0
        ·rw [if_pos c10] at H
         have c10b0 : decide (0 < a1) = true := decide_eq_true c10
         clear c10
         obtain ⟨ji11, hji11⟩ : ∃ j_ : Int, (wrap64 (a1 - 1)) = j_ := ⟨_, rfl⟩
         replace H : (if 0 ≤ (ji11) then (if (ji11) < (l0.length : Int) then (some (((rd_T47 l0 (ji11)).f0) == 0)) else (none)) else (none)) = some r := by first | (rw [hji11] at H; exact H) | (simp only [hji11] at H ⊢; exact H)
         have hji11w : (IntKind.i64.wrap (a1 - 1)) = ji11 := (i64_w _).trans hji11
         by_cases c12 : 0 ≤ (ji11)
         ·rw [if_pos c12] at H
          have c12b0 : decide (0 ≤ (ji11)) = true := decide_eq_true c12
          clear c12
          by_cases c13 : (ji11) < (l0.length : Int)
          ·rw [if_pos c13] at H
           have c13b0 : decide ((ji11) < (l0.length : Int)) = true := decide_eq_true c13
           clear c13
           obtain rfl := Option.some.inj H
           have p124 : 0 ≤ (a1 : Int) := od_
           have q124 : a1 < (l0.length : Int) := od_
           obtain ⟨ad124, e124, hx124_0, hx124_1, hx124_2, hx124_3, hx124_4, hx124_5, hx124_6, hx124_7, hx124_8⟩ := at_T47 HR0.out a1 p124 q124
           cases e124
           replace p124 := eq_true p124
           replace q124 := eq_true q124
           have p126 : 0 ≤ ((ji11) : Int) := od_
           have q126 : (ji11) < (l0.length : Int) := od_
           obtain ⟨ad126, e126, hx126_0, hx126_1, hx126_2, hx126_3, hx126_4, hx126_5, hx126_6, hx126_7, hx126_8⟩ := at_T47 HR0.out (ji11) p126 q126
           obtain rfl : ad124 = ad126 := (by injection e126)
           replace p126 := eq_true p126
           replace q126 := eq_true q126
           go_wp2
           go_ret
           exact ⟨by first | rfl | (simp; done) | (simp only [← hji11] <;> (first | rfl | simp)) | (simp [*]; done), by repeat (first | exact Drawn0.refl _ | apply Drawn0.step)⟩
          ·rw [if_neg c13] at H
           exact absurd H (by simp)
         ·rw [if_neg c12] at H
          exact absurd H (by simp)
        ·rw [if_neg c10] at H
         have c10b0 : decide (0 < a1) = false := decide_eq_false c10
         clear c10
         obtain rfl := Option.some.inj H
         have p124 : 0 ≤ (a1 : Int) := od_
         have q124 : a1 < (l0.length : Int) := od_
         obtain ⟨ad124, e124, hx124_0, hx124_1, hx124_2, hx124_3, hx124_4, hx124_5, hx124_6, hx124_7, hx124_8⟩ := at_T47 HR0.out a1 p124 q124
         cases e124
         replace p124 := eq_true p124
         replace q124 := eq_true q124
         go_wp2
         go_ret
         exact ⟨by first | rfl | (simp; done) | (simp [*]; done), by repeat (first | exact Drawn0.refl _ | apply Drawn0.step)⟩
       ·rw [if_neg c9] at H
        have c9b0 : (((rd_T47 l0 a1).f0) == 1) = false := beq_eq_false_iff_ne.mpr c9
        have c9b1 : (((rd_T47 l0 a1).f0) != 1) = true := bne_iff_ne.mpr c9
        obtain rfl := Option.some.inj H
        have p124 : 0 ≤ (a1 : Int) := od_
        have q124 : a1 < (l0.length : Int) := od_
        obtain ⟨ad124, e124, hx124_0, hx124_1, hx124_2, hx124_3, hx124_4, hx124_5, hx124_6, hx124_7, hx124_8⟩ := at_T47 HR0.out a1 p124 q124
        cases e124
        replace p124 := eq_true p124
        replace q124 := eq_true q124
        go_wp2
        go_ret
        exact ⟨by first | rfl | (simp; done) | (simp [*]; done), by repeat (first | exact Drawn0.refl _ | apply Drawn0.step)⟩
     ·rw [if_neg c7] at H
      exact absurd H (by simp)
    ·rw [if_neg c6] at H
     exact absurd H (by simp)

/-! ### demerit_Forced: function 37 -/
def demerit_Forced.f (a0_0 : Int) (a0_1 : Int) (a0_2 : Int) (a0_3 : Int) (a0_4 : Int) (a0_5 : Int) (a0_6 : Bool) (a0_7 : Int) (a0_8 : Int) : Option (Bool) := if a0_0 = 2 then (some (a0_5 == (-10000))) else (some false)
set_option maxHeartbeats 8000000 in
set_option maxRecDepth 100000 in
theorem demerit_Forced.calls (a0_0 : Int) (a0_1 : Int) (a0_2 : Int) (a0_3 : Int) (a0_4 : Int) (a0_5 : Int) (a0_6 : Bool) (a0_7 : Int) (a0_8 : Int) (r : Bool) (w : World) (h : demerit_Forced.f a0_0 a0_1 a0_2 a0_3 a0_4 a0_5 a0_6 a0_7 a0_8 = some r) :
  Calls Try.prog 37 #[.agg #[.int .i64 a0_0, .int .i64 a0_1, .int .i64 a0_2, .int .i64 a0_3, .int .i64 a0_4, .int .i64 a0_5, .bool a0_6, .int .i64 a0_7, .int .i64 a0_8]] w fun e w' => e = .returned (.bool r) ∧ Below w.heap.size w w' := by
 have hu47 := Try.underlying47
 have HB := a_ (Below.refl w.heap.size w)
 have H : (if a0_0 = 2 then (some (a0_5 == (-10000))) else (some false)) = some r := h
 clear h
 by_cases c2 : a0_0 = 2
 ·rw [if_pos c2] at H
  have c2b0 : (a0_0 == 2) = true := beq_iff_eq.mpr c2
  have c2b1 : (a0_0 != 2) = false := bne_eq_false_iff_eq.mpr c2
  clear c2
  obtain rfl := Option.some.inj H
  go_enter Try.func37, Try.ntmps37
  go_wp2_with (first | ((with_reducible refine gate_dst (N := 1) rfl ?_); refine box_event ?hg (N := 1) ?hd (cs := #[.int .i64 a0_0, .int .i64 a0_1, .int .i64 a0_2, .int .i64 a0_3, .int .i64 a0_4, .int .i64 a0_5, .bool a0_6, .int .i64 a0_7, .int .i64 a0_8]) (t := 47) ?hr ?_; (case hd => rfl); (case hg => rfl); (case hr => first | (go_simp; done) | (go_simp; rfl)); intro gb127 hg w3 hbox hb; have n0_ := a_ (bs_ HB.out hb); have n1_ := a_ (hbox); have n2_ := a_ ((by rw [hg]; exact (below_size (bv_ HB.out)) : w.heap.size ≤ gb127)); have n3_ := a_ ((by rw [hg]; exact (below_size (bv_ HB.out)) : w.heap.size ≤ gb127)); clear HB; have HB := n0_; have BK127 := n1_; have GW127 := n2_; have GE127 := n3_; clear n0_ n1_ n2_ n3_; clear hb hbox hg; obtain ⟨⟨Z4_0, Y4_0⟩, ⟨Z4_1, Y4_1⟩, ⟨Z4_2, Y4_2⟩, ⟨Z4_3, Y4_3⟩, ⟨Z4_4, Y4_4⟩, ⟨Z4_5, Y4_5⟩, ⟨Z4_6, Y4_6⟩, ⟨Z4_7, Y4_7⟩, Z4_8, Y4_8⟩ := cs9_ BK127.out))
  go_ret
  exact ⟨by first | rfl | (simp [errW_none, errW_some] <;> rfl) | (simp [*, errW_none, errW_some] <;> rfl), bS1_ HB.out GE127.out⟩
 ·rw [if_neg c2] at H
  have c2b0 : (a0_0 == 2) = false := beq_eq_false_iff_ne.mpr c2
  have c2b1 : (a0_0 != 2) = true := bne_iff_ne.mpr c2
  obtain rfl := Option.some.inj H
  go_enter Try.func37, Try.ntmps37
  go_wp2_with (first | ((with_reducible refine gate_dst (N := 1) rfl ?_); refine box_event ?hg (N := 1) ?hd (cs := #[.int .i64 a0_0, .int .i64 a0_1, .int .i64 a0_2, .int .i64 a0_3, .int .i64 a0_4, .int .i64 a0_5, .bool a0_6, .int .i64 a0_7, .int .i64 a0_8]) (t := 47) ?hr ?_; (case hd => rfl); (case hg => rfl); (case hr => first | (go_simp; done) | (go_simp; rfl)); intro gb127 hg w5 hbox hb; have n0_ := a_ (bs_ HB.out hb); have n1_ := a_ (hbox); have n2_ := a_ ((by rw [hg]; exact (below_size (bv_ HB.out)) : w.heap.size ≤ gb127)); have n3_ := a_ ((by rw [hg]; exact (below_size (bv_ HB.out)) : w.heap.size ≤ gb127)); clear HB; have HB := n0_; have BK127 := n1_; have GW127 := n2_; have GE127 := n3_; clear n0_ n1_ n2_ n3_; clear hb hbox hg; obtain ⟨⟨Z6_0, Y6_0⟩, ⟨Z6_1, Y6_1⟩, ⟨Z6_2, Y6_2⟩, ⟨Z6_3, Y6_3⟩, ⟨Z6_4, Y6_4⟩, ⟨Z6_5, Y6_5⟩, ⟨Z6_6, Y6_6⟩, ⟨Z6_7, Y6_7⟩, Z6_8, Y6_8⟩ := cs9_ BK127.out))
  go_ret
  exact ⟨by first | rfl | (simp [errW_none, errW_some] <;> rfl) | (simp [*, errW_none, errW_some] <;> rfl), bS1_ HB.out GE127.out⟩

/-! ### demerit_Start: function 34 -/
def demerit_Start.l0 : Nat → List (S47) → Int → Option (Int)
 | 0, _, _ => none
 | k + 1, x0, x5 => if x5 < (x0.length : Int) then (if 0 ≤ x5 then (if ((rd_T47 x0 x5).f0) = 0 then (some x5) else ((demerit_Forced.f ((rd_T47 x0 x5).f0) ((rd_T47 x0 x5).f1.f0) ((rd_T47 x0 x5).f1.f1) ((rd_T47 x0 x5).f1.f2) ((rd_T47 x0 x5).f1.f3) ((rd_T47 x0 x5).f2) ((rd_T47 x0 x5).f3) ((rd_T47 x0 x5).f4) ((rd_T47 x0 x5).f5)).bind fun t130 => (if t130 = true then (some x5) else (demerit_Start.l0 k x0 (wrap64 (x5 + 1)))))) else (none)) else (some x5)
def demerit_Start.f (k : Nat) (l0 : List (S47)) (a1 : Int) : Option (Int) := if a1 ≥ (l0.length : Int) then (some (l0.length : Int)) else (demerit_Start.l0 k l0 (wrap64 ((mx a1 (-1)) + 1)))
theorem demerit_Start.mono_l : ∀ k, (∀ y0 y1, LeO (demerit_Start.l0 k y0 y1) (demerit_Start.l0 (k + 1) y0 y1))
 | 0 => fun _ _ r h => by simp [demerit_Start.l0] at h
 | k + 1 => by
  have ih0 := demerit_Start.mono_l k
  ·intro y0 y1
   unfold demerit_Start.l0
   repeat' first | (with_reducible first | exact ih0 _ _ | exact LeO.refl _ | exact LeO.none _ | refine LeO.ite ?_ ?_ | refine LeO.bind ?_ (fun _ => ?_)) | exact LeO.none _ | refine LeO.ite ?_ ?_ | refine LeO.bind ?_ (fun _ => ?_)
theorem demerit_Start.mono : ∀ a0 a1 k, LeO (demerit_Start.f k a0 a1) (demerit_Start.f (k + 1) a0 a1) := by
 intro a0 a1 k
 have ih0 := demerit_Start.mono_l k
 unfold demerit_Start.f
 repeat' first
   | (with_reducible exact ih0 _ _)
   | (with_reducible exact LeO.refl _)
   | (with_reducible exact LeO.none _)
   | (with_reducible refine LeO.ite ?_ ?_)
   | (with_reducible refine LeO.bind ?_ (fun _ => ?_))
   | exact ih0 _ _
   | exact LeO.none _
   | refine LeO.ite ?_ ?_
   | refine LeO.bind ?_ (fun _ => ?_)
set_option maxHeartbeats 8000000 in
set_option maxRecDepth 100000 in
theorem demerit_Start.calls (k : Nat) (A0 : Option Addr) (c0 : Nat) (l0 : List (S47)) (a1 : Int) (r : Int) (w : World) (hr0 : Kd.C k47 w A0 l0.length l0) (hc0 : l0.length ≤ c0) (h : demerit_Start.f k l0 a1 = some r) :
  Calls Try.prog 34 #[.slice A0 l0.length c0, .int .i64 a1] w fun e w' => e = .returned (.int .i64 r) ∧ Below w.heap.size w w' := by
 have hu47 := Try.underlying47
 have HR0 := a_ hr0
 have HC0 := a_ hc0
 clear hr0 hc0
 have HB := a_ (Below.refl w.heap.size w)
 have H : (if a1 ≥ (l0.length : Int) then (some (l0.length : Int)) else (demerit_Start.l0 k l0 (wrap64 ((mx a1 (-1)) + 1)))) = some r := h
 clear h
 obtain ⟨ji3, hji3⟩ : ∃ j_ : Int, (mx a1 (-1)) = j_ := ⟨_, rfl⟩
 replace H : (if a1 ≥ (l0.length : Int) then (some (l0.length : Int)) else (demerit_Start.l0 k l0 (wrap64 ((ji3) + 1)))) = some r := by first | (rw [hji3] at H; exact H) | (simp only [hji3] at H ⊢; exact H)
 have hji3_ : (if a1 < (-1) then (-1) else a1) = ji3 := hji3
 by_cases c4 : a1 ≥ (l0.length : Int)
 ·rw [if_pos c4] at H
  have c4b0 : decide ((l0.length : Int) ≤ a1) = true := decide_eq_true c4
  clear c4
  obtain rfl := Option.some.inj H
  go_enter Try.func34, Try.ntmps34
  go_wp2
  go_ret
  exact ⟨by first | rfl | (simp [errW_none, errW_some] <;> rfl) | (simp only [← hji3]; first | rfl | (simp [errW_none, errW_some] <;> rfl)) | (simp [*, errW_none, errW_some] <;> rfl), bv_ HB.out⟩
 ·rw [if_neg c4] at H
  have c4b0 : decide ((l0.length : Int) ≤ a1) = false := decide_eq_false c4
  clear c4
  have H' := a_ H
  clear H
  go_enter Try.func34, Try.ntmps34
  go_wp2
  go_loopg [5] k (fun kq v5 w' => ∃ (x5_1 : Int), v5 = .int .i64 x5_1 ∧ Aside0 (demerit_Start.l0 kq l0 x5_1 = some r) ∧ Aside0 (kq ≤ k) ∧ Aside0 (Below w.heap.size w w'))
  case atStart => exact ⟨(wrap64 ((ji3) + 1)), (by first | rfl | (simp; done) | (simp only [← hji3] <;> (first | rfl | simp)) | (simp [*]; done)), H', ⟨Nat.le_refl _⟩, ⟨bv_ HB.out⟩⟩
  case round =>
   clear H'
   try clear p2
   try clear c3
   try clear c4
   try clear c4b0
   obtain ⟨x5_1, rfl, HA, HK1, HB⟩ := hrel
   cases gk with
   | zero => exact absurd HA.out (by simp [demerit_Start.l0])
   | succ k1 =>
    have H := HA.out
    clear HA
    simp only [demerit_Start.l0] at H
    by_cases c5 : x5_1 < (l0.length : Int)
    ·rw [if_pos c5] at H
     have c5b0 : decide (x5_1 < (l0.length : Int)) = true := decide_eq_true c5
     clear c5
     by_cases c6 : 0 ≤ x5_1
     ·rw [if_pos c6] at H
      have c6b0 : decide (0 ≤ x5_1) = true := decide_eq_true c6
      clear c6
      by_cases c7 : ((rd_T47 l0 x5_1).f0) = 0
      ·rw [if_pos c7] at H
       have c7b0 : (((rd_T47 l0 x5_1).f0) == 0) = true := beq_iff_eq.mpr c7
       have c7b1 : (((rd_T47 l0 x5_1).f0) != 0) = false := bne_eq_false_iff_eq.mpr c7
       clear c7
       obtain rfl := Option.some.inj H
       have p128 : 0 ≤ (x5_1 : Int) := od_
       have q128 : x5_1 < (l0.length : Int) := od_
       obtain ⟨ad128, e128, hx128_0, hx128_1, hx128_2, hx128_3, hx128_4, hx128_5, hx128_6, hx128_7, hx128_8⟩ := at_T47 (Kd.C_below HR0.out HB.out) x5_1 p128 q128
       cases e128
       replace p128 := eq_true p128
       replace q128 := eq_true q128
       go_wp2
       go_ret
       exact ⟨by first | rfl | (simp [errW_none, errW_some] <;> rfl) | (simp only [← hji3]; first | rfl | (simp [errW_none, errW_some] <;> rfl)) | (simp [*, errW_none, errW_some] <;> rfl), bv_ HB.out⟩
      ·rw [if_neg c7] at H
       have c7b0 : (((rd_T47 l0 x5_1).f0) == 0) = false := beq_eq_false_iff_ne.mpr c7
       have c7b1 : (((rd_T47 l0 x5_1).f0) != 0) = true := bne_iff_ne.mpr c7
       replace H := Option.bind_eq_some_iff.mp H
       obtain ⟨t130, A80, H⟩ := H
       replace H : (if t130 = true then (some x5_1) else (demerit_Start.l0 k1 l0 (wrap64 (x5_1 + 1)))) = some r := H
       have A8 := a_ A80
       clear A80
       by_cases c9 : t130 = true
       ·subst c9
        have H1 : (some x5_1) = some r := by rw [if_pos rfl] at H; exact H
        clear H
        have H := H1
        clear H1
        obtain rfl := Option.some.inj H
        have p128 : 0 ≤ (x5_1 : Int) := od_
        have q128 : x5_1 < (l0.length : Int) := od_
        obtain ⟨ad128, e128, hx128_0, hx128_1, hx128_2, hx128_3, hx128_4, hx128_5, hx128_6, hx128_7, hx128_8⟩ := at_T47 (Kd.C_below HR0.out HB.out) x5_1 p128 q128
        cases e128
        replace p128 := eq_true p128
        replace q128 := eq_true q128
        have p129 : 0 ≤ (x5_1 : Int) := od_
        have q129 : x5_1 < (l0.length : Int) := od_
        obtain ⟨ad129, e129, hx129_0, hx129_1, hx129_2, hx129_3, hx129_4, hx129_5, hx129_6, hx129_7, hx129_8⟩ := at_T47 (Kd.C_below HR0.out HB.out) x5_1 p129 q129
        obtain rfl : ad128 = ad129 := (by injection e129)
        replace p129 := eq_true p129
        replace q129 := eq_true q129
        go_wp2_with (first | (go_at_call 37; (with_reducible refine (demerit_Forced.calls ((rd_T47 l0 x5_1).f0) ((rd_T47 l0 x5_1).f1.f0) ((rd_T47 l0 x5_1).f1.f1) ((rd_T47 l0 x5_1).f1.f2) ((rd_T47 l0 x5_1).f1.f3) ((rd_T47 l0 x5_1).f2) ((rd_T47 l0 x5_1).f3) ((rd_T47 l0 x5_1).f4) ((rd_T47 l0 x5_1).f5) true _ A8.out).mono ?_); rintro e w10 ⟨rfl, hb⟩; have n0_ := a_ (bs_ HB.out hb); clear HB; have HB := n0_; clear n0_; (try clear hb); (try clear hb2); (try clear hk); (try clear hi)))
        go_ret
        exact ⟨by first | rfl | (simp [errW_none, errW_some] <;> rfl) | (simp only [← hji3]; first | rfl | (simp [errW_none, errW_some] <;> rfl)) | (simp [*, errW_none, errW_some] <;> rfl), bv_ HB.out⟩
       ·replace c9 := Bool.eq_false_iff.mpr c9
        subst c9
        have H1 : (demerit_Start.l0 k1 l0 (wrap64 (x5_1 + 1))) = some r := by rw [if_neg (show ¬ (false = true) by decide)] at H; exact H
        clear H
        have H := H1
        clear H1
        have H' := a_ H
        clear H
        have p128 : 0 ≤ (x5_1 : Int) := od_
        have q128 : x5_1 < (l0.length : Int) := od_
        obtain ⟨ad128, e128, hx128_0, hx128_1, hx128_2, hx128_3, hx128_4, hx128_5, hx128_6, hx128_7, hx128_8⟩ := at_T47 (Kd.C_below HR0.out HB.out) x5_1 p128 q128
        cases e128
        replace p128 := eq_true p128
        replace q128 := eq_true q128
        have p129 : 0 ≤ (x5_1 : Int) := od_
        have q129 : x5_1 < (l0.length : Int) := od_
        obtain ⟨ad129, e129, hx129_0, hx129_1, hx129_2, hx129_3, hx129_4, hx129_5, hx129_6, hx129_7, hx129_8⟩ := at_T47 (Kd.C_below HR0.out HB.out) x5_1 p129 q129
        obtain rfl : ad128 = ad129 := (by injection e129)
        replace p129 := eq_true p129
        replace q129 := eq_true q129
        go_wp2_with (first | (go_at_call 37; (with_reducible refine (demerit_Forced.calls ((rd_T47 l0 x5_1).f0) ((rd_T47 l0 x5_1).f1.f0) ((rd_T47 l0 x5_1).f1.f1) ((rd_T47 l0 x5_1).f1.f2) ((rd_T47 l0 x5_1).f1.f3) ((rd_T47 l0 x5_1).f2) ((rd_T47 l0 x5_1).f3) ((rd_T47 l0 x5_1).f4) ((rd_T47 l0 x5_1).f5) false _ A8.out).mono ?_); rintro e w11 ⟨rfl, hb⟩; have n0_ := a_ (bs_ HB.out hb); clear HB; have HB := n0_; clear n0_; (try clear hb); (try clear hb2); (try clear hk); (try clear hi)))
        go_roundg k1
        case measure => have := HK1.out; omega
        case rel => exact ⟨(wrap64 (x5_1 + 1)), (by first | rfl | (simp; done) | (simp [*]; done)), H', ⟨by have := HK1.out; omega⟩, ⟨bv_ HB.out⟩⟩
     ·rw [if_neg c6] at H
      exact absurd H (by simp)
    ·rw [if_neg c5] at H
     have c5b0 : decide (x5_1 < (l0.length : Int)) = false := decide_eq_false c5
     clear c5
     obtain rfl := Option.some.inj H
     go_wp2
     go_ret
     exact ⟨by first | rfl | (simp [errW_none, errW_some] <;> rfl) | (simp only [← hji3]; first | rfl | (simp [errW_none, errW_some] <;> rfl)) | (simp [*, errW_none, errW_some] <;> rfl), bv_ HB.out⟩

/-! ### glue_Total: function 53 -/
def glue_Total.l0 : Nat → List S45 → Int → Int → Int → Int → Int → Int → Int → Option (Int × Int × Int × Int × Int × Int × Bool)
 | 0, _, _, _, _, _, _, _, _ => none
 | k + 1, x0, wd, sh, s0, s1, s2, s3, i => if i < (x0.length : Int) then (if 0 ≤ i then (
   if (rd_T45 x0 i).f3 = 0 then glue_Total.l0 k x0 (wrap64 (wd + (rd_T45 x0 i).f0)) (wrap64 (sh + (rd_T45 x0 i).f2)) (wrap64 (s0 + (rd_T45 x0 i).f1)) s1 s2 s3 (wrap64 (i + 1))
   else if (rd_T45 x0 i).f3 = 1 then glue_Total.l0 k x0 (wrap64 (wd + (rd_T45 x0 i).f0)) (wrap64 (sh + (rd_T45 x0 i).f2)) s0 (wrap64 (s1 + (rd_T45 x0 i).f1)) s2 s3 (wrap64 (i + 1))
   else if (rd_T45 x0 i).f3 = 2 then glue_Total.l0 k x0 (wrap64 (wd + (rd_T45 x0 i).f0)) (wrap64 (sh + (rd_T45 x0 i).f2)) s0 s1 (wrap64 (s2 + (rd_T45 x0 i).f1)) s3 (wrap64 (i + 1))
   else if (rd_T45 x0 i).f3 = 3 then glue_Total.l0 k x0 (wrap64 (wd + (rd_T45 x0 i).f0)) (wrap64 (sh + (rd_T45 x0 i).f2)) s0 s1 s2 (wrap64 (s3 + (rd_T45 x0 i).f1)) (wrap64 (i + 1))
   else none) else none) else some (wd, sh, s0, s1, s2, s3, true)
def glue_Total.f (k : Nat) (l0 : List S45) : Option (Int × Int × Int × Int × Int × Int × Bool) := (glue_May.f k l0).bind fun t => if t = true then glue_Total.l0 k l0 0 0 0 0 0 0 0 else some (0, 0, 0, 0, 0, 0, false)
theorem glue_Total.mono_0 : ∀ k x0 wd sh s0 s1 s2 s3 i, LeO (glue_Total.l0 k x0 wd sh s0 s1 s2 s3 i) (glue_Total.l0 (k + 1) x0 wd sh s0 s1 s2 s3 i)
 | 0 => fun _ _ _ _ _ _ _ _ r h => by simp [glue_Total.l0] at h
 | k + 1 => by
  intro x0 wd sh s0 s1 s2 s3 i
  have ih := glue_Total.mono_0 k
  unfold glue_Total.l0
  exact LeO.ite (LeO.ite (LeO.ite (ih _ _ _ _ _ _ _ _) (LeO.ite (ih _ _ _ _ _ _ _ _) (LeO.ite (ih _ _ _ _ _ _ _ _) (LeO.ite (ih _ _ _ _ _ _ _ _) (LeO.refl _))))) (LeO.refl _)) (LeO.refl _)
theorem glue_Total.mono : ∀ a0 k, LeO (glue_Total.f k a0) (glue_Total.f (k + 1) a0) := by
 intro a0 k
 unfold glue_Total.f
 exact LeO.bind (glue_May.mono _ _) (fun _ => LeO.ite (glue_Total.mono_0 _ _ _ _ _ _ _ _ _) (LeO.refl _))

/-- The world behind a round's first stores: what lies in each of the three blocks. -/
theorem glue_Total_mid {w wr w3 w4 : World} {gb g1 g0 : Nat} {wd sh s0 s1 s2 s3 f0 f1 f2 f3 x y : Int}
  (BK : w3.heap[gb]? = some (.cells #[.int .i64 0, .int .i64 0, .int .i64 0, .int .i64 0] 45 (0, 0)))
  (BD1 : w3.heap[g1]? = some (.cells #[.int .i64 wd, .int .i64 sh, .int .i64 s0, .int .i64 s1, .int .i64 s2, .int .i64 s3] 93 (0, 0)))
  (BD0 : w3.heap[g0]? = some (.cells #[.int .i64 0, .int .i64 0, .int .i64 0, .int .i64 0, .int .i64 0, .int .i64 0] 93 (0, 0)))
  (B : Nat) (HB : Below B w wr) (BB : Below wr.heap.size wr w3) (hg : gb = wr.heap.size) (n1 : g1 ≠ gb) (n0 : g0 ≠ gb) (n01 : g0 ≠ g1) (hB : B ≤ g1) (hB2 : B ≤ wr.heap.size)
  (hw4 : w4 = (((((w3.setCell ⟨gb, 0, none⟩ (.int .i64 f0)).setCell ⟨gb, 1, none⟩ (.int .i64 f1)).setCell ⟨gb, 2, none⟩ (.int .i64 f2)).setCell ⟨gb, 3, none⟩ (.int .i64 f3)).setCell ⟨g1, 0, none⟩ (.int .i64 x)).setCell ⟨g1, 1, none⟩ (.int .i64 y)) :
  w4.heap[gb]? = some (.cells #[.int .i64 f0, .int .i64 f1, .int .i64 f2, .int .i64 f3] 45 (0, 0)) ∧
  w4.heap[g1]? = some (.cells #[.int .i64 x, .int .i64 y, .int .i64 s0, .int .i64 s1, .int .i64 s2, .int .i64 s3] 93 (0, 0)) ∧
  w4.heap[g0]? = some (.cells #[.int .i64 0, .int .i64 0, .int .i64 0, .int .i64 0, .int .i64 0, .int .i64 0] 93 (0, 0)) ∧ Below B w w4 := by
 subst hw4
 refine ⟨?_, ?_, ?_, ?_⟩
 ·refine blk_far (blk_far ?_ (p := ⟨g1, 0, none⟩) n1.symm _) (p := ⟨g1, 1, none⟩) n1.symm _
  exact blk_put (blk_put (blk_put (blk_put BK 0 _ rfl) 1 _ rfl) 2 _ rfl) 3 _ rfl
 ·refine blk_put (cs := #[.int .i64 x, .int .i64 sh, .int .i64 s0, .int .i64 s1, .int .i64 s2, .int .i64 s3]) (blk_put (cs := #[.int .i64 wd, .int .i64 sh, .int .i64 s0, .int .i64 s1, .int .i64 s2, .int .i64 s3]) ?_ 0 _ rfl) 1 _ rfl
  exact blk_far (blk_far (blk_far (blk_far BD1 (p := ⟨gb, 0, none⟩) n1 _) (p := ⟨gb, 1, none⟩) n1 _) (p := ⟨gb, 2, none⟩) n1 _) (p := ⟨gb, 3, none⟩) n1 _
 ·refine blk_far (blk_far ?_ (p := ⟨g1, 0, none⟩) n01 _) (p := ⟨g1, 1, none⟩) n01 _
  exact blk_far (blk_far (blk_far (blk_far BD0 (p := ⟨gb, 0, none⟩) n0 _) (p := ⟨gb, 1, none⟩) n0 _) (p := ⟨gb, 2, none⟩) n0 _) (p := ⟨gb, 3, none⟩) n0 _
 ·subst hg
  exact Below.setCell (Below.setCell (Below.setCell (Below.setCell (Below.setCell (Below.setCell (below_then HB hB2 BB) hB2 _) hB2 _) hB2 _) hB2 _) hB _) hB _

set_option maxHeartbeats 8000000 in
set_option maxRecDepth 100000 in
theorem glue_Total.calls (k : Nat) (A0 : Option Addr) (c0 : Nat) (l0 : List S45) (r1 r2 r3 r4 r5 r6 : Int) (r7 : Bool) (w : World) (hr0 : Kd.C k45 w A0 l0.length l0) (hc0 : l0.length ≤ c0) (h : glue_Total.f k l0 = some (r1, r2, r3, r4, r5, r6, r7)) :
  Calls Try.prog 53 #[.slice A0 l0.length c0] w fun e w' => e = .returned (.tuple #[.agg #[.int .i64 r1, .int .i64 r2, .int .i64 r3, .int .i64 r4, .int .i64 r5, .int .i64 r6], .bool r7]) ∧ Below w.heap.size w w' := by
 have hu93 := Try.underlying93
 have hu91 := Try.underlying91
 have hu45 := Try.underlying45
 have HR0 := a_ hr0
 have HC0 := a_ hc0
 clear hr0 hc0
 obtain ⟨t, A40, H⟩ := Option.bind_eq_some_iff.mp h
 clear h
 have A4 := a_ A40
 clear A40
 obtain ⟨W0, hW0⟩ : ∃ W0, W0 = (w.alloc (.cells #[.int .i64 0, .int .i64 0, .int .i64 0, .int .i64 0, .int .i64 0, .int .i64 0] 93)).alloc (.cells #[.int .i64 0, .int .i64 0, .int .i64 0, .int .i64 0, .int .i64 0, .int .i64 0] 93) := ⟨_, rfl⟩
 have B0 := a_ (show Below w.heap.size w W0 by rw [hW0]; exact below_alloc (below_alloc (Below.refl _ _) _) _)
 have HCC := a_ (Kd.C_below HR0.out B0.out)
 have G0 := a_ (show W0.heap[w.heap.size]? = some (.cells #[.int .i64 0, .int .i64 0, .int .i64 0, .int .i64 0, .int .i64 0, .int .i64 0] 93 (0, 0)) by rw [hW0]; exact blk_alloc (blk_new _ _) _)
 have G1 := a_ (show W0.heap[w.heap.size + 1]? = some (.cells #[.int .i64 0, .int .i64 0, .int .i64 0, .int .i64 0, .int .i64 0, .int .i64 0] 93 (0, 0)) by
  have e : (w.alloc (.cells #[.int .i64 0, .int .i64 0, .int .i64 0, .int .i64 0, .int .i64 0, .int .i64 0] 93)).heap.size = w.heap.size + 1 := by simp
  have h2 := blk_new (w.alloc (.cells #[.int .i64 0, .int .i64 0, .int .i64 0, .int .i64 0, .int .i64 0, .int .i64 0] 93)) (.cells #[.int .i64 0, .int .i64 0, .int .i64 0, .int .i64 0, .int .i64 0, .int .i64 0] 93)
  rw [e] at h2
  rw [hW0]; exact h2)
 cases t with
 | false =>
  rw [if_neg (by decide)] at H
  simp only [Option.some.injEq, Prod.mk.injEq] at H
  obtain ⟨rfl, rfl, rfl, rfl, rfl, rfl, rfl⟩ := H
  go_enter Try.func53, Try.ntmps53
  go_wp2_with fail
  rw [← hW0]
  refine (glue_May.calls k A0 c0 l0 false W0 HCC.out HC0.out A4.out).mono ?_
  rintro e w1 ⟨rfl, hb⟩
  have B1 : Aside0 (Below w.heap.size w w1) := ⟨below_then B0.out B0.out.size hb⟩
  have D0 : Aside0 (w1.heap[w.heap.size]? = some (.cells #[.int .i64 0, .int .i64 0, .int .i64 0, .int .i64 0, .int .i64 0, .int .i64 0] 93 (0, 0))) := ⟨blk_below G0.out hb⟩
  have D1 : Aside0 (w1.heap[w.heap.size + 1]? = some (.cells #[.int .i64 0, .int .i64 0, .int .i64 0, .int .i64 0, .int .i64 0, .int .i64 0] 93 (0, 0))) := ⟨blk_below G1.out hb⟩
  clear hb hW0
  have he0 : w1.cell? ⟨w.heap.size, 0, none⟩ = some (.int .i64 0) := (blk_cell D0.out 0).trans rfl
  have he1 : w1.cell? ⟨w.heap.size, 1, none⟩ = some (.int .i64 0) := (blk_cell D0.out 1).trans rfl
  have he2 : w1.cell? ⟨w.heap.size, 2, none⟩ = some (.int .i64 0) := (blk_cell D0.out 2).trans rfl
  have he3 : w1.cell? ⟨w.heap.size, 3, none⟩ = some (.int .i64 0) := (blk_cell D0.out 3).trans rfl
  have he4 : w1.cell? ⟨w.heap.size, 4, none⟩ = some (.int .i64 0) := (blk_cell D0.out 4).trans rfl
  have he5 : w1.cell? ⟨w.heap.size, 5, none⟩ = some (.int .i64 0) := (blk_cell D0.out 5).trans rfl
  have hd0 : w1.cell? ⟨w.heap.size + 1, 0, none⟩ = some (.int .i64 0) := (blk_cell D1.out 0).trans rfl
  have hf0 := blk_frozen D0.out 0
  have hd1 : w1.cell? ⟨w.heap.size + 1, 1, none⟩ = some (.int .i64 0) := (blk_cell D1.out 1).trans rfl
  have hf1 := blk_frozen D0.out 1
  have hd2 : w1.cell? ⟨w.heap.size + 1, 2, none⟩ = some (.int .i64 0) := (blk_cell D1.out 2).trans rfl
  have hf2 := blk_frozen D0.out 2
  have hd3 : w1.cell? ⟨w.heap.size + 1, 3, none⟩ = some (.int .i64 0) := (blk_cell D1.out 3).trans rfl
  have hf3 := blk_frozen D0.out 3
  have hd4 : w1.cell? ⟨w.heap.size + 1, 4, none⟩ = some (.int .i64 0) := (blk_cell D1.out 4).trans rfl
  have hf4 := blk_frozen D0.out 4
  have hd5 : w1.cell? ⟨w.heap.size + 1, 5, none⟩ = some (.int .i64 0) := (blk_cell D1.out 5).trans rfl
  have hf5 := blk_frozen D0.out 5
  go_wp2
  refine bodyPost_ret (results_ct rfl _ _ w.heap.size 93 #[.int .i64 0, .int .i64 0, .int .i64 0, .int .i64 0, .int .i64 0, .int .i64 0] (0, 0) _ rfl (by
   refine blk_put (cs := #[.int .i64 0, .int .i64 0, .int .i64 0, .int .i64 0, .int .i64 0, .int .i64 0]) ?_ 5 _ rfl; refine blk_put (cs := #[.int .i64 0, .int .i64 0, .int .i64 0, .int .i64 0, .int .i64 0, .int .i64 0]) ?_ 4 _ rfl; refine blk_put (cs := #[.int .i64 0, .int .i64 0, .int .i64 0, .int .i64 0, .int .i64 0, .int .i64 0]) ?_ 3 _ rfl; refine blk_put (cs := #[.int .i64 0, .int .i64 0, .int .i64 0, .int .i64 0, .int .i64 0, .int .i64 0]) ?_ 2 _ rfl; refine blk_put (cs := #[.int .i64 0, .int .i64 0, .int .i64 0, .int .i64 0, .int .i64 0, .int .i64 0]) ?_ 1 _ rfl; refine blk_put (cs := #[.int .i64 0, .int .i64 0, .int .i64 0, .int .i64 0, .int .i64 0, .int .i64 0]) ?_ 0 _ rfl; exact D0.out) Try.underlying93 rfl (by kernel_rfl)) rfl ?_
  exact ⟨rfl, Below.setCell (Below.setCell (Below.setCell (Below.setCell (Below.setCell (Below.setCell (B1.out) (Nat.le_refl _) _) (Nat.le_refl _) _) (Nat.le_refl _) _) (Nat.le_refl _) _) (Nat.le_refl _) _) (Nat.le_refl _) _⟩
 | true =>
  rw [if_pos rfl] at H
  have H' := a_ H
  clear H
  go_enter Try.func53, Try.ntmps53
  go_wp2_with fail
  rw [← hW0]
  refine (glue_May.calls k A0 c0 l0 true W0 HCC.out HC0.out A4.out).mono ?_
  rintro e w1 ⟨rfl, hb⟩
  have B1 : Aside0 (Below w.heap.size w w1) := ⟨below_then B0.out B0.out.size hb⟩
  have D0 : Aside0 (w1.heap[w.heap.size]? = some (.cells #[.int .i64 0, .int .i64 0, .int .i64 0, .int .i64 0, .int .i64 0, .int .i64 0] 93 (0, 0))) := ⟨blk_below G0.out hb⟩
  have D1 : Aside0 (w1.heap[w.heap.size + 1]? = some (.cells #[.int .i64 0, .int .i64 0, .int .i64 0, .int .i64 0, .int .i64 0, .int .i64 0] 93 (0, 0))) := ⟨blk_below G1.out hb⟩
  clear hb hW0
  go_wp2
  go_loopg [13] k (fun kq v13 w' => ∃ (wd sh s0 s1 s2 s3 i : Int), v13 = .int .i64 i ∧ Aside0 (glue_Total.l0 kq l0 wd sh s0 s1 s2 s3 i = some (r1, r2, r3, r4, r5, r6, r7)) ∧ Aside0 (kq ≤ k) ∧ Aside0 (w'.heap[w.heap.size + 1]? = some (.cells #[.int .i64 wd, .int .i64 sh, .int .i64 s0, .int .i64 s1, .int .i64 s2, .int .i64 s3] 93 (0, 0))) ∧ Aside0 (w'.heap[w.heap.size]? = some (.cells #[.int .i64 0, .int .i64 0, .int .i64 0, .int .i64 0, .int .i64 0, .int .i64 0] 93 (0, 0))) ∧ Aside0 (Below w.heap.size w w'))
  case atStart => exact ⟨0, 0, 0, 0, 0, 0, 0, rfl, H', ⟨Nat.le_refl _⟩, D1, D0, B1⟩
  case round =>
   clear H'
   obtain ⟨wd, sh, s0, s1, s2, s3, i, rfl, HA, HK1, HD1, HD0, HB1⟩ := hrel
   cases gk with
   | zero => exact absurd HA.out (by simp [glue_Total.l0])
   | succ k1 =>
    have H := HA.out
    clear HA
    simp only [glue_Total.l0] at H
    have hd0 : wr.cell? ⟨w.heap.size + 1, 0, none⟩ = some (.int .i64 wd) := (blk_cell HD1.out 0).trans rfl
    have hf0 := blk_frozen HD1.out 0
    have hd1 : wr.cell? ⟨w.heap.size + 1, 1, none⟩ = some (.int .i64 sh) := (blk_cell HD1.out 1).trans rfl
    have hf1 := blk_frozen HD1.out 1
    have hd2 : wr.cell? ⟨w.heap.size + 1, 2, none⟩ = some (.int .i64 s0) := (blk_cell HD1.out 2).trans rfl
    have hf2 := blk_frozen HD1.out 2
    have hd3 : wr.cell? ⟨w.heap.size + 1, 3, none⟩ = some (.int .i64 s1) := (blk_cell HD1.out 3).trans rfl
    have hf3 := blk_frozen HD1.out 3
    have hd4 : wr.cell? ⟨w.heap.size + 1, 4, none⟩ = some (.int .i64 s2) := (blk_cell HD1.out 4).trans rfl
    have hf4 := blk_frozen HD1.out 4
    have hd5 : wr.cell? ⟨w.heap.size + 1, 5, none⟩ = some (.int .i64 s3) := (blk_cell HD1.out 5).trans rfl
    have hf5 := blk_frozen HD1.out 5
    by_cases c5 : i < (l0.length : Int)
    ·rw [if_pos c5] at H
     by_cases c6 : 0 ≤ i
     ·rw [if_pos c6] at H
      have HC1 := a_ (Kd.C_below HR0.out HB1.out)
      obtain ⟨ad, e1, hx0, hx1, hx2, hx3⟩ := at_T45 HC1.out i c6 c5
      cases e1
      have c5b := decide_eq_true c5
      replace c6 := eq_true c6
      replace c5 := eq_true c5
      by_cases o0 : (rd_T45 l0 i).f3 = 0
      ·rw [if_pos o0] at H
       have H' := a_ H
       clear H
       rw [o0] at hx3
       go_wp2_with ((with_reducible refine gate_dst (N := 6) rfl ?_); refine box_event ?hg (N := 6) ?hd (cs := #[.int .i64 0, .int .i64 0, .int .i64 0, .int .i64 0]) (t := 45) ?hr ?_; (case hd => rfl); (case hg => rfl); (case hr => first | (go_simp; done) | (go_simp; rfl)); intro gb hg w3 hbox hb; have BK := a_ hbox; have BB := a_ hb; have BD1 := a_ (blk_below HD1.out hb); have BD0 := a_ (blk_below HD0.out hb); have ne1 := (by rw [hg]; exact Nat.ne_of_lt (blk_lt HD1.out) : w.heap.size + 1 ≠ gb); have ne2 := (by rw [hg]; exact Nat.ne_of_gt (blk_lt HD1.out) : gb ≠ w.heap.size + 1); have BS := a_ hg; clear hb hbox hg; have hd0' : w3.cell? ⟨w.heap.size + 1, 0, none⟩ = some (.int .i64 wd) := (blk_cell BD1.out 0).trans rfl; have hf0' := blk_frozen BD1.out 0; have hd1' : w3.cell? ⟨w.heap.size + 1, 1, none⟩ = some (.int .i64 sh) := (blk_cell BD1.out 1).trans rfl; have hf1' := blk_frozen BD1.out 1; have hd2' : w3.cell? ⟨w.heap.size + 1, 2, none⟩ = some (.int .i64 s0) := (blk_cell BD1.out 2).trans rfl; have hf2' := blk_frozen BD1.out 2; have hd3' : w3.cell? ⟨w.heap.size + 1, 3, none⟩ = some (.int .i64 s1) := (blk_cell BD1.out 3).trans rfl; have hf3' := blk_frozen BD1.out 3; have hd4' : w3.cell? ⟨w.heap.size + 1, 4, none⟩ = some (.int .i64 s2) := (blk_cell BD1.out 4).trans rfl; have hf4' := blk_frozen BD1.out 4; have hd5' : w3.cell? ⟨w.heap.size + 1, 5, none⟩ = some (.int .i64 s3) := (blk_cell BD1.out 5).trans rfl; have hf5' := blk_frozen BD1.out 5; have hg0 : w3.cell? ⟨gb, 0, none⟩ = some (.int .i64 0) := (blk_cell BK.out 0).trans rfl; have hh0 := blk_frozen BK.out 0; have hg1 : w3.cell? ⟨gb, 1, none⟩ = some (.int .i64 0) := (blk_cell BK.out 1).trans rfl; have hh1 := blk_frozen BK.out 1; have hg2 : w3.cell? ⟨gb, 2, none⟩ = some (.int .i64 0) := (blk_cell BK.out 2).trans rfl; have hh2 := blk_frozen BK.out 2; have hg3 : w3.cell? ⟨gb, 3, none⟩ = some (.int .i64 0) := (blk_cell BK.out 3).trans rfl; have hh3 := blk_frozen BK.out 3)
       obtain ⟨w4, hw4⟩ : ∃ w4, w4 = (((((w3.setCell ⟨gb, 0, none⟩ (Value.int IntKind.i64 (rd_T45 l0 i).f0)).setCell ⟨gb, 1, none⟩ (Value.int IntKind.i64 (rd_T45 l0 i).f1)).setCell ⟨gb, 2, none⟩ (Value.int IntKind.i64 (rd_T45 l0 i).f2)).setCell ⟨gb, 3, none⟩ (Value.int IntKind.i64 0)).setCell ⟨w.heap.size + 1, 0, none⟩ (Value.int IntKind.i64 (wrap64 (wd + (rd_T45 l0 i).f0)))).setCell ⟨w.heap.size + 1, 1, none⟩ (Value.int IntKind.i64 (wrap64 (sh + (rd_T45 l0 i).f2))) := ⟨_, rfl⟩
       rw [← hw4]
       have E4 := a_ (glue_Total_mid BK.out BD1.out BD0.out w.heap.size HB1.out BB.out BS.out ne1 (by rw [BS.out]; exact Nat.ne_of_lt (blk_lt HD0.out)) (by omega) (Nat.le_succ _) HB1.out.size hw4)
       clear hw4 hd0 hd1 hd2 hd3 hd4 hd5 hf0 hf1 hf2 hf3 hf4 hf5 hd0' hd1' hd2' hd3' hd4' hd5' hf0' hf1' hf2' hf3' hf4' hf5' hg0 hg1 hg2 hg3 hh0 hh1 hh2 hh3 hx0 hx1 hx2 hx3 BK BB BD0 BD1 ne1 ne2 BS HD0 HD1 HB1
       have he1 : w4.cell? ⟨gb, 1, none⟩ = some (.int .i64 (rd_T45 l0 i).f1) := (blk_cell E4.out.1 1).trans rfl
       have he3 : w4.cell? ⟨gb, 3, none⟩ = some (.int .i64 0) := (blk_cell E4.out.1 3).trans rfl
       have hes : w4.cell? ⟨w.heap.size + 1, 2, none⟩ = some (.int .i64 s0) := (blk_cell E4.out.2.1 2).trans rfl
       have hef := blk_frozen E4.out.2.1 2
       go_still_tail 9, (by kernel_rfl)
       change wpList _ _ _ _ _ w4.drew
       go_wp2
       go_roundg k1
       case measure => omega
       case rel => exact ⟨_, _, _, _, _, _, _, rfl, H', ⟨by have := HK1.out; omega⟩, ⟨blk_put E4.out.2.1 2 _ rfl⟩, ⟨blk_far E4.out.2.2.1 (p := ⟨w.heap.size + 1, 2, none⟩) (by simp) _⟩, ⟨below_drew (Below.setCell E4.out.2.2.2 (Nat.le_succ _) _)⟩⟩
      ·rw [if_neg o0] at H
       by_cases o1 : (rd_T45 l0 i).f3 = 1
       ·rw [if_pos o1] at H
        have H' := a_ H
        clear H
        rw [o1] at hx3
        go_wp2_with ((with_reducible refine gate_dst (N := 6) rfl ?_); refine box_event ?hg (N := 6) ?hd (cs := #[.int .i64 0, .int .i64 0, .int .i64 0, .int .i64 0]) (t := 45) ?hr ?_; (case hd => rfl); (case hg => rfl); (case hr => first | (go_simp; done) | (go_simp; rfl)); intro gb hg w3 hbox hb; have BK := a_ hbox; have BB := a_ hb; have BD1 := a_ (blk_below HD1.out hb); have BD0 := a_ (blk_below HD0.out hb); have ne1 := (by rw [hg]; exact Nat.ne_of_lt (blk_lt HD1.out) : w.heap.size + 1 ≠ gb); have ne2 := (by rw [hg]; exact Nat.ne_of_gt (blk_lt HD1.out) : gb ≠ w.heap.size + 1); have BS := a_ hg; clear hb hbox hg; have hd0' : w3.cell? ⟨w.heap.size + 1, 0, none⟩ = some (.int .i64 wd) := (blk_cell BD1.out 0).trans rfl; have hf0' := blk_frozen BD1.out 0; have hd1' : w3.cell? ⟨w.heap.size + 1, 1, none⟩ = some (.int .i64 sh) := (blk_cell BD1.out 1).trans rfl; have hf1' := blk_frozen BD1.out 1; have hd2' : w3.cell? ⟨w.heap.size + 1, 2, none⟩ = some (.int .i64 s0) := (blk_cell BD1.out 2).trans rfl; have hf2' := blk_frozen BD1.out 2; have hd3' : w3.cell? ⟨w.heap.size + 1, 3, none⟩ = some (.int .i64 s1) := (blk_cell BD1.out 3).trans rfl; have hf3' := blk_frozen BD1.out 3; have hd4' : w3.cell? ⟨w.heap.size + 1, 4, none⟩ = some (.int .i64 s2) := (blk_cell BD1.out 4).trans rfl; have hf4' := blk_frozen BD1.out 4; have hd5' : w3.cell? ⟨w.heap.size + 1, 5, none⟩ = some (.int .i64 s3) := (blk_cell BD1.out 5).trans rfl; have hf5' := blk_frozen BD1.out 5; have hg0 : w3.cell? ⟨gb, 0, none⟩ = some (.int .i64 0) := (blk_cell BK.out 0).trans rfl; have hh0 := blk_frozen BK.out 0; have hg1 : w3.cell? ⟨gb, 1, none⟩ = some (.int .i64 0) := (blk_cell BK.out 1).trans rfl; have hh1 := blk_frozen BK.out 1; have hg2 : w3.cell? ⟨gb, 2, none⟩ = some (.int .i64 0) := (blk_cell BK.out 2).trans rfl; have hh2 := blk_frozen BK.out 2; have hg3 : w3.cell? ⟨gb, 3, none⟩ = some (.int .i64 0) := (blk_cell BK.out 3).trans rfl; have hh3 := blk_frozen BK.out 3)
        obtain ⟨w4, hw4⟩ : ∃ w4, w4 = (((((w3.setCell ⟨gb, 0, none⟩ (Value.int IntKind.i64 (rd_T45 l0 i).f0)).setCell ⟨gb, 1, none⟩ (Value.int IntKind.i64 (rd_T45 l0 i).f1)).setCell ⟨gb, 2, none⟩ (Value.int IntKind.i64 (rd_T45 l0 i).f2)).setCell ⟨gb, 3, none⟩ (Value.int IntKind.i64 1)).setCell ⟨w.heap.size + 1, 0, none⟩ (Value.int IntKind.i64 (wrap64 (wd + (rd_T45 l0 i).f0)))).setCell ⟨w.heap.size + 1, 1, none⟩ (Value.int IntKind.i64 (wrap64 (sh + (rd_T45 l0 i).f2))) := ⟨_, rfl⟩
        rw [← hw4]
        have E4 := a_ (glue_Total_mid BK.out BD1.out BD0.out w.heap.size HB1.out BB.out BS.out ne1 (by rw [BS.out]; exact Nat.ne_of_lt (blk_lt HD0.out)) (by omega) (Nat.le_succ _) HB1.out.size hw4)
        clear hw4 hd0 hd1 hd2 hd3 hd4 hd5 hf0 hf1 hf2 hf3 hf4 hf5 hd0' hd1' hd2' hd3' hd4' hd5' hf0' hf1' hf2' hf3' hf4' hf5' hg0 hg1 hg2 hg3 hh0 hh1 hh2 hh3 hx0 hx1 hx2 hx3 BK BB BD0 BD1 ne1 ne2 BS HD0 HD1 HB1
        have he1 : w4.cell? ⟨gb, 1, none⟩ = some (.int .i64 (rd_T45 l0 i).f1) := (blk_cell E4.out.1 1).trans rfl
        have he3 : w4.cell? ⟨gb, 3, none⟩ = some (.int .i64 1) := (blk_cell E4.out.1 3).trans rfl
        have hes : w4.cell? ⟨w.heap.size + 1, 3, none⟩ = some (.int .i64 s1) := (blk_cell E4.out.2.1 3).trans rfl
        have hef := blk_frozen E4.out.2.1 3
        go_still_tail 9, (by kernel_rfl)
        change wpList _ _ _ _ _ w4.drew
        go_wp2
        go_roundg k1
        case measure => omega
        case rel => exact ⟨_, _, _, _, _, _, _, rfl, H', ⟨by have := HK1.out; omega⟩, ⟨blk_put E4.out.2.1 3 _ rfl⟩, ⟨blk_far E4.out.2.2.1 (p := ⟨w.heap.size + 1, 3, none⟩) (by simp) _⟩, ⟨below_drew (Below.setCell E4.out.2.2.2 (Nat.le_succ _) _)⟩⟩
       ·rw [if_neg o1] at H
        by_cases o2 : (rd_T45 l0 i).f3 = 2
        ·rw [if_pos o2] at H
         have H' := a_ H
         clear H
         rw [o2] at hx3
         go_wp2_with ((with_reducible refine gate_dst (N := 6) rfl ?_); refine box_event ?hg (N := 6) ?hd (cs := #[.int .i64 0, .int .i64 0, .int .i64 0, .int .i64 0]) (t := 45) ?hr ?_; (case hd => rfl); (case hg => rfl); (case hr => first | (go_simp; done) | (go_simp; rfl)); intro gb hg w3 hbox hb; have BK := a_ hbox; have BB := a_ hb; have BD1 := a_ (blk_below HD1.out hb); have BD0 := a_ (blk_below HD0.out hb); have ne1 := (by rw [hg]; exact Nat.ne_of_lt (blk_lt HD1.out) : w.heap.size + 1 ≠ gb); have ne2 := (by rw [hg]; exact Nat.ne_of_gt (blk_lt HD1.out) : gb ≠ w.heap.size + 1); have BS := a_ hg; clear hb hbox hg; have hd0' : w3.cell? ⟨w.heap.size + 1, 0, none⟩ = some (.int .i64 wd) := (blk_cell BD1.out 0).trans rfl; have hf0' := blk_frozen BD1.out 0; have hd1' : w3.cell? ⟨w.heap.size + 1, 1, none⟩ = some (.int .i64 sh) := (blk_cell BD1.out 1).trans rfl; have hf1' := blk_frozen BD1.out 1; have hd2' : w3.cell? ⟨w.heap.size + 1, 2, none⟩ = some (.int .i64 s0) := (blk_cell BD1.out 2).trans rfl; have hf2' := blk_frozen BD1.out 2; have hd3' : w3.cell? ⟨w.heap.size + 1, 3, none⟩ = some (.int .i64 s1) := (blk_cell BD1.out 3).trans rfl; have hf3' := blk_frozen BD1.out 3; have hd4' : w3.cell? ⟨w.heap.size + 1, 4, none⟩ = some (.int .i64 s2) := (blk_cell BD1.out 4).trans rfl; have hf4' := blk_frozen BD1.out 4; have hd5' : w3.cell? ⟨w.heap.size + 1, 5, none⟩ = some (.int .i64 s3) := (blk_cell BD1.out 5).trans rfl; have hf5' := blk_frozen BD1.out 5; have hg0 : w3.cell? ⟨gb, 0, none⟩ = some (.int .i64 0) := (blk_cell BK.out 0).trans rfl; have hh0 := blk_frozen BK.out 0; have hg1 : w3.cell? ⟨gb, 1, none⟩ = some (.int .i64 0) := (blk_cell BK.out 1).trans rfl; have hh1 := blk_frozen BK.out 1; have hg2 : w3.cell? ⟨gb, 2, none⟩ = some (.int .i64 0) := (blk_cell BK.out 2).trans rfl; have hh2 := blk_frozen BK.out 2; have hg3 : w3.cell? ⟨gb, 3, none⟩ = some (.int .i64 0) := (blk_cell BK.out 3).trans rfl; have hh3 := blk_frozen BK.out 3)
         obtain ⟨w4, hw4⟩ : ∃ w4, w4 = (((((w3.setCell ⟨gb, 0, none⟩ (Value.int IntKind.i64 (rd_T45 l0 i).f0)).setCell ⟨gb, 1, none⟩ (Value.int IntKind.i64 (rd_T45 l0 i).f1)).setCell ⟨gb, 2, none⟩ (Value.int IntKind.i64 (rd_T45 l0 i).f2)).setCell ⟨gb, 3, none⟩ (Value.int IntKind.i64 2)).setCell ⟨w.heap.size + 1, 0, none⟩ (Value.int IntKind.i64 (wrap64 (wd + (rd_T45 l0 i).f0)))).setCell ⟨w.heap.size + 1, 1, none⟩ (Value.int IntKind.i64 (wrap64 (sh + (rd_T45 l0 i).f2))) := ⟨_, rfl⟩
         rw [← hw4]
         have E4 := a_ (glue_Total_mid BK.out BD1.out BD0.out w.heap.size HB1.out BB.out BS.out ne1 (by rw [BS.out]; exact Nat.ne_of_lt (blk_lt HD0.out)) (by omega) (Nat.le_succ _) HB1.out.size hw4)
         clear hw4 hd0 hd1 hd2 hd3 hd4 hd5 hf0 hf1 hf2 hf3 hf4 hf5 hd0' hd1' hd2' hd3' hd4' hd5' hf0' hf1' hf2' hf3' hf4' hf5' hg0 hg1 hg2 hg3 hh0 hh1 hh2 hh3 hx0 hx1 hx2 hx3 BK BB BD0 BD1 ne1 ne2 BS HD0 HD1 HB1
         have he1 : w4.cell? ⟨gb, 1, none⟩ = some (.int .i64 (rd_T45 l0 i).f1) := (blk_cell E4.out.1 1).trans rfl
         have he3 : w4.cell? ⟨gb, 3, none⟩ = some (.int .i64 2) := (blk_cell E4.out.1 3).trans rfl
         have hes : w4.cell? ⟨w.heap.size + 1, 4, none⟩ = some (.int .i64 s2) := (blk_cell E4.out.2.1 4).trans rfl
         have hef := blk_frozen E4.out.2.1 4
         go_still_tail 9, (by kernel_rfl)
         change wpList _ _ _ _ _ w4.drew
         go_wp2
         go_roundg k1
         case measure => omega
         case rel => exact ⟨_, _, _, _, _, _, _, rfl, H', ⟨by have := HK1.out; omega⟩, ⟨blk_put E4.out.2.1 4 _ rfl⟩, ⟨blk_far E4.out.2.2.1 (p := ⟨w.heap.size + 1, 4, none⟩) (by simp) _⟩, ⟨below_drew (Below.setCell E4.out.2.2.2 (Nat.le_succ _) _)⟩⟩
        ·rw [if_neg o2] at H
         by_cases o3 : (rd_T45 l0 i).f3 = 3
         ·rw [if_pos o3] at H
          have H' := a_ H
          clear H
          rw [o3] at hx3
          go_wp2_with ((with_reducible refine gate_dst (N := 6) rfl ?_); refine box_event ?hg (N := 6) ?hd (cs := #[.int .i64 0, .int .i64 0, .int .i64 0, .int .i64 0]) (t := 45) ?hr ?_; (case hd => rfl); (case hg => rfl); (case hr => first | (go_simp; done) | (go_simp; rfl)); intro gb hg w3 hbox hb; have BK := a_ hbox; have BB := a_ hb; have BD1 := a_ (blk_below HD1.out hb); have BD0 := a_ (blk_below HD0.out hb); have ne1 := (by rw [hg]; exact Nat.ne_of_lt (blk_lt HD1.out) : w.heap.size + 1 ≠ gb); have ne2 := (by rw [hg]; exact Nat.ne_of_gt (blk_lt HD1.out) : gb ≠ w.heap.size + 1); have BS := a_ hg; clear hb hbox hg; have hd0' : w3.cell? ⟨w.heap.size + 1, 0, none⟩ = some (.int .i64 wd) := (blk_cell BD1.out 0).trans rfl; have hf0' := blk_frozen BD1.out 0; have hd1' : w3.cell? ⟨w.heap.size + 1, 1, none⟩ = some (.int .i64 sh) := (blk_cell BD1.out 1).trans rfl; have hf1' := blk_frozen BD1.out 1; have hd2' : w3.cell? ⟨w.heap.size + 1, 2, none⟩ = some (.int .i64 s0) := (blk_cell BD1.out 2).trans rfl; have hf2' := blk_frozen BD1.out 2; have hd3' : w3.cell? ⟨w.heap.size + 1, 3, none⟩ = some (.int .i64 s1) := (blk_cell BD1.out 3).trans rfl; have hf3' := blk_frozen BD1.out 3; have hd4' : w3.cell? ⟨w.heap.size + 1, 4, none⟩ = some (.int .i64 s2) := (blk_cell BD1.out 4).trans rfl; have hf4' := blk_frozen BD1.out 4; have hd5' : w3.cell? ⟨w.heap.size + 1, 5, none⟩ = some (.int .i64 s3) := (blk_cell BD1.out 5).trans rfl; have hf5' := blk_frozen BD1.out 5; have hg0 : w3.cell? ⟨gb, 0, none⟩ = some (.int .i64 0) := (blk_cell BK.out 0).trans rfl; have hh0 := blk_frozen BK.out 0; have hg1 : w3.cell? ⟨gb, 1, none⟩ = some (.int .i64 0) := (blk_cell BK.out 1).trans rfl; have hh1 := blk_frozen BK.out 1; have hg2 : w3.cell? ⟨gb, 2, none⟩ = some (.int .i64 0) := (blk_cell BK.out 2).trans rfl; have hh2 := blk_frozen BK.out 2; have hg3 : w3.cell? ⟨gb, 3, none⟩ = some (.int .i64 0) := (blk_cell BK.out 3).trans rfl; have hh3 := blk_frozen BK.out 3)
          obtain ⟨w4, hw4⟩ : ∃ w4, w4 = (((((w3.setCell ⟨gb, 0, none⟩ (Value.int IntKind.i64 (rd_T45 l0 i).f0)).setCell ⟨gb, 1, none⟩ (Value.int IntKind.i64 (rd_T45 l0 i).f1)).setCell ⟨gb, 2, none⟩ (Value.int IntKind.i64 (rd_T45 l0 i).f2)).setCell ⟨gb, 3, none⟩ (Value.int IntKind.i64 3)).setCell ⟨w.heap.size + 1, 0, none⟩ (Value.int IntKind.i64 (wrap64 (wd + (rd_T45 l0 i).f0)))).setCell ⟨w.heap.size + 1, 1, none⟩ (Value.int IntKind.i64 (wrap64 (sh + (rd_T45 l0 i).f2))) := ⟨_, rfl⟩
          rw [← hw4]
          have E4 := a_ (glue_Total_mid BK.out BD1.out BD0.out w.heap.size HB1.out BB.out BS.out ne1 (by rw [BS.out]; exact Nat.ne_of_lt (blk_lt HD0.out)) (by omega) (Nat.le_succ _) HB1.out.size hw4)
          clear hw4 hd0 hd1 hd2 hd3 hd4 hd5 hf0 hf1 hf2 hf3 hf4 hf5 hd0' hd1' hd2' hd3' hd4' hd5' hf0' hf1' hf2' hf3' hf4' hf5' hg0 hg1 hg2 hg3 hh0 hh1 hh2 hh3 hx0 hx1 hx2 hx3 BK BB BD0 BD1 ne1 ne2 BS HD0 HD1 HB1
          have he1 : w4.cell? ⟨gb, 1, none⟩ = some (.int .i64 (rd_T45 l0 i).f1) := (blk_cell E4.out.1 1).trans rfl
          have he3 : w4.cell? ⟨gb, 3, none⟩ = some (.int .i64 3) := (blk_cell E4.out.1 3).trans rfl
          have hes : w4.cell? ⟨w.heap.size + 1, 5, none⟩ = some (.int .i64 s3) := (blk_cell E4.out.2.1 5).trans rfl
          have hef := blk_frozen E4.out.2.1 5
          go_still_tail 9, (by kernel_rfl)
          change wpList _ _ _ _ _ w4.drew
          go_wp2
          go_roundg k1
          case measure => omega
          case rel => exact ⟨_, _, _, _, _, _, _, rfl, H', ⟨by have := HK1.out; omega⟩, ⟨blk_put E4.out.2.1 5 _ rfl⟩, ⟨blk_far E4.out.2.2.1 (p := ⟨w.heap.size + 1, 5, none⟩) (by simp) _⟩, ⟨below_drew (Below.setCell E4.out.2.2.2 (Nat.le_succ _) _)⟩⟩
         ·rw [if_neg o3] at H
          exact absurd H (by simp)
     ·rw [if_neg c6] at H
      exact absurd H (by simp)
    ·rw [if_neg c5] at H
     simp only [Option.some.injEq, Prod.mk.injEq] at H
     obtain ⟨rfl, rfl, rfl, rfl, rfl, rfl, rfl⟩ := H
     have c5b := decide_eq_false c5
     replace c5 := eq_false c5
     have hf0' := blk_frozen HD0.out 0
     have hf1' := blk_frozen HD0.out 1
     have hf2' := blk_frozen HD0.out 2
     have hf3' := blk_frozen HD0.out 3
     have hf4' := blk_frozen HD0.out 4
     have hf5' := blk_frozen HD0.out 5
     have he0 : wr.cell? ⟨w.heap.size, 0, none⟩ = some (.int .i64 0) := (blk_cell HD0.out 0).trans rfl
     have he1 : wr.cell? ⟨w.heap.size, 1, none⟩ = some (.int .i64 0) := (blk_cell HD0.out 1).trans rfl
     have he2 : wr.cell? ⟨w.heap.size, 2, none⟩ = some (.int .i64 0) := (blk_cell HD0.out 2).trans rfl
     have he3 : wr.cell? ⟨w.heap.size, 3, none⟩ = some (.int .i64 0) := (blk_cell HD0.out 3).trans rfl
     have he4 : wr.cell? ⟨w.heap.size, 4, none⟩ = some (.int .i64 0) := (blk_cell HD0.out 4).trans rfl
     have he5 : wr.cell? ⟨w.heap.size, 5, none⟩ = some (.int .i64 0) := (blk_cell HD0.out 5).trans rfl
     go_wp2
     refine bodyPost_ret (results_ct rfl _ _ w.heap.size 93 #[.int .i64 wd, .int .i64 sh, .int .i64 s0, .int .i64 s1, .int .i64 s2, .int .i64 s3] (0, 0) _ rfl (by
      refine blk_put (cs := #[.int .i64 wd, .int .i64 sh, .int .i64 s0, .int .i64 s1, .int .i64 s2, .int .i64 0]) ?_ 5 _ rfl; refine blk_put (cs := #[.int .i64 wd, .int .i64 sh, .int .i64 s0, .int .i64 s1, .int .i64 0, .int .i64 0]) ?_ 4 _ rfl; refine blk_put (cs := #[.int .i64 wd, .int .i64 sh, .int .i64 s0, .int .i64 0, .int .i64 0, .int .i64 0]) ?_ 3 _ rfl; refine blk_put (cs := #[.int .i64 wd, .int .i64 sh, .int .i64 0, .int .i64 0, .int .i64 0, .int .i64 0]) ?_ 2 _ rfl; refine blk_put (cs := #[.int .i64 wd, .int .i64 0, .int .i64 0, .int .i64 0, .int .i64 0, .int .i64 0]) ?_ 1 _ rfl; refine blk_put (cs := #[.int .i64 0, .int .i64 0, .int .i64 0, .int .i64 0, .int .i64 0, .int .i64 0]) ?_ 0 _ rfl; exact HD0.out) Try.underlying93 rfl (by kernel_rfl)) rfl ?_
     exact ⟨rfl, Below.setCell (Below.setCell (Below.setCell (Below.setCell (Below.setCell (Below.setCell (HB1.out) (Nat.le_refl _) _) (Nat.le_refl _) _) (Nat.le_refl _) _) (Nat.le_refl _) _) (Nat.le_refl _) _) (Nat.le_refl _) _⟩

end Go.Proofs.Ytnkdopihaohimaa.PBr

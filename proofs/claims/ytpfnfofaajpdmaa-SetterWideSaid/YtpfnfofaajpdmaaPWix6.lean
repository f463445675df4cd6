/- Written by a program of this session: functions of the given program as plain Lean functions, the walks that show it, and the row of each law, for every input that its statement speaks of. -/
import Derived.Test.YtpfnfofaajpdmaaPWix0
import Derived.Test.YtpfnfofaajpdmaaPWix4
import Derived.Test.YtpfnfofaajpdmaaPWix5
namespace Go.Proofs.Ytpfnfofaajpdmaa.PWi
open Go.RowKit Go.Proofs.YtpfnfofaajpdmaaW.PrintWords Go.Proofs.YtpfnfofaajpdmaaW.PrintLast Go.Proofs.YtpfnfofaajpdmaaW.PrintMore
attribute [local go_sem] max2_int min2_int max_two min_two max_three min_three max_four min_four   -- for this text's walks alone
set_option linter.unusedVariables false
set_option linter.unusedSimpArgs false

/-! ### item_May: function 18 -/
def item_May.l0 : Nat → List (S38) → List (S40) → Int → Int → Option (Bool)
 | 0, _, _, _, _ => none
 | k + 1, x3, x9, x10, x11 => if x11 < x10 then (if 0 ≤ x11 then (if x11 < (x9.length : Int) then ((item_right.f k ((rd_T40 x9 x11).f0) ((rd_T40 x9 x11).f1.f0) ((rd_T40 x9 x11).f1.f1) ((rd_T40 x9 x11).f1.f2) ((rd_T40 x9 x11).f1.f3) ((rd_T40 x9 x11).f2) ((rd_T40 x9 x11).f3) ((rd_T40 x9 x11).f4) ((rd_T40 x9 x11).f5)).bind fun t119 => (if t119 = true then (if x3.length < 4398046511104 then (item_May.l0 k (x3 ++ [(⟨(rd_T40 x9 x11).f1.f0, (rd_T40 x9 x11).f1.f1, (rd_T40 x9 x11).f1.f2, (rd_T40 x9 x11).f1.f3⟩ : S38)]) x9 x10 (wrap64 (x11 + 1))) else (none)) else (some false))) else (none)) else (none)) else ((glue_May.f k x3).bind fun t123 => (some t123))
def item_May.f (k : Nat) (l0 : List (S40)) : Option (Bool) := if (l0.length : Int) > 2000 then (some false) else (item_May.l0 k ([] : List (S38)) l0 (l0.length : Int) 0)
theorem item_May.mono_l : ∀ k, (∀ y0 y1 y2 y3, LeO (item_May.l0 k y0 y1 y2 y3) (item_May.l0 (k + 1) y0 y1 y2 y3))
 | 0 => fun _ _ _ _ r h => by simp [item_May.l0] at h
 | k + 1 => by
  have ih0 := item_May.mono_l k
  ·intro y0 y1 y2 y3
   unfold item_May.l0
   repeat' first | (with_reducible first | exact ih0 _ _ _ _ | exact glue_May.mono _ _ | exact item_right.mono _ _ _ _ _ _ _ _ _ _ | exact LeO.refl _ | exact LeO.none _ | refine LeO.ite ?_ ?_ | refine LeO.bind ?_ (fun _ => ?_)) | exact LeO.none _ | refine LeO.ite ?_ ?_ | refine LeO.bind ?_ (fun _ => ?_)
theorem item_May.mono : ∀ a0 k, LeO (item_May.f k a0) (item_May.f (k + 1) a0) := by
 intro a0 k
 have ih0 := item_May.mono_l k
 unfold item_May.f
 repeat' first
   | (with_reducible exact ih0 _ _ _ _)
   | (with_reducible exact glue_May.mono _ _)
   | (with_reducible exact item_right.mono _ _ _ _ _ _ _ _ _ _)
   | (with_reducible exact LeO.refl _)
   | (with_reducible exact LeO.none _)
   | (with_reducible refine LeO.ite ?_ ?_)
   | (with_reducible refine LeO.bind ?_ (fun _ => ?_))
   | exact ih0 _ _ _ _
   | exact glue_May.mono _ _
   | exact item_right.mono _ _ _ _ _ _ _ _ _ _
   | exact LeO.none _
   | refine LeO.ite ?_ ?_
   | refine LeO.bind ?_ (fun _ => ?_)
set_option maxHeartbeats 8000000 in
set_option maxRecDepth 100000 in
theorem item_May.calls (k : Nat) (A0 : Option Addr) (c0 : Nat) (l0 : List (S40)) (r : Bool) (w : World) (hr0 : Kd.C k40 w A0 l0.length l0) (hc0 : l0.length ≤ c0) (h : item_May.f k l0 = some r) :
  Calls Try.prog 18 #[.slice A0 l0.length c0] w fun e w' => e = .returned (.bool r) ∧ Below w.heap.size w w' := by
 have hu40 := Try.underlying40
 have hu38 := Try.underlying38
 have HR0 := a_ hr0
 have HC0 := a_ hc0
 clear hr0 hc0
 have HB := a_ (Below.refl w.heap.size w)
 have H : (if (l0.length : Int) > 2000 then (some false) else (item_May.l0 k ([] : List (S38)) l0 (l0.length : Int) 0)) = some r := h
 clear h
 by_cases c2 : (l0.length : Int) > 2000
 ·rw [if_pos c2] at H
  have c2b0 : decide (2000 < (l0.length : Int)) = true := decide_eq_true c2
  have c2b1 : decide (2000 < l0.length) = true := decide_eq_true (by omega)
  clear c2
  obtain rfl := Option.some.inj H
  go_enter Try.func18, Try.ntmps18
  go_wp2
  go_ret
  exact ⟨by first | rfl | (simp [errW_none, errW_some] <;> rfl) | (simp [*, errW_none, errW_some] <;> rfl), bv_ HB.out⟩
 ·rw [if_neg c2] at H
  have c2b0 : decide (2000 < (l0.length : Int)) = false := decide_eq_false c2
  have c2b1 : decide (2000 < l0.length) = false := decide_eq_false (by omega)
  clear c2
  have H' := a_ H
  clear H
  go_enter Try.func18, Try.ntmps18
  go_wp2
  go_loopg [3, 11] k (fun kq v3 v11 w' => ∃ (x3_1 : List (S38)) (x11_1 : Int), v11 = .int .i64 x11_1 ∧ Aside0 (item_May.l0 kq x3_1 l0 (l0.length : Int) x11_1 = some r) ∧ Aside0 (kq ≤ k) ∧ Aside0 (Kd.R k38 38 w' w.heap.size (fun _ => True) v3 x3_1) ∧ Aside0 (Below w.heap.size w w'))
  case atStart => exact ⟨(([] : List (S38))), (0), (by first | rfl | (simp; done) | (simp [*]; done)), H', ⟨Nat.le_refl _⟩, ⟨by first | exact Kd.R_nil _ _ _ _ _ | exact Kd.N_nil _ _ _ _ _ | exact Kd.V_nil _ _ _ _ _ | exact Kd.Q_nil _ _ _ _ _ | exact Kd.S_nil _ _ _ _ _⟩, ⟨bv_ HB.out⟩⟩
  case round =>
   clear H'
   try clear c1
   try clear c2
   try clear c2b0
   try clear c2b1
   try clear p2
   obtain ⟨x3_1, x11_1, rfl, HA, HK1, HO_3, HB⟩ := hrel
   cases gk with
   | zero => exact absurd HA.out (by simp [item_May.l0])
   | succ k1 =>
    have H := HA.out
    clear HA
    simp only [item_May.l0] at H
    by_cases c3 : x11_1 < (l0.length : Int)
    ·rw [if_pos c3] at H
     have c3b0 : decide (x11_1 < (l0.length : Int)) = true := decide_eq_true c3
     clear c3
     by_cases c4 : 0 ≤ x11_1
     ·rw [if_pos c4] at H
      have c4b0 : decide (0 ≤ x11_1) = true := decide_eq_true c4
      clear c4
      by_cases c5 : x11_1 < (l0.length : Int)
      ·rw [if_pos c5] at H
       have c5b0 : decide (x11_1 < (l0.length : Int)) = true := decide_eq_true c5
       clear c5
       replace H := Option.bind_eq_some_iff.mp H
       obtain ⟨t119, A60, H⟩ := H
       replace H : (if t119 = true then (if x3_1.length < 4398046511104 then (item_May.l0 k1 (x3_1 ++ [(⟨(rd_T40 l0 x11_1).f1.f0, (rd_T40 l0 x11_1).f1.f1, (rd_T40 l0 x11_1).f1.f2, (rd_T40 l0 x11_1).f1.f3⟩ : S38)]) l0 (l0.length : Int) (wrap64 (x11_1 + 1))) else (none)) else (some false)) = some r := H
       have A6 := a_ A60
       clear A60
       by_cases c7 : t119 = true
       ·subst c7
        have H1 : (if x3_1.length < 4398046511104 then (item_May.l0 k1 (x3_1 ++ [(⟨(rd_T40 l0 x11_1).f1.f0, (rd_T40 l0 x11_1).f1.f1, (rd_T40 l0 x11_1).f1.f2, (rd_T40 l0 x11_1).f1.f3⟩ : S38)]) l0 (l0.length : Int) (wrap64 (x11_1 + 1))) else (none)) = some r := by rw [if_pos rfl] at H; exact H
        clear H
        have H := H1
        clear H1
        by_cases c8 : x3_1.length < 4398046511104
        ·rw [if_pos c8] at H
         have LMc8 := a_ c8
         clear c8
         obtain ⟨y120, hy120⟩ : ∃ y_ : List (S38), y_ = (x3_1 ++ [(⟨(rd_T40 l0 x11_1).f1.f0, (rd_T40 l0 x11_1).f1.f1, (rd_T40 l0 x11_1).f1.f2, (rd_T40 l0 x11_1).f1.f3⟩ : S38)]) := ⟨_, rfl⟩
         replace H : (item_May.l0 k1 y120 l0 (l0.length : Int) (wrap64 (x11_1 + 1))) = some r := by first | (rw [hy120]; with_reducible exact H) | (have H2_ := (Option.bind_some _ _).symm.trans H; rw [hy120]; with_reducible exact H2_) | (have H2_ := (Option.bind_some _ _).symm.trans H; with_reducible exact H2_) | with_reducible exact H | (rw [hy120]; exact H) | exact H
         have Ny120 := a_ hy120
         clear hy120
         have H' := a_ H
         clear H
         have p117 : 0 ≤ (x11_1 : Int) := od_
         have q117 : x11_1 < (l0.length : Int) := od_
         obtain ⟨ad117, e117, hx117_0, hx117_1, hx117_2, hx117_3, hx117_4, hx117_5, hx117_6, hx117_7, hx117_8⟩ := at_T40 (Kd.C_below HR0.out HB.out) x11_1 p117 q117
         cases e117
         replace p117 := eq_true p117
         replace q117 := eq_true q117
         go_wp2_with (first | ((with_reducible refine gate_dst (N := 5) rfl ?_); refine box_event ?hg (N := 5) ?hd (cs := #[.int .i64 0, .int .i64 0, .int .i64 0, .int .i64 0, .int .i64 0, .int .i64 0, .bool false, .int .i64 0, .int .i64 0]) (t := 40) ?hr ?_; (case hd => rfl); (case hg => rfl); (case hr => first | (go_simp; done) | (go_simp; rfl)); intro gb118 hg w9 hbox hb; have n0_ := a_ (Kd.R_below (rv_ HO_3.out) hb); have n1_ := a_ (bs_ HB.out hb); have n2_ := a_ (hbox); have n3_ := a_ ((by rw [hg]; exact (below_size (bv_ HB.out)) : w.heap.size ≤ gb118)); have n4_ := a_ ((by rw [hg]; exact (below_size (bv_ HB.out)) : w.heap.size ≤ gb118)); clear HO_3; clear HB; have HO_3 := n0_; have HB := n1_; have BK118 := n2_; have GW118 := n3_; have GE118 := n4_; clear n0_ n1_ n2_ n3_ n4_; clear hb hbox hg; obtain ⟨⟨Z10_0, Y10_0⟩, ⟨Z10_1, Y10_1⟩, ⟨Z10_2, Y10_2⟩, ⟨Z10_3, Y10_3⟩, ⟨Z10_4, Y10_4⟩, ⟨Z10_5, Y10_5⟩, ⟨Z10_6, Y10_6⟩, ⟨Z10_7, Y10_7⟩, Z10_8, Y10_8⟩ := cs9_ BK118.out) | ((with_reducible refine gate_callee (f := 26) rfl ?_); refine gl_ (some 16) Try.func26 (by kernel_rfl) #[.agg #[.int .i64 ((rd_T40 l0 x11_1).f0), .int .i64 ((rd_T40 l0 x11_1).f1.f0), .int .i64 ((rd_T40 l0 x11_1).f1.f1), .int .i64 ((rd_T40 l0 x11_1).f1.f2), .int .i64 ((rd_T40 l0 x11_1).f1.f3), .int .i64 ((rd_T40 l0 x11_1).f2), .bool ((rd_T40 l0 x11_1).f3), .int .i64 ((rd_T40 l0 x11_1).f4), .int .i64 ((rd_T40 l0 x11_1).f5)]] ?_; (with_reducible refine (item_right.calls k1 ((rd_T40 l0 x11_1).f0) ((rd_T40 l0 x11_1).f1.f0) ((rd_T40 l0 x11_1).f1.f1) ((rd_T40 l0 x11_1).f1.f2) ((rd_T40 l0 x11_1).f1.f3) ((rd_T40 l0 x11_1).f2) ((rd_T40 l0 x11_1).f3) ((rd_T40 l0 x11_1).f4) ((rd_T40 l0 x11_1).f5) true _ A6.out).mono ?_); rintro e w11 ⟨rfl, hb⟩; refine ⟨_, rfl, ?_⟩; have n0_ := a_ (Kd.R_below (by (with_reducible repeat (first | apply Kd.R_alloc | apply Kd.R_drewN | apply Kd.R_drew)); exact (Kd.R_mono (Kd.R_far (p := ⟨gb118, 8, none⟩) (Kd.R_far (p := ⟨gb118, 7, none⟩) (Kd.R_far (p := ⟨gb118, 6, none⟩) (Kd.R_far (p := ⟨gb118, 5, none⟩) (Kd.R_far (p := ⟨gb118, 4, none⟩) (Kd.R_far (p := ⟨gb118, 3, none⟩) (Kd.R_far (p := ⟨gb118, 2, none⟩) (Kd.R_far (p := ⟨gb118, 1, none⟩) (Kd.R_far (p := ⟨gb118, 0, none⟩) (Kd.R_types HO_3.out BK118.out (by decide)) (fun _ hk => hk.2) (.int .i64 ((rd_T40 l0 x11_1).f0))) (fun _ hk => hk.2) (.int .i64 ((rd_T40 l0 x11_1).f1.f0))) (fun _ hk => hk.2) (.int .i64 ((rd_T40 l0 x11_1).f1.f1))) (fun _ hk => hk.2) (.int .i64 ((rd_T40 l0 x11_1).f1.f2))) (fun _ hk => hk.2) (.int .i64 ((rd_T40 l0 x11_1).f1.f3))) (fun _ hk => hk.2) (.int .i64 ((rd_T40 l0 x11_1).f2))) (fun _ hk => hk.2) (.bool ((rd_T40 l0 x11_1).f3))) (fun _ hk => hk.2) (.int .i64 ((rd_T40 l0 x11_1).f4))) (fun _ hk => hk.2) (.int .i64 ((rd_T40 l0 x11_1).f5))) (fun _ h_ => h_.1))) hb); have n1_ := a_ (blk_below (g := gb118) (o := .cells #[.int .i64 ((rd_T40 l0 x11_1).f0), .int .i64 ((rd_T40 l0 x11_1).f1.f0), .int .i64 ((rd_T40 l0 x11_1).f1.f1), .int .i64 ((rd_T40 l0 x11_1).f1.f2), .int .i64 ((rd_T40 l0 x11_1).f1.f3), .int .i64 ((rd_T40 l0 x11_1).f2), .bool ((rd_T40 l0 x11_1).f3), .int .i64 ((rd_T40 l0 x11_1).f4), .int .i64 ((rd_T40 l0 x11_1).f5)] 40 (0, 0)) (kp0_ BK118.out) hb); have n2_ := a_ (below_step (bS1_ HB.out GE118.out) hb); clear HO_3; clear BK118; clear HB; have HO_3 := n0_; have BK118 := n1_; have HB := n2_; clear n0_ n1_ n2_; (try clear hb); (try clear hb2); (try clear hk); (try clear hi); obtain ⟨⟨Z12_0, Y12_0⟩, ⟨Z12_1, Y12_1⟩, ⟨Z12_2, Y12_2⟩, ⟨Z12_3, Y12_3⟩, ⟨Z12_4, Y12_4⟩, ⟨Z12_5, Y12_5⟩, ⟨Z12_6, Y12_6⟩, ⟨Z12_7, Y12_7⟩, Z12_8, Y12_8⟩ := cs9_ BK118.out) | ((with_reducible refine gate_builtin (b := .append) (xs := #[.tmp 18, .tmp 21]) rfl ?_); at_builtin; refine Kd.R_append k38 (w0 := w) w.heap.size rfl (.tmp 18) (.tmp 21) 62 38 (.agg #[(.int .i64 0), (.int .i64 0), (.int .i64 0), (.int .i64 0)]) 32 rfl Try.underlying62 info38 rfl (by decide) (by omega) u3 x3_1 (⟨(rd_T40 l0 x11_1).f1.f0, (rd_T40 l0 x11_1).f1.f1, (rd_T40 l0 x11_1).f1.f2, (rd_T40 l0 x11_1).f1.f3⟩ : S38) [.int .i64 ((rd_T40 l0 x11_1).f1.f0), .int .i64 ((rd_T40 l0 x11_1).f1.f1), .int .i64 ((rd_T40 l0 x11_1).f1.f2), .int .i64 ((rd_T40 l0 x11_1).f1.f3)] (fun _ => True) (fun _ => False) rfl rfl ?aP (fun _ hk => hk.elim) ?aF ?aO ?aB ?aS ?aL ?_; (case aP => exact k38_mkM _ _ _ (⟨(rd_T40 l0 x11_1).f1.f0, (rd_T40 l0 x11_1).f1.f1, (rd_T40 l0 x11_1).f1.f2, (rd_T40 l0 x11_1).f1.f3⟩ : S38)); (case aB => exact (bS1_ HB.out GE118.out)); (case aF => exact (fun _ _ => trivial)); (case aO => exact (rv_ HO_3.out)); (case aS => exact (below_size (bS1_ HB.out GE118.out))); (case aL => have := LMc8.out; omega); intro v121 w13 ho hb hg hat; rw [← Ny120.out] at ho; have n0_ := a_ (blk_grown (g := gb118) (o := .cells #[.int .i64 ((rd_T40 l0 x11_1).f0), .int .i64 ((rd_T40 l0 x11_1).f1.f0), .int .i64 ((rd_T40 l0 x11_1).f1.f1), .int .i64 ((rd_T40 l0 x11_1).f1.f2), .int .i64 ((rd_T40 l0 x11_1).f1.f3), .int .i64 ((rd_T40 l0 x11_1).f2), .bool ((rd_T40 l0 x11_1).f3), .int .i64 ((rd_T40 l0 x11_1).f4), .int .i64 ((rd_T40 l0 x11_1).f5)] 40 (0, 0)) (kv_ BK118.out) hg (Kd.R_ne HO_3.out BK118.out (by decide))); have n1_ := a_ (hb); have n2_ := a_ (ho); clear BK118; clear HB; clear HO_3; have BK118 := n0_; have HB := n1_; have HO122 := n2_; clear n0_ n1_ n2_; clear ho hb hg hat))
         go_roundg k1
         case measure => have := HK1.out; omega
         case rel => exact ⟨(y120), (wrap64 (x11_1 + 1)), (by first | rfl | (simp; done) | (simp [*]; done)), H', ⟨by have := HK1.out; omega⟩, ⟨by (with_reducible repeat (first | apply Kd.R_alloc | apply Kd.R_drewN | apply Kd.R_drew)); exact HO122.out⟩, ⟨bS1_ HB.out GE118.out⟩⟩
        ·rw [if_neg c8] at H
         exact absurd H (by simp)
       ·replace c7 := Bool.eq_false_iff.mpr c7
        subst c7
        have H1 : (some false) = some r := by rw [if_neg (show ¬ (false = true) by decide)] at H; exact H
        clear H
        have H := H1
        clear H1
        obtain rfl := Option.some.inj H
        have p117 : 0 ≤ (x11_1 : Int) := od_
        have q117 : x11_1 < (l0.length : Int) := od_
        obtain ⟨ad117, e117, hx117_0, hx117_1, hx117_2, hx117_3, hx117_4, hx117_5, hx117_6, hx117_7, hx117_8⟩ := at_T40 (Kd.C_below HR0.out HB.out) x11_1 p117 q117
        cases e117
        replace p117 := eq_true p117
        replace q117 := eq_true q117
        go_wp2_with (first | ((with_reducible refine gate_dst (N := 5) rfl ?_); refine box_event ?hg (N := 5) ?hd (cs := #[.int .i64 0, .int .i64 0, .int .i64 0, .int .i64 0, .int .i64 0, .int .i64 0, .bool false, .int .i64 0, .int .i64 0]) (t := 40) ?hr ?_; (case hd => rfl); (case hg => rfl); (case hr => first | (go_simp; done) | (go_simp; rfl)); intro gb118 hg w14 hbox hb; have n0_ := a_ (Kd.R_below (rv_ HO_3.out) hb); have n1_ := a_ (bs_ HB.out hb); have n2_ := a_ (hbox); have n3_ := a_ ((by rw [hg]; exact (below_size (bv_ HB.out)) : w.heap.size ≤ gb118)); have n4_ := a_ ((by rw [hg]; exact (below_size (bv_ HB.out)) : w.heap.size ≤ gb118)); clear HO_3; clear HB; have HO_3 := n0_; have HB := n1_; have BK118 := n2_; have GW118 := n3_; have GE118 := n4_; clear n0_ n1_ n2_ n3_ n4_; clear hb hbox hg; obtain ⟨⟨Z15_0, Y15_0⟩, ⟨Z15_1, Y15_1⟩, ⟨Z15_2, Y15_2⟩, ⟨Z15_3, Y15_3⟩, ⟨Z15_4, Y15_4⟩, ⟨Z15_5, Y15_5⟩, ⟨Z15_6, Y15_6⟩, ⟨Z15_7, Y15_7⟩, Z15_8, Y15_8⟩ := cs9_ BK118.out) | ((with_reducible refine gate_callee (f := 26) rfl ?_); refine gl_ (some 16) Try.func26 (by kernel_rfl) #[.agg #[.int .i64 ((rd_T40 l0 x11_1).f0), .int .i64 ((rd_T40 l0 x11_1).f1.f0), .int .i64 ((rd_T40 l0 x11_1).f1.f1), .int .i64 ((rd_T40 l0 x11_1).f1.f2), .int .i64 ((rd_T40 l0 x11_1).f1.f3), .int .i64 ((rd_T40 l0 x11_1).f2), .bool ((rd_T40 l0 x11_1).f3), .int .i64 ((rd_T40 l0 x11_1).f4), .int .i64 ((rd_T40 l0 x11_1).f5)]] ?_; (with_reducible refine (item_right.calls k1 ((rd_T40 l0 x11_1).f0) ((rd_T40 l0 x11_1).f1.f0) ((rd_T40 l0 x11_1).f1.f1) ((rd_T40 l0 x11_1).f1.f2) ((rd_T40 l0 x11_1).f1.f3) ((rd_T40 l0 x11_1).f2) ((rd_T40 l0 x11_1).f3) ((rd_T40 l0 x11_1).f4) ((rd_T40 l0 x11_1).f5) false _ A6.out).mono ?_); rintro e w16 ⟨rfl, hb⟩; refine ⟨_, rfl, ?_⟩; have n0_ := a_ (Kd.R_below (by (with_reducible repeat (first | apply Kd.R_alloc | apply Kd.R_drewN | apply Kd.R_drew)); exact (Kd.R_mono (Kd.R_far (p := ⟨gb118, 8, none⟩) (Kd.R_far (p := ⟨gb118, 7, none⟩) (Kd.R_far (p := ⟨gb118, 6, none⟩) (Kd.R_far (p := ⟨gb118, 5, none⟩) (Kd.R_far (p := ⟨gb118, 4, none⟩) (Kd.R_far (p := ⟨gb118, 3, none⟩) (Kd.R_far (p := ⟨gb118, 2, none⟩) (Kd.R_far (p := ⟨gb118, 1, none⟩) (Kd.R_far (p := ⟨gb118, 0, none⟩) (Kd.R_types HO_3.out BK118.out (by decide)) (fun _ hk => hk.2) (.int .i64 ((rd_T40 l0 x11_1).f0))) (fun _ hk => hk.2) (.int .i64 ((rd_T40 l0 x11_1).f1.f0))) (fun _ hk => hk.2) (.int .i64 ((rd_T40 l0 x11_1).f1.f1))) (fun _ hk => hk.2) (.int .i64 ((rd_T40 l0 x11_1).f1.f2))) (fun _ hk => hk.2) (.int .i64 ((rd_T40 l0 x11_1).f1.f3))) (fun _ hk => hk.2) (.int .i64 ((rd_T40 l0 x11_1).f2))) (fun _ hk => hk.2) (.bool ((rd_T40 l0 x11_1).f3))) (fun _ hk => hk.2) (.int .i64 ((rd_T40 l0 x11_1).f4))) (fun _ hk => hk.2) (.int .i64 ((rd_T40 l0 x11_1).f5))) (fun _ h_ => h_.1))) hb); have n1_ := a_ (blk_below (g := gb118) (o := .cells #[.int .i64 ((rd_T40 l0 x11_1).f0), .int .i64 ((rd_T40 l0 x11_1).f1.f0), .int .i64 ((rd_T40 l0 x11_1).f1.f1), .int .i64 ((rd_T40 l0 x11_1).f1.f2), .int .i64 ((rd_T40 l0 x11_1).f1.f3), .int .i64 ((rd_T40 l0 x11_1).f2), .bool ((rd_T40 l0 x11_1).f3), .int .i64 ((rd_T40 l0 x11_1).f4), .int .i64 ((rd_T40 l0 x11_1).f5)] 40 (0, 0)) (kp0_ BK118.out) hb); have n2_ := a_ (below_step (bS1_ HB.out GE118.out) hb); clear HO_3; clear BK118; clear HB; have HO_3 := n0_; have BK118 := n1_; have HB := n2_; clear n0_ n1_ n2_; (try clear hb); (try clear hb2); (try clear hk); (try clear hi)))
        go_ret
        exact ⟨by first | rfl | (simp [errW_none, errW_some] <;> rfl) | (simp [*, errW_none, errW_some] <;> rfl), bS1_ HB.out GE118.out⟩
      ·rw [if_neg c5] at H
       exact absurd H (by simp)
     ·rw [if_neg c4] at H
      exact absurd H (by simp)
    ·rw [if_neg c3] at H
     have c3b0 : decide (x11_1 < (l0.length : Int)) = false := decide_eq_false c3
     clear c3
     replace H := Option.bind_eq_some_iff.mp H
     obtain ⟨t123, A170, H⟩ := H
     replace H : (some t123) = some r := H
     have A17 := a_ A170
     clear A170
     obtain rfl := Option.some.inj H
     obtain ⟨Ao18, co18, eo18⟩ := Kd.R_slice HO_3.out
     subst eo18
     go_wp2_with (first | ((with_reducible refine gate_callee (f := 27) rfl ?_); refine gl_ (some 25) Try.func27 (by kernel_rfl) #[.slice Ao18 x3_1.length co18] ?_; (with_reducible refine (glue_May.calls k1 _ _ x3_1 t123 _ ?side1 ?side2 A17.out).mono ?_); (case side1 => exact cr_ (Kd.R_reads' HO_3.out).2.2); (case side2 => exact (Kd.R_reads' HO_3.out).2.1); rintro e w19 ⟨rfl, hb⟩; refine ⟨_, rfl, ?_⟩; have n0_ := a_ (Kd.R_below (rv_ HO_3.out) hb); have n1_ := a_ (bs_ HB.out hb); clear HO_3; clear HB; have HO_3 := n0_; have HB := n1_; clear n0_ n1_; (try clear hb); (try clear hb2); (try clear hk); (try clear hi)))
     go_ret
     exact ⟨by first | rfl | (simp [errW_none, errW_some] <;> rfl) | (simp [*, errW_none, errW_some] <;> rfl), bv_ HB.out⟩

/-! ### demerit_Forced: function 45 -/
def demerit_Forced.f (a0_0 : Int) (a0_1 : Int) (a0_2 : Int) (a0_3 : Int) (a0_4 : Int) (a0_5 : Int) (a0_6 : Bool) (a0_7 : Int) (a0_8 : Int) : Option (Bool) := if a0_0 = 2 then (some (a0_5 == (-10000))) else (some false)
set_option maxHeartbeats 8000000 in
set_option maxRecDepth 100000 in
theorem demerit_Forced.calls (a0_0 : Int) (a0_1 : Int) (a0_2 : Int) (a0_3 : Int) (a0_4 : Int) (a0_5 : Int) (a0_6 : Bool) (a0_7 : Int) (a0_8 : Int) (r : Bool) (w : World) (h : demerit_Forced.f a0_0 a0_1 a0_2 a0_3 a0_4 a0_5 a0_6 a0_7 a0_8 = some r) :
  Calls Try.prog 45 #[.agg #[.int .i64 a0_0, .int .i64 a0_1, .int .i64 a0_2, .int .i64 a0_3, .int .i64 a0_4, .int .i64 a0_5, .bool a0_6, .int .i64 a0_7, .int .i64 a0_8]] w fun e w' => e = .returned (.bool r) ∧ Below w.heap.size w w' := by
 have hu40 := Try.underlying40
 have HB := a_ (Below.refl w.heap.size w)
 have H : (if a0_0 = 2 then (some (a0_5 == (-10000))) else (some false)) = some r := h
 clear h
 by_cases c2 : a0_0 = 2
 ·rw [if_pos c2] at H
  have c2b0 : (a0_0 == 2) = true := beq_iff_eq.mpr c2
  have c2b1 : (a0_0 != 2) = false := bne_eq_false_iff_eq.mpr c2
  clear c2
  obtain rfl := Option.some.inj H
  go_enter Try.func45, Try.ntmps45
  go_wp2_with (first | ((with_reducible refine gate_dst (N := 1) rfl ?_); refine box_event ?hg (N := 1) ?hd (cs := #[.int .i64 a0_0, .int .i64 a0_1, .int .i64 a0_2, .int .i64 a0_3, .int .i64 a0_4, .int .i64 a0_5, .bool a0_6, .int .i64 a0_7, .int .i64 a0_8]) (t := 40) ?hr ?_; (case hd => rfl); (case hg => rfl); (case hr => first | (go_simp; done) | (go_simp; rfl)); intro gb124 hg w3 hbox hb; have n0_ := a_ (bs_ HB.out hb); have n1_ := a_ (hbox); have n2_ := a_ ((by rw [hg]; exact (below_size (bv_ HB.out)) : w.heap.size ≤ gb124)); have n3_ := a_ ((by rw [hg]; exact (below_size (bv_ HB.out)) : w.heap.size ≤ gb124)); clear HB; have HB := n0_; have BK124 := n1_; have GW124 := n2_; have GE124 := n3_; clear n0_ n1_ n2_ n3_; clear hb hbox hg; obtain ⟨⟨Z4_0, Y4_0⟩, ⟨Z4_1, Y4_1⟩, ⟨Z4_2, Y4_2⟩, ⟨Z4_3, Y4_3⟩, ⟨Z4_4, Y4_4⟩, ⟨Z4_5, Y4_5⟩, ⟨Z4_6, Y4_6⟩, ⟨Z4_7, Y4_7⟩, Z4_8, Y4_8⟩ := cs9_ BK124.out))
  go_ret
  exact ⟨by first | rfl | (simp [errW_none, errW_some] <;> rfl) | (simp [*, errW_none, errW_some] <;> rfl), bS1_ HB.out GE124.out⟩
 ·rw [if_neg c2] at H
  have c2b0 : (a0_0 == 2) = false := beq_eq_false_iff_ne.mpr c2
  have c2b1 : (a0_0 != 2) = true := bne_iff_ne.mpr c2
  obtain rfl := Option.some.inj H
  go_enter Try.func45, Try.ntmps45
  go_wp2_with (first | ((with_reducible refine gate_dst (N := 1) rfl ?_); refine box_event ?hg (N := 1) ?hd (cs := #[.int .i64 a0_0, .int .i64 a0_1, .int .i64 a0_2, .int .i64 a0_3, .int .i64 a0_4, .int .i64 a0_5, .bool a0_6, .int .i64 a0_7, .int .i64 a0_8]) (t := 40) ?hr ?_; (case hd => rfl); (case hg => rfl); (case hr => first | (go_simp; done) | (go_simp; rfl)); intro gb124 hg w5 hbox hb; have n0_ := a_ (bs_ HB.out hb); have n1_ := a_ (hbox); have n2_ := a_ ((by rw [hg]; exact (below_size (bv_ HB.out)) : w.heap.size ≤ gb124)); have n3_ := a_ ((by rw [hg]; exact (below_size (bv_ HB.out)) : w.heap.size ≤ gb124)); clear HB; have HB := n0_; have BK124 := n1_; have GW124 := n2_; have GE124 := n3_; clear n0_ n1_ n2_ n3_; clear hb hbox hg; obtain ⟨⟨Z6_0, Y6_0⟩, ⟨Z6_1, Y6_1⟩, ⟨Z6_2, Y6_2⟩, ⟨Z6_3, Y6_3⟩, ⟨Z6_4, Y6_4⟩, ⟨Z6_5, Y6_5⟩, ⟨Z6_6, Y6_6⟩, ⟨Z6_7, Y6_7⟩, Z6_8, Y6_8⟩ := cs9_ BK124.out))
  go_ret
  exact ⟨by first | rfl | (simp [errW_none, errW_some] <;> rfl) | (simp [*, errW_none, errW_some] <;> rfl), bS1_ HB.out GE124.out⟩

/-! ### demerit_Start: function 29 -/
def demerit_Start.l0 : Nat → List (S40) → Int → Option (Int)
 | 0, _, _ => none
 | k + 1, x0, x5 => if x5 < (x0.length : Int) then (if 0 ≤ x5 then (if ((rd_T40 x0 x5).f0) = 0 then (some x5) else ((demerit_Forced.f ((rd_T40 x0 x5).f0) ((rd_T40 x0 x5).f1.f0) ((rd_T40 x0 x5).f1.f1) ((rd_T40 x0 x5).f1.f2) ((rd_T40 x0 x5).f1.f3) ((rd_T40 x0 x5).f2) ((rd_T40 x0 x5).f3) ((rd_T40 x0 x5).f4) ((rd_T40 x0 x5).f5)).bind fun t127 => (if t127 = true then (some x5) else (demerit_Start.l0 k x0 (wrap64 (x5 + 1)))))) else (none)) else (some x5)
def demerit_Start.f (k : Nat) (l0 : List (S40)) (a1 : Int) : Option (Int) := if a1 ≥ (l0.length : Int) then (some (l0.length : Int)) else (demerit_Start.l0 k l0 (wrap64 ((mx a1 (-1)) + 1)))
theorem demerit_Start.mono_l : ∀ k, (∀ y0 y1, LeO (demerit_Start.l0 k y0 y1) (demerit_Start.l0 (k + 1) y0 y1))
 | 0 => fun _ _ r h => by simp [demerit_Start.l0] at h
 | k + 1 => by
  have ih0 := demerit_Start.mono_l k
  ·intro y0 y1
   unfold demerit_Start.l0
   repeat' first | (with_reducible first | exact ih0 _ _ | exact LeO.refl _ | exact LeO.none _ | refine LeO.ite ?_ ?_ | refine LeO.bind ?_ (fun _ => ?_)) | exact LeO.none _ | refine LeO.ite ?_ ?_ | refine LeO.bind ?_ (fun _ => ?_)
theorem demerit_Start.mono : ∀ a0 a1 k, LeO (demerit_Start.f k a0 a1) (demerit_Start.f (k + 1) a0 a1) := by
 intro a0 a1 k
 have ih0 := demerit_Start.mono_l k
 unfold demerit_Start.f
 repeat' first
   | (with_reducible exact ih0 _ _)
   | (with_reducible exact LeO.refl _)
   | (with_reducible exact LeO.none _)
   | (with_reducible refine LeO.ite ?_ ?_)
   | (with_reducible refine LeO.bind ?_ (fun _ => ?_))
   | exact ih0 _ _
   | exact LeO.none _
   | refine LeO.ite ?_ ?_
   | refine LeO.bind ?_ (fun _ => ?_)
set_option maxHeartbeats 8000000 in
set_option maxRecDepth 100000 in
theorem demerit_Start.calls (k : Nat) (A0 : Option Addr) (c0 : Nat) (l0 : List (S40)) (a1 : Int) (r : Int) (w : World) (hr0 : Kd.C k40 w A0 l0.length l0) (hc0 : l0.length ≤ c0) (h : demerit_Start.f k l0 a1 = some r) :
  Calls Try.prog 29 #[.slice A0 l0.length c0, .int .i64 a1] w fun e w' => e = .returned (.int .i64 r) ∧ Below w.heap.size w w' := by
 have hu40 := Try.underlying40
 have HR0 := a_ hr0
 have HC0 := a_ hc0
 clear hr0 hc0
 have HB := a_ (Below.refl w.heap.size w)
 have H : (if a1 ≥ (l0.length : Int) then (some (l0.length : Int)) else (demerit_Start.l0 k l0 (wrap64 ((mx a1 (-1)) + 1)))) = some r := h
 clear h
 obtain ⟨ji3, hji3⟩ : ∃ j_ : Int, (mx a1 (-1)) = j_ := ⟨_, rfl⟩
 replace H : (if a1 ≥ (l0.length : Int) then (some (l0.length : Int)) else (demerit_Start.l0 k l0 (wrap64 ((ji3) + 1)))) = some r := by first | (rw [hji3] at H; exact H) | (simp only [hji3] at H ⊢; exact H)
 have hji3_ : (if a1 < (-1) then (-1) else a1) = ji3 := hji3
 by_cases c4 : a1 ≥ (l0.length : Int)
 ·rw [if_pos c4] at H
  have c4b0 : decide ((l0.length : Int) ≤ a1) = true := decide_eq_true c4
  clear c4
  obtain rfl := Option.some.inj H
  go_enter Try.func29, Try.ntmps29
  go_wp2
  go_ret
  exact ⟨by first | rfl | (simp [errW_none, errW_some] <;> rfl) | (simp only [← hji3]; first | rfl | (simp [errW_none, errW_some] <;> rfl)) | (simp [*, errW_none, errW_some] <;> rfl), bv_ HB.out⟩
 ·rw [if_neg c4] at H
  have c4b0 : decide ((l0.length : Int) ≤ a1) = false := decide_eq_false c4
  clear c4
  have H' := a_ H
  clear H
  go_enter Try.func29, Try.ntmps29
  go_wp2
  go_loopg [5] k (fun kq v5 w' => ∃ (x5_1 : Int), v5 = .int .i64 x5_1 ∧ Aside0 (demerit_Start.l0 kq l0 x5_1 = some r) ∧ Aside0 (kq ≤ k) ∧ Aside0 (Below w.heap.size w w'))
  case atStart => exact ⟨(wrap64 ((ji3) + 1)), (by first | rfl | (simp; done) | (simp only [← hji3] <;> (first | rfl | simp)) | (simp [*]; done)), H', ⟨Nat.le_refl _⟩, ⟨bv_ HB.out⟩⟩
  case round =>
   clear H'
   try clear c2
   try clear p2
   try clear c4
   try clear c4b0
   obtain ⟨x5_1, rfl, HA, HK1, HB⟩ := hrel
   cases gk with
   | zero => exact absurd HA.out (by simp [demerit_Start.l0])
   | succ k1 =>
    have H := HA.out
    clear HA
    simp only [demerit_Start.l0] at H
    by_cases c5 : x5_1 < (l0.length : Int)
    ·rw [if_pos c5] at H
     have c5b0 : decide (x5_1 < (l0.length : Int)) = true := decide_eq_true c5
     clear c5
     by_cases c6 : 0 ≤ x5_1
     ·rw [if_pos c6] at H
      have c6b0 : decide (0 ≤ x5_1) = true := decide_eq_true c6
      clear c6
      by_cases c7 : ((rd_T40 l0 x5_1).f0) = 0
      ·rw [if_pos c7] at H
       have c7b0 : (((rd_T40 l0 x5_1).f0) == 0) = true := beq_iff_eq.mpr c7
       have c7b1 : (((rd_T40 l0 x5_1).f0) != 0) = false := bne_eq_false_iff_eq.mpr c7
       clear c7
       obtain rfl := Option.some.inj H
       have p125 : 0 ≤ (x5_1 : Int) := od_
       have q125 : x5_1 < (l0.length : Int) := od_
       obtain ⟨ad125, e125, hx125_0, hx125_1, hx125_2, hx125_3, hx125_4, hx125_5, hx125_6, hx125_7, hx125_8⟩ := at_T40 (Kd.C_below HR0.out HB.out) x5_1 p125 q125
       cases e125
       replace p125 := eq_true p125
       replace q125 := eq_true q125
       go_wp2
       go_ret
       exact ⟨by first | rfl | (simp [errW_none, errW_some] <;> rfl) | (simp only [← hji3]; first | rfl | (simp [errW_none, errW_some] <;> rfl)) | (simp [*, errW_none, errW_some] <;> rfl), bv_ HB.out⟩
      ·rw [if_neg c7] at H
       have c7b0 : (((rd_T40 l0 x5_1).f0) == 0) = false := beq_eq_false_iff_ne.mpr c7
       have c7b1 : (((rd_T40 l0 x5_1).f0) != 0) = true := bne_iff_ne.mpr c7
       replace H := Option.bind_eq_some_iff.mp H
       obtain ⟨t127, A80, H⟩ := H
       replace H : (if t127 = true then (some x5_1) else (demerit_Start.l0 k1 l0 (wrap64 (x5_1 + 1)))) = some r := H
       have A8 := a_ A80
       clear A80
       by_cases c9 : t127 = true
       ·subst c9
        have H1 : (some x5_1) = some r := by rw [if_pos rfl] at H; exact H
        clear H
        have H := H1
        clear H1
        obtain rfl := Option.some.inj H
        have p125 : 0 ≤ (x5_1 : Int) := od_
        have q125 : x5_1 < (l0.length : Int) := od_
        obtain ⟨ad125, e125, hx125_0, hx125_1, hx125_2, hx125_3, hx125_4, hx125_5, hx125_6, hx125_7, hx125_8⟩ := at_T40 (Kd.C_below HR0.out HB.out) x5_1 p125 q125
        cases e125
        replace p125 := eq_true p125
        replace q125 := eq_true q125
        have p126 : 0 ≤ (x5_1 : Int) := od_
        have q126 : x5_1 < (l0.length : Int) := od_
        obtain ⟨ad126, e126, hx126_0, hx126_1, hx126_2, hx126_3, hx126_4, hx126_5, hx126_6, hx126_7, hx126_8⟩ := at_T40 (Kd.C_below HR0.out HB.out) x5_1 p126 q126
        obtain rfl : ad125 = ad126 := (by injection e126)
        replace p126 := eq_true p126
        replace q126 := eq_true q126
        go_wp2_with (first | (go_at_call 45; (with_reducible refine (demerit_Forced.calls ((rd_T40 l0 x5_1).f0) ((rd_T40 l0 x5_1).f1.f0) ((rd_T40 l0 x5_1).f1.f1) ((rd_T40 l0 x5_1).f1.f2) ((rd_T40 l0 x5_1).f1.f3) ((rd_T40 l0 x5_1).f2) ((rd_T40 l0 x5_1).f3) ((rd_T40 l0 x5_1).f4) ((rd_T40 l0 x5_1).f5) true _ A8.out).mono ?_); rintro e w10 ⟨rfl, hb⟩; have n0_ := a_ (bs_ HB.out hb); clear HB; have HB := n0_; clear n0_; (try clear hb); (try clear hb2); (try clear hk); (try clear hi)))
        go_ret
        exact ⟨by first | rfl | (simp [errW_none, errW_some] <;> rfl) | (simp only [← hji3]; first | rfl | (simp [errW_none, errW_some] <;> rfl)) | (simp [*, errW_none, errW_some] <;> rfl), bv_ HB.out⟩
       ·replace c9 := Bool.eq_false_iff.mpr c9
        subst c9
        have H1 : (demerit_Start.l0 k1 l0 (wrap64 (x5_1 + 1))) = some r := by rw [if_neg (show ¬ (false = true) by decide)] at H; exact H
        clear H
        have H := H1
        clear H1
        have H' := a_ H
        clear H
        have p125 : 0 ≤ (x5_1 : Int) := od_
        have q125 : x5_1 < (l0.length : Int) := od_
        obtain ⟨ad125, e125, hx125_0, hx125_1, hx125_2, hx125_3, hx125_4, hx125_5, hx125_6, hx125_7, hx125_8⟩ := at_T40 (Kd.C_below HR0.out HB.out) x5_1 p125 q125
        cases e125
        replace p125 := eq_true p125
        replace q125 := eq_true q125
        have p126 : 0 ≤ (x5_1 : Int) := od_
        have q126 : x5_1 < (l0.length : Int) := od_
        obtain ⟨ad126, e126, hx126_0, hx126_1, hx126_2, hx126_3, hx126_4, hx126_5, hx126_6, hx126_7, hx126_8⟩ := at_T40 (Kd.C_below HR0.out HB.out) x5_1 p126 q126
        obtain rfl : ad125 = ad126 := (by injection e126)
        replace p126 := eq_true p126
        replace q126 := eq_true q126
        go_wp2_with (first | (go_at_call 45; (with_reducible refine (demerit_Forced.calls ((rd_T40 l0 x5_1).f0) ((rd_T40 l0 x5_1).f1.f0) ((rd_T40 l0 x5_1).f1.f1) ((rd_T40 l0 x5_1).f1.f2) ((rd_T40 l0 x5_1).f1.f3) ((rd_T40 l0 x5_1).f2) ((rd_T40 l0 x5_1).f3) ((rd_T40 l0 x5_1).f4) ((rd_T40 l0 x5_1).f5) false _ A8.out).mono ?_); rintro e w11 ⟨rfl, hb⟩; have n0_ := a_ (bs_ HB.out hb); clear HB; have HB := n0_; clear n0_; (try clear hb); (try clear hb2); (try clear hk); (try clear hi)))
        go_roundg k1
        case measure => have := HK1.out; omega
        case rel => exact ⟨(wrap64 (x5_1 + 1)), (by first | rfl | (simp; done) | (simp [*]; done)), H', ⟨by have := HK1.out; omega⟩, ⟨bv_ HB.out⟩⟩
     ·rw [if_neg c6] at H
      exact absurd H (by simp)
    ·rw [if_neg c5] at H
     have c5b0 : decide (x5_1 < (l0.length : Int)) = false := decide_eq_false c5
     clear c5
     obtain rfl := Option.some.inj H
     go_wp2
     go_ret
     exact ⟨by first | rfl | (simp [errW_none, errW_some] <;> rfl) | (simp only [← hji3]; first | rfl | (simp [errW_none, errW_some] <;> rfl)) | (simp [*, errW_none, errW_some] <;> rfl), bv_ HB.out⟩

/-! ### demerit_Glues: function 31 -/
mutual
def demerit_Glues.j0 : Nat → List (S40) → Int → Int → Bool → Option ((List (S38)))
 | 0, _, _, _, _ => none
 | k + 1, x0, x1, x2, x16 => if x16 = true then (some ([] : List (S38))) else ((demerit_Start.f k x0 x1).bind fun t128 => (demerit_Glues.l0 k x0 x2 ([] : List (S38)) t128))
def demerit_Glues.l0 : Nat → List (S40) → Int → List (S38) → Int → Option ((List (S38)))
 | 0, _, _, _, _ => none
 | k + 1, x0, x2, x7, x8 => if x8 < x2 then (if 0 ≤ x8 then (if x8 < (x0.length : Int) then (if ((rd_T40 x0 x8).f0) = 0 then (if x7.length < 4398046511104 then (demerit_Glues.l0 k x0 x2 (x7 ++ [(⟨(rd_T40 x0 x8).f1.f0, (rd_T40 x0 x8).f1.f1, (rd_T40 x0 x8).f1.f2, (rd_T40 x0 x8).f1.f3⟩ : S38)]) (wrap64 (x8 + 1))) else (none)) else (if ((rd_T40 x0 x8).f0) = 1 then (if x7.length < 4398046511104 then (demerit_Glues.l0 k x0 x2 (x7 ++ [(⟨(rd_T40 x0 x8).f1.f0, (rd_T40 x0 x8).f1.f1, (rd_T40 x0 x8).f1.f2, (rd_T40 x0 x8).f1.f3⟩ : S38)]) (wrap64 (x8 + 1))) else (none)) else (demerit_Glues.l0 k x0 x2 x7 (wrap64 (x8 + 1))))) else (none)) else (none)) else (if 0 ≤ x2 then (if x2 < (x0.length : Int) then (if ((rd_T40 x0 x2).f0) = 2 then (if x7.length < 4398046511104 then (some (x7 ++ [(⟨(rd_T40 x0 x2).f1.f0, 0, 0, 0⟩ : S38)])) else (none)) else (some x7)) else (none)) else (none))
end
def demerit_Glues.f (k : Nat) (l0 : List (S40)) (a1 : Int) (a2 : Int) : Option ((List (S38))) := if a2 < 0 then (demerit_Glues.j0 k l0 a1 a2 true) else (demerit_Glues.j0 k l0 a1 a2 (decide (a2 ≥ (l0.length : Int))))
theorem demerit_Glues.mono_l : ∀ k, (∀ y0 y1 y2 y3, LeO (demerit_Glues.j0 k y0 y1 y2 y3) (demerit_Glues.j0 (k + 1) y0 y1 y2 y3)) ∧ (∀ y0 y1 y2 y3, LeO (demerit_Glues.l0 k y0 y1 y2 y3) (demerit_Glues.l0 (k + 1) y0 y1 y2 y3))
 | 0 => ⟨fun _ _ _ _ r h => by simp [demerit_Glues.j0] at h, fun _ _ _ _ r h => by simp [demerit_Glues.l0] at h⟩
 | k + 1 => by
  obtain ⟨ih0, ih1⟩ := demerit_Glues.mono_l k
  refine ⟨?_, ?_⟩
  ·intro y0 y1 y2 y3
   unfold demerit_Glues.j0
   repeat' first | (with_reducible first | exact ih0 _ _ _ _ | exact ih1 _ _ _ _ | exact demerit_Start.mono _ _ _ | exact LeO.refl _ | exact LeO.none _ | refine LeO.ite ?_ ?_ | refine LeO.bind ?_ (fun _ => ?_)) | exact LeO.none _ | refine LeO.ite ?_ ?_ | refine LeO.bind ?_ (fun _ => ?_)
  ·intro y0 y1 y2 y3
   unfold demerit_Glues.l0
   repeat' first | (with_reducible first | exact ih0 _ _ _ _ | exact ih1 _ _ _ _ | exact demerit_Start.mono _ _ _ | exact LeO.refl _ | exact LeO.none _ | refine LeO.ite ?_ ?_ | refine LeO.bind ?_ (fun _ => ?_)) | exact LeO.none _ | refine LeO.ite ?_ ?_ | refine LeO.bind ?_ (fun _ => ?_)
theorem demerit_Glues.mono : ∀ a0 a1 a2 k, LeO (demerit_Glues.f k a0 a1 a2) (demerit_Glues.f (k + 1) a0 a1 a2) := by
 intro a0 a1 a2 k
 obtain ⟨ih0, ih1⟩ := demerit_Glues.mono_l k
 unfold demerit_Glues.f
 repeat' first
   | (with_reducible exact ih0 _ _ _ _)
   | (with_reducible exact ih1 _ _ _ _)
   | (with_reducible exact demerit_Start.mono _ _ _)
   | (with_reducible exact LeO.refl _)
   | (with_reducible exact LeO.none _)
   | (with_reducible refine LeO.ite ?_ ?_)
   | (with_reducible refine LeO.bind ?_ (fun _ => ?_))
   | exact ih0 _ _ _ _
   | exact ih1 _ _ _ _
   | exact demerit_Start.mono _ _ _
   | exact LeO.none _
   | refine LeO.ite ?_ ?_
   | refine LeO.bind ?_ (fun _ => ?_)
set_option maxHeartbeats 8000000 in
set_option maxRecDepth 100000 in
theorem demerit_Glues.calls (k : Nat) (A0 : Option Addr) (c0 : Nat) (l0 : List (S40)) (a1 : Int) (a2 : Int) (r : List (S38)) (w : World) (hr0 : Kd.C k40 w A0 l0.length l0) (hc0 : l0.length ≤ c0) (h : demerit_Glues.f k l0 a1 a2 = some r) :
  Calls Try.prog 31 #[.slice A0 l0.length c0, .int .i64 a1, .int .i64 a2] w fun e w' => ∃ v0_ : Value, e = .returned (v0_) ∧ Kd.R k38 38 w' w.heap.size (fun _ => True) v0_ r ∧ Below w.heap.size w w' := by
 have hu38 := Try.underlying38
 have HR0 := a_ hr0
 have HC0 := a_ hc0
 clear hr0 hc0
 have HB := a_ (Below.refl w.heap.size w)
 have H : (if a2 < 0 then (demerit_Glues.j0 k l0 a1 a2 true) else (demerit_Glues.j0 k l0 a1 a2 (decide (a2 ≥ (l0.length : Int))))) = some r := h
 clear h
 have HC4 := a_ H
 clear H
 go_enter Try.func31, Try.ntmps31
 go_upto_region 1 with (fail)
 go_cut [16] (fun v16 wc => ∃ (kq : Nat) (x16_3 : Bool), v16 = .bool x16_3 ∧ Aside0 (demerit_Glues.j0 kq l0 a1 a2 x16_3 = some r) ∧ Aside0 (kq ≤ k) ∧ Aside0 (Below w.heap.size w wc))
 case first =>
  have H := HC4.out
  clear HC4
  by_cases c5 : a2 < 0
  ·rw [if_pos c5] at H
   have c5b0 : decide (a2 < 0) = true := decide_eq_true c5
   clear c5
   (first | rw [c5b0] | (simp only [i64_w, i32_w]; rw [c5b0]) | skip)
   have H' := a_ H
   clear H
   go_wp2
   go_meet
   case rel => exact ⟨_, (true), (by first | rfl | (simp; done) | (simp [*]; done)), H', ⟨by first | omega | exact Nat.le_refl _⟩, ⟨bv_ HB.out⟩⟩
  ·rw [if_neg c5] at H
   have c5b0 : decide (a2 < 0) = false := decide_eq_false c5
   clear c5
   (first | rw [c5b0] | (simp only [i64_w, i32_w]; rw [c5b0]) | skip)
   have H' := a_ H
   clear H
   go_wp2
   go_meet
   case rel => exact ⟨_, (decide (a2 ≥ (l0.length : Int))), (by first | rfl | (simp; done) | (simp [*]; done)), H', ⟨by first | omega | exact Nat.le_refl _⟩, ⟨bv_ HB.out⟩⟩
 case rest =>
  clear HC4
  try clear p2
  try clear c3
  try clear c5
  try clear c5b0
  obtain ⟨kq, x16_3, rfl, HA, HJ3, HB⟩ := hcut
  cases kq with
  | zero => exact absurd HA.out (by simp [demerit_Glues.j0])
  | succ kj3 =>
   have H := HA.out
   clear HA
   simp only [demerit_Glues.j0] at H
   by_cases c6 : x16_3 = true
   ·subst c6
    have H1 : (some ([] : List (S38))) = some r := by rw [if_pos rfl] at H; exact H
    clear H
    have H := H1
    clear H1
    obtain rfl := Option.some.inj H
    go_wp2
    go_ret
    exact ⟨_, by first | rfl | (simp [errW_none, errW_some] <;> rfl) | (simp [*, errW_none, errW_some] <;> rfl), by first | exact Kd.R_nil _ _ _ _ _ | exact Kd.N_nil _ _ _ _ _ | exact Kd.V_nil _ _ _ _ _ | exact Kd.Q_nil _ _ _ _ _ | exact Kd.S_nil _ _ _ _ _, bv_ HB.out⟩
   ·replace c6 := Bool.eq_false_iff.mpr c6
    subst c6
    have H1 : ((demerit_Start.f kj3 l0 a1).bind fun t128 => (demerit_Glues.l0 kj3 l0 a2 ([] : List (S38)) t128)) = some r := by rw [if_neg (show ¬ (false = true) by decide)] at H; exact H
    clear H
    have H := H1
    clear H1
    replace H := Option.bind_eq_some_iff.mp H
    obtain ⟨t128, A70, H⟩ := H
    replace H : (demerit_Glues.l0 kj3 l0 a2 ([] : List (S38)) t128) = some r := H
    have A7 := a_ A70
    clear A70
    have H' := a_ H
    clear H
    go_wp2_with (first | ((with_reducible refine gate_callee (f := 29) rfl ?_); refine gl_ (some 19) Try.func29 (by kernel_rfl) #[.slice A0 l0.length c0, .int .i64 a1] ?_; (with_reducible refine (demerit_Start.calls kj3 _ _ l0 a1 t128 _ ?side1 ?side2 A7.out).mono ?_); (case side1 => exact cw_ HR0.out HB.out); (case side2 => exact HC0.out); rintro e w8 ⟨rfl, hb⟩; refine ⟨_, rfl, ?_⟩; have n0_ := a_ (bs_ HB.out hb); clear HB; have HB := n0_; clear n0_; (try clear hb); (try clear hb2); (try clear hk); (try clear hi)))
    go_loopg [7, 8] kj3 (fun kq v7 v8 w' => ∃ (x7_2 : List (S38)) (x8_2 : Int), v8 = .int .i64 x8_2 ∧ Aside0 (demerit_Glues.l0 kq l0 a2 x7_2 x8_2 = some r) ∧ Aside0 (kq ≤ kj3) ∧ Aside0 (Kd.R k38 38 w' w.heap.size (fun _ => True) v7 x7_2) ∧ Aside0 (Below w.heap.size w w'))
    case atStart => exact ⟨(([] : List (S38))), (t128), (by first | rfl | (simp; done) | (simp [*]; done)), H', ⟨Nat.le_refl _⟩, ⟨by first | exact Kd.R_nil _ _ _ _ _ | exact Kd.N_nil _ _ _ _ _ | exact Kd.V_nil _ _ _ _ _ | exact Kd.Q_nil _ _ _ _ _ | exact Kd.S_nil _ _ _ _ _⟩, ⟨bv_ HB.out⟩⟩
    case round =>
     clear H'
     try clear c2
     try clear p2
     try clear c3
     try clear c5
     try clear c5b0
     try clear c6
     try clear p2
     obtain ⟨x7_2, x8_2, rfl, HA, HK2, HO_7, HB⟩ := hrel
     cases gk with
     | zero => exact absurd HA.out (by simp [demerit_Glues.l0])
     | succ k2 =>
      have H := HA.out
      clear HA
      simp only [demerit_Glues.l0] at H
      by_cases c9 : x8_2 < a2
      ·rw [if_pos c9] at H
       have c9b0 : decide (x8_2 < a2) = true := decide_eq_true c9
       clear c9
       by_cases c10 : 0 ≤ x8_2
       ·rw [if_pos c10] at H
        have c10b0 : decide (0 ≤ x8_2) = true := decide_eq_true c10
        clear c10
        by_cases c11 : x8_2 < (l0.length : Int)
        ·rw [if_pos c11] at H
         have c11b0 : decide (x8_2 < (l0.length : Int)) = true := decide_eq_true c11
         clear c11
         by_cases c12 : ((rd_T40 l0 x8_2).f0) = 0
         ·rw [if_pos c12] at H
          have c12b0 : (((rd_T40 l0 x8_2).f0) == 0) = true := beq_iff_eq.mpr c12
          have c12b1 : (((rd_T40 l0 x8_2).f0) != 0) = false := bne_eq_false_iff_eq.mpr c12
          clear c12
          by_cases c13 : x7_2.length < 4398046511104
          ·rw [if_pos c13] at H
           have LMc13 := a_ c13
           clear c13
           obtain ⟨y131, hy131⟩ : ∃ y_ : List (S38), y_ = (x7_2 ++ [(⟨(rd_T40 l0 x8_2).f1.f0, (rd_T40 l0 x8_2).f1.f1, (rd_T40 l0 x8_2).f1.f2, (rd_T40 l0 x8_2).f1.f3⟩ : S38)]) := ⟨_, rfl⟩
           replace H : (demerit_Glues.l0 k2 l0 a2 y131 (wrap64 (x8_2 + 1))) = some r := by first | (rw [hy131]; with_reducible exact H) | (have H2_ := (Option.bind_some _ _).symm.trans H; rw [hy131]; with_reducible exact H2_) | (have H2_ := (Option.bind_some _ _).symm.trans H; with_reducible exact H2_) | with_reducible exact H | (rw [hy131]; exact H) | exact H
           have Ny131 := a_ hy131
           clear hy131
           have H' := a_ H
           clear H
           have p129 : 0 ≤ (x8_2 : Int) := od_
           have q129 : x8_2 < (l0.length : Int) := od_
           obtain ⟨ad129, e129, hx129_0, hx129_1, hx129_2, hx129_3, hx129_4, hx129_5, hx129_6, hx129_7, hx129_8⟩ := at_T40 (Kd.C_below HR0.out HB.out) x8_2 p129 q129
           cases e129
           replace p129 := eq_true p129
           replace q129 := eq_true q129
           have p130 : 0 ≤ (x8_2 : Int) := od_
           have q130 : x8_2 < (l0.length : Int) := od_
           obtain ⟨ad130, e130, hx130_0, hx130_1, hx130_2, hx130_3, hx130_4, hx130_5, hx130_6, hx130_7, hx130_8⟩ := at_T40 (Kd.C_below HR0.out HB.out) x8_2 p130 q130
           obtain rfl : ad129 = ad130 := (by injection e130)
           replace p130 := eq_true p130
           replace q130 := eq_true q130
           go_wp2_with (first | ((with_reducible refine gate_builtin (b := .append) (xs := #[.tmp 39, .tmp 45]) rfl ?_); (try (refine gate_guard (by rfl) ?_; dsimp only)); at_builtin; refine Kd.R_append k38 (w0 := w) w.heap.size rfl (.tmp 39) (.tmp 45) 62 38 (.agg #[(.int .i64 0), (.int .i64 0), (.int .i64 0), (.int .i64 0)]) 32 rfl Try.underlying62 info38 rfl (by decide) (by omega) u7 x7_2 (⟨(rd_T40 l0 x8_2).f1.f0, (rd_T40 l0 x8_2).f1.f1, (rd_T40 l0 x8_2).f1.f2, (rd_T40 l0 x8_2).f1.f3⟩ : S38) [.int .i64 ((rd_T40 l0 x8_2).f1.f0), .int .i64 ((rd_T40 l0 x8_2).f1.f1), .int .i64 ((rd_T40 l0 x8_2).f1.f2), .int .i64 ((rd_T40 l0 x8_2).f1.f3)] (fun _ => True) (fun _ => False) rfl rfl ?aP (fun _ hk => hk.elim) ?aF ?aO ?aB ?aS ?aL ?_; (case aP => exact k38_mkM _ _ _ (⟨(rd_T40 l0 x8_2).f1.f0, (rd_T40 l0 x8_2).f1.f1, (rd_T40 l0 x8_2).f1.f2, (rd_T40 l0 x8_2).f1.f3⟩ : S38)); (case aB => exact (bv_ HB.out)); (case aF => exact (fun _ _ => trivial)); (case aO => exact (rv_ HO_7.out)); (case aS => exact (below_size (bv_ HB.out))); (case aL => have := LMc13.out; omega); intro v132 w14 ho hb hg hat; rw [← Ny131.out] at ho; have n0_ := a_ (hb); have n1_ := a_ (ho); clear HB; clear HO_7; have HB := n0_; have HO133 := n1_; clear n0_ n1_; clear ho hb hg hat))
           go_roundg k2
           case measure => have := HJ3.out; have := HK2.out; omega
           case rel => exact ⟨(y131), (wrap64 (x8_2 + 1)), (by first | rfl | (simp; done) | (simp [*]; done)), H', ⟨by have := HJ3.out; have := HK2.out; omega⟩, ⟨by (with_reducible repeat (first | apply Kd.R_alloc | apply Kd.R_drewN | apply Kd.R_drew)); exact HO133.out⟩, ⟨bv_ HB.out⟩⟩
          ·rw [if_neg c13] at H
           exact absurd H (by simp)
         ·rw [if_neg c12] at H
          have c12b0 : (((rd_T40 l0 x8_2).f0) == 0) = false := beq_eq_false_iff_ne.mpr c12
          have c12b1 : (((rd_T40 l0 x8_2).f0) != 0) = true := bne_iff_ne.mpr c12
          by_cases c15 : ((rd_T40 l0 x8_2).f0) = 1
          ·rw [if_pos c15] at H
           have c15b0 : (((rd_T40 l0 x8_2).f0) == 1) = true := beq_iff_eq.mpr c15
           have c15b1 : (((rd_T40 l0 x8_2).f0) != 1) = false := bne_eq_false_iff_eq.mpr c15
           clear c15
           by_cases c16 : x7_2.length < 4398046511104
           ·rw [if_pos c16] at H
            have LMc16 := a_ c16
            clear c16
            obtain ⟨y136, hy136⟩ : ∃ y_ : List (S38), y_ = (x7_2 ++ [(⟨(rd_T40 l0 x8_2).f1.f0, (rd_T40 l0 x8_2).f1.f1, (rd_T40 l0 x8_2).f1.f2, (rd_T40 l0 x8_2).f1.f3⟩ : S38)]) := ⟨_, rfl⟩
            replace H : (demerit_Glues.l0 k2 l0 a2 y136 (wrap64 (x8_2 + 1))) = some r := by first | (rw [hy136]; with_reducible exact H) | (have H2_ := (Option.bind_some _ _).symm.trans H; rw [hy136]; with_reducible exact H2_) | (have H2_ := (Option.bind_some _ _).symm.trans H; with_reducible exact H2_) | with_reducible exact H | (rw [hy136]; exact H) | exact H
            have Ny136 := a_ hy136
            clear hy136
            have H' := a_ H
            clear H
            have p129 : 0 ≤ (x8_2 : Int) := od_
            have q129 : x8_2 < (l0.length : Int) := od_
            obtain ⟨ad129, e129, hx129_0, hx129_1, hx129_2, hx129_3, hx129_4, hx129_5, hx129_6, hx129_7, hx129_8⟩ := at_T40 (Kd.C_below HR0.out HB.out) x8_2 p129 q129
            cases e129
            replace p129 := eq_true p129
            replace q129 := eq_true q129
            have p134 : 0 ≤ (x8_2 : Int) := od_
            have q134 : x8_2 < (l0.length : Int) := od_
            obtain ⟨ad134, e134, hx134_0, hx134_1, hx134_2, hx134_3, hx134_4, hx134_5, hx134_6, hx134_7, hx134_8⟩ := at_T40 (Kd.C_below HR0.out HB.out) x8_2 p134 q134
            obtain rfl : ad129 = ad134 := (by injection e134)
            replace p134 := eq_true p134
            replace q134 := eq_true q134
            have p135 : 0 ≤ (x8_2 : Int) := od_
            have q135 : x8_2 < (l0.length : Int) := od_
            obtain ⟨ad135, e135, hx135_0, hx135_1, hx135_2, hx135_3, hx135_4, hx135_5, hx135_6, hx135_7, hx135_8⟩ := at_T40 (Kd.C_below HR0.out HB.out) x8_2 p135 q135
            obtain rfl : ad129 = ad135 := (by injection e135)
            replace p135 := eq_true p135
            replace q135 := eq_true q135
            go_wp2_with (first | ((with_reducible refine gate_builtin (b := .append) (xs := #[.tmp 39, .tmp 45]) rfl ?_); (try (refine gate_guard (by rfl) ?_; dsimp only)); at_builtin; refine Kd.R_append k38 (w0 := w) w.heap.size rfl (.tmp 39) (.tmp 45) 62 38 (.agg #[(.int .i64 0), (.int .i64 0), (.int .i64 0), (.int .i64 0)]) 32 rfl Try.underlying62 info38 rfl (by decide) (by omega) u7 x7_2 (⟨(rd_T40 l0 x8_2).f1.f0, (rd_T40 l0 x8_2).f1.f1, (rd_T40 l0 x8_2).f1.f2, (rd_T40 l0 x8_2).f1.f3⟩ : S38) [.int .i64 ((rd_T40 l0 x8_2).f1.f0), .int .i64 ((rd_T40 l0 x8_2).f1.f1), .int .i64 ((rd_T40 l0 x8_2).f1.f2), .int .i64 ((rd_T40 l0 x8_2).f1.f3)] (fun _ => True) (fun _ => False) rfl rfl ?aP (fun _ hk => hk.elim) ?aF ?aO ?aB ?aS ?aL ?_; (case aP => exact k38_mkM _ _ _ (⟨(rd_T40 l0 x8_2).f1.f0, (rd_T40 l0 x8_2).f1.f1, (rd_T40 l0 x8_2).f1.f2, (rd_T40 l0 x8_2).f1.f3⟩ : S38)); (case aB => exact (bv_ HB.out)); (case aF => exact (fun _ _ => trivial)); (case aO => exact (rv_ HO_7.out)); (case aS => exact (below_size (bv_ HB.out))); (case aL => have := LMc16.out; omega); intro v137 w17 ho hb hg hat; rw [← Ny136.out] at ho; have n0_ := a_ (hb); have n1_ := a_ (ho); clear HB; clear HO_7; have HB := n0_; have HO138 := n1_; clear n0_ n1_; clear ho hb hg hat))
            go_roundg k2
            case measure => have := HJ3.out; have := HK2.out; omega
            case rel => exact ⟨(y136), (wrap64 (x8_2 + 1)), (by first | rfl | (simp; done) | (simp [*]; done)), H', ⟨by have := HJ3.out; have := HK2.out; omega⟩, ⟨by (with_reducible repeat (first | apply Kd.R_alloc | apply Kd.R_drewN | apply Kd.R_drew)); exact HO138.out⟩, ⟨bv_ HB.out⟩⟩
           ·rw [if_neg c16] at H
            exact absurd H (by simp)
          ·rw [if_neg c15] at H
           have c15b0 : (((rd_T40 l0 x8_2).f0) == 1) = false := beq_eq_false_iff_ne.mpr c15
           have c15b1 : (((rd_T40 l0 x8_2).f0) != 1) = true := bne_iff_ne.mpr c15
           have H' := a_ H
           clear H
           have p129 : 0 ≤ (x8_2 : Int) := od_
           have q129 : x8_2 < (l0.length : Int) := od_
           obtain ⟨ad129, e129, hx129_0, hx129_1, hx129_2, hx129_3, hx129_4, hx129_5, hx129_6, hx129_7, hx129_8⟩ := at_T40 (Kd.C_below HR0.out HB.out) x8_2 p129 q129
           cases e129
           replace p129 := eq_true p129
           replace q129 := eq_true q129
           have p134 : 0 ≤ (x8_2 : Int) := od_
           have q134 : x8_2 < (l0.length : Int) := od_
           obtain ⟨ad134, e134, hx134_0, hx134_1, hx134_2, hx134_3, hx134_4, hx134_5, hx134_6, hx134_7, hx134_8⟩ := at_T40 (Kd.C_below HR0.out HB.out) x8_2 p134 q134
           obtain rfl : ad129 = ad134 := (by injection e134)
           replace p134 := eq_true p134
           replace q134 := eq_true q134
           go_wp2
           go_roundg k2
           case measure => have := HJ3.out; have := HK2.out; omega
           case rel => exact ⟨(x7_2), (wrap64 (x8_2 + 1)), (by first | rfl | (simp; done) | (simp [*]; done)), H', ⟨by have := HJ3.out; have := HK2.out; omega⟩, ⟨by (with_reducible repeat (first | apply Kd.R_alloc | apply Kd.R_drewN | apply Kd.R_drew)); exact HO_7.out⟩, ⟨bv_ HB.out⟩⟩
        ·rw [if_neg c11] at H
         exact absurd H (by simp)
       ·rw [if_neg c10] at H
        exact absurd H (by simp)
      ·rw [if_neg c9] at H
       have c9b0 : decide (x8_2 < a2) = false := decide_eq_false c9
       clear c9
       by_cases c18 : 0 ≤ a2
       ·rw [if_pos c18] at H
        have c18b0 : decide (0 ≤ a2) = true := decide_eq_true c18
        clear c18
        by_cases c19 : a2 < (l0.length : Int)
        ·rw [if_pos c19] at H
         have c19b0 : decide (a2 < (l0.length : Int)) = true := decide_eq_true c19
         clear c19
         by_cases c20 : ((rd_T40 l0 a2).f0) = 2
         ·rw [if_pos c20] at H
          have c20b0 : (((rd_T40 l0 a2).f0) == 2) = true := beq_iff_eq.mpr c20
          have c20b1 : (((rd_T40 l0 a2).f0) != 2) = false := bne_eq_false_iff_eq.mpr c20
          clear c20
          by_cases c21 : x7_2.length < 4398046511104
          ·rw [if_pos c21] at H
           have LMc21 := a_ c21
           clear c21
           obtain ⟨y141, hy141⟩ : ∃ y_ : List (S38), y_ = (x7_2 ++ [(⟨(rd_T40 l0 a2).f1.f0, 0, 0, 0⟩ : S38)]) := ⟨_, rfl⟩
           replace H : (some y141) = some r := by first | (rw [hy141]; with_reducible exact H) | (have H2_ := (Option.bind_some _ _).symm.trans H; rw [hy141]; with_reducible exact H2_) | (have H2_ := (Option.bind_some _ _).symm.trans H; with_reducible exact H2_) | with_reducible exact H | (rw [hy141]; exact H) | exact H
           have Ny141 := a_ hy141
           clear hy141
           obtain rfl := Option.some.inj H
           have p139 : 0 ≤ (a2 : Int) := od_
           have q139 : a2 < (l0.length : Int) := od_
           obtain ⟨ad139, e139, hx139_0, hx139_1, hx139_2, hx139_3, hx139_4, hx139_5, hx139_6, hx139_7, hx139_8⟩ := at_T40 (Kd.C_below HR0.out HB.out) a2 p139 q139
           cases e139
           replace p139 := eq_true p139
           replace q139 := eq_true q139
           have p140 : 0 ≤ (a2 : Int) := od_
           have q140 : a2 < (l0.length : Int) := od_
           obtain ⟨ad140, e140, hx140_0, hx140_1, hx140_2, hx140_3, hx140_4, hx140_5, hx140_6, hx140_7, hx140_8⟩ := at_T40 (Kd.C_below HR0.out HB.out) a2 p140 q140
           obtain rfl : ad139 = ad140 := (by injection e140)
           replace p140 := eq_true p140
           replace q140 := eq_true q140
           go_wp2_with (first | ((with_reducible refine gate_builtin (b := .append) (xs := #[.tmp 53, .tmp 61]) rfl ?_); (try (refine gate_guard (by rfl) ?_; dsimp only)); at_builtin; refine Kd.R_append k38 (w0 := w) w.heap.size rfl (.tmp 53) (.tmp 61) 62 38 (.agg #[(.int .i64 0), (.int .i64 0), (.int .i64 0), (.int .i64 0)]) 32 rfl Try.underlying62 info38 rfl (by decide) (by omega) u7 x7_2 (⟨(rd_T40 l0 a2).f1.f0, 0, 0, 0⟩ : S38) [.int .i64 ((rd_T40 l0 a2).f1.f0), .int .i64 0, .int .i64 0, .int .i64 0] (fun _ => True) (fun _ => False) rfl rfl ?aP (fun _ hk => hk.elim) ?aF ?aO ?aB ?aS ?aL ?_; (case aP => exact k38_mkM _ _ _ (⟨(rd_T40 l0 a2).f1.f0, 0, 0, 0⟩ : S38)); (case aB => exact (bv_ HB.out)); (case aF => exact (fun _ _ => trivial)); (case aO => exact (rv_ HO_7.out)); (case aS => exact (below_size (bv_ HB.out))); (case aL => have := LMc21.out; omega); intro v142 w22 ho hb hg hat; rw [← Ny141.out] at ho; have n0_ := a_ (hb); have n1_ := a_ (ho); clear HB; clear HO_7; have HB := n0_; have HO143 := n1_; clear n0_ n1_; clear ho hb hg hat))
           go_ret
           exact ⟨_, by first | rfl | (simp [errW_none, errW_some] <;> rfl) | (simp [*, errW_none, errW_some] <;> rfl), by (with_reducible repeat (first | apply Kd.R_alloc | apply Kd.R_drewN | apply Kd.R_drew)); exact HO143.out, bv_ HB.out⟩
          ·rw [if_neg c21] at H
           exact absurd H (by simp)
         ·rw [if_neg c20] at H
          have c20b0 : (((rd_T40 l0 a2).f0) == 2) = false := beq_eq_false_iff_ne.mpr c20
          have c20b1 : (((rd_T40 l0 a2).f0) != 2) = true := bne_iff_ne.mpr c20
          obtain rfl := Option.some.inj H
          have p139 : 0 ≤ (a2 : Int) := od_
          have q139 : a2 < (l0.length : Int) := od_
          obtain ⟨ad139, e139, hx139_0, hx139_1, hx139_2, hx139_3, hx139_4, hx139_5, hx139_6, hx139_7, hx139_8⟩ := at_T40 (Kd.C_below HR0.out HB.out) a2 p139 q139
          cases e139
          replace p139 := eq_true p139
          replace q139 := eq_true q139
          go_wp2
          go_ret
          exact ⟨_, by first | rfl | (simp [errW_none, errW_some] <;> rfl) | (simp [*, errW_none, errW_some] <;> rfl), by (with_reducible repeat (first | apply Kd.R_alloc | apply Kd.R_drewN | apply Kd.R_drew)); exact HO_7.out, bv_ HB.out⟩
        ·rw [if_neg c19] at H
         exact absurd H (by simp)
       ·rw [if_neg c18] at H
        exact absurd H (by simp)

end Go.Proofs.Ytpfnfofaajpdmaa.PWi

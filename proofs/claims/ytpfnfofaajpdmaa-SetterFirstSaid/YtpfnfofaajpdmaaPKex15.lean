/- Written by a program of this session: functions of the given program as plain Lean functions, the walks that show it, and the row of each law, for every input that its statement speaks of. -/
import Derived.Test.YtpfnfofaajpdmaaPKex0
import Derived.Test.YtpfnfofaajpdmaaPKex12
import Derived.Test.YtpfnfofaajpdmaaPKex14
namespace Go.Proofs.Ytpfnfofaajpdmaa.PKe
open Go.RowKit Go.Proofs.YtpfnfofaajpdmaaW.PrintWords Go.Proofs.YtpfnfofaajpdmaaW.PrintLast Go.Proofs.YtpfnfofaajpdmaaW.PrintMore
attribute [local go_sem] max2_int min2_int max_two min_two max_three min_three max_four min_four   -- for this text's walks alone
set_option linter.unusedVariables false
set_option linter.unusedSimpArgs false

/-! ### variorumlaw12_SetterFirst: function 6 -/
mutual
def variorumlaw12_SetterFirst.j0 : Nat → List (S40) → List Int → Bool → Int → Int → Option (Bool)
 | 0, _, _, _, _, _ => none
 | k + 1, x0, x1, x35, x344000, x344001 => if x35 = true then ((variorumlaw12_fixed.f k).bind fun t345 => (some t345)) else ((setter_Lines.f k x0 x1 x344001).bind fun bt346 => (if bt346.2.1 = 0 then (variorumlaw12_SetterFirst.j1 k x0 x1 bt346.1 ((bt346.1.length : Int) != (x1.length : Int)) x344000 x344001 bt346.2.1 bt346.2.2) else (variorumlaw12_SetterFirst.j1 k x0 x1 bt346.1 true x344000 x344001 bt346.2.1 bt346.2.2)))
def variorumlaw12_SetterFirst.j1 : Nat → List (S40) → List Int → List (S44) → Bool → Int → Int → Int → Int → Option (Bool)
 | 0, _, _, _, _, _, _, _, _ => none
 | k + 1, x0, x1, x7, x54, x344000, x344001, x352000, x352001 => if x54 = true then (some (x352000 != 0)) else (if 0 ≤ (wrap64 (x344000 - 1)) then (if (wrap64 (x344000 - 1)) < (x1.length : Int) then (if (rd x1 (wrap64 (x344000 - 1))) < 0 then (variorumlaw12_SetterFirst.j2 k x0 x1 x7 (rd x1 (wrap64 (x344000 - 1))) true x344000 x344001) else (variorumlaw12_SetterFirst.j2 k x0 x1 x7 (rd x1 (wrap64 (x344000 - 1))) (decide ((rd x1 (wrap64 (x344000 - 1))) ≥ (x0.length : Int))) x344000 x344001)) else (none)) else (none))
def variorumlaw12_SetterFirst.j2 : Nat → List (S40) → List Int → List (S44) → Int → Bool → Int → Int → Option (Bool)
 | 0, _, _, _, _, _, _, _ => none
 | k + 1, x0, x1, x7, x9, x71, x344000, x344001 => if x71 = true then (none) else (if 0 ≤ (wrap64 (x9 + 1)) then (if (wrap64 (x9 + 1)) ≤ (x0.length : Int) then (if 0 ≤ x344000 then (if x344000 ≤ (x1.length : Int) then ((setter_Lines.f k (x0.take ((wrap64 (x9 + 1)) : Int).toNat) (x1.take (x344000 : Int).toNat) x344001).bind fun bt358 => (if bt358.2.1 = 0 then (if x344000 ≤ (x7.length : Int) then ((variorumref12_Same.f k bt358.1 (x7.take (x344000 : Int).toNat)).bind fun t368 => (some t368)) else (none)) else (none))) else (none)) else (none)) else (none)) else (none))
end
def variorumlaw12_SetterFirst.f (k : Nat) (l0 : List (S40)) (l1 : List Int) (a2_0 : Int) (a2_1 : Int) : Option (Bool) := (variorumlaw12_fixed.f k).bind fun t344 => (if t344 = true then (if (l0.length : Int) > 300 then (variorumlaw12_SetterFirst.j0 k l0 l1 true a2_0 a2_1) else (if (l1.length : Int) > 100 then (variorumlaw12_SetterFirst.j0 k l0 l1 true a2_0 a2_1) else (if a2_0 < 1 then (variorumlaw12_SetterFirst.j0 k l0 l1 true a2_0 a2_1) else (variorumlaw12_SetterFirst.j0 k l0 l1 (decide (a2_0 > (l1.length : Int))) a2_0 a2_1)))) else (variorumlaw12_SetterFirst.j0 k l0 l1 true a2_0 a2_1))
theorem variorumlaw12_SetterFirst.mono_l : ∀ k, (∀ y0 y1 y2 y3 y4, LeO (variorumlaw12_SetterFirst.j0 k y0 y1 y2 y3 y4) (variorumlaw12_SetterFirst.j0 (k + 1) y0 y1 y2 y3 y4)) ∧ (∀ y0 y1 y2 y3 y4 y5 y6 y7, LeO (variorumlaw12_SetterFirst.j1 k y0 y1 y2 y3 y4 y5 y6 y7) (variorumlaw12_SetterFirst.j1 (k + 1) y0 y1 y2 y3 y4 y5 y6 y7)) ∧ (∀ y0 y1 y2 y3 y4 y5 y6, LeO (variorumlaw12_SetterFirst.j2 k y0 y1 y2 y3 y4 y5 y6) (variorumlaw12_SetterFirst.j2 (k + 1) y0 y1 y2 y3 y4 y5 y6))
 | 0 => ⟨fun _ _ _ _ _ r h => by simp [variorumlaw12_SetterFirst.j0] at h, fun _ _ _ _ _ _ _ _ r h => by simp [variorumlaw12_SetterFirst.j1] at h, fun _ _ _ _ _ _ _ r h => by simp [variorumlaw12_SetterFirst.j2] at h⟩
 | k + 1 => by
  obtain ⟨ih0, ih1, ih2⟩ := variorumlaw12_SetterFirst.mono_l k
  refine ⟨?_, ?_, ?_⟩
  ·intro y0 y1 y2 y3 y4
   unfold variorumlaw12_SetterFirst.j0
   repeat' first
   | (with_reducible exact ih0 _ _ _ _ _)
   | (with_reducible exact ih1 _ _ _ _ _ _ _ _)
   | (with_reducible exact ih2 _ _ _ _ _ _ _)
   | (with_reducible exact setter_Lines.mono _ _ _ _)
   | (with_reducible exact variorumlaw12_fixed.mono _)
   | (with_reducible exact variorumref12_Same.mono _ _ _)
   | (with_reducible exact LeO.refl _)
   | (with_reducible exact LeO.none _)
   | (with_reducible refine LeO.ite ?_ ?_)
   | (with_reducible refine LeO.bind ?_ (fun _ => ?_))
   | exact ih0 _ _ _ _ _
   | exact ih1 _ _ _ _ _ _ _ _
   | exact ih2 _ _ _ _ _ _ _
   | exact setter_Lines.mono _ _ _ _
   | exact variorumlaw12_fixed.mono _
   | exact variorumref12_Same.mono _ _ _
   | exact LeO.none _
   | refine LeO.ite ?_ ?_
   | refine LeO.bind ?_ (fun _ => ?_)
  ·intro y0 y1 y2 y3 y4 y5 y6 y7
   unfold variorumlaw12_SetterFirst.j1
   repeat' first
   | (with_reducible exact ih0 _ _ _ _ _)
   | (with_reducible exact ih1 _ _ _ _ _ _ _ _)
   | (with_reducible exact ih2 _ _ _ _ _ _ _)
   | (with_reducible exact setter_Lines.mono _ _ _ _)
   | (with_reducible exact variorumlaw12_fixed.mono _)
   | (with_reducible exact variorumref12_Same.mono _ _ _)
   | (with_reducible exact LeO.refl _)
   | (with_reducible exact LeO.none _)
   | (with_reducible refine LeO.ite ?_ ?_)
   | (with_reducible refine LeO.bind ?_ (fun _ => ?_))
   | exact ih0 _ _ _ _ _
   | exact ih1 _ _ _ _ _ _ _ _
   | exact ih2 _ _ _ _ _ _ _
   | exact setter_Lines.mono _ _ _ _
   | exact variorumlaw12_fixed.mono _
   | exact variorumref12_Same.mono _ _ _
   | exact LeO.none _
   | refine LeO.ite ?_ ?_
   | refine LeO.bind ?_ (fun _ => ?_)
  ·intro y0 y1 y2 y3 y4 y5 y6
   unfold variorumlaw12_SetterFirst.j2
   repeat' first
   | (with_reducible exact ih0 _ _ _ _ _)
   | (with_reducible exact ih1 _ _ _ _ _ _ _ _)
   | (with_reducible exact ih2 _ _ _ _ _ _ _)
   | (with_reducible exact setter_Lines.mono _ _ _ _)
   | (with_reducible exact variorumlaw12_fixed.mono _)
   | (with_reducible exact variorumref12_Same.mono _ _ _)
   | (with_reducible exact LeO.refl _)
   | (with_reducible exact LeO.none _)
   | (with_reducible refine LeO.ite ?_ ?_)
   | (with_reducible refine LeO.bind ?_ (fun _ => ?_))
   | exact ih0 _ _ _ _ _
   | exact ih1 _ _ _ _ _ _ _ _
   | exact ih2 _ _ _ _ _ _ _
   | exact setter_Lines.mono _ _ _ _
   | exact variorumlaw12_fixed.mono _
   | exact variorumref12_Same.mono _ _ _
   | exact LeO.none _
   | refine LeO.ite ?_ ?_
   | refine LeO.bind ?_ (fun _ => ?_)
theorem variorumlaw12_SetterFirst.mono : ∀ a0 a1 a2 a3 k, LeO (variorumlaw12_SetterFirst.f k a0 a1 a2 a3) (variorumlaw12_SetterFirst.f (k + 1) a0 a1 a2 a3) := by
 intro a0 a1 a2 a3 k
 obtain ⟨ih0, ih1, ih2⟩ := variorumlaw12_SetterFirst.mono_l k
 unfold variorumlaw12_SetterFirst.f
 repeat' first
   | (with_reducible exact ih0 _ _ _ _ _)
   | (with_reducible exact ih1 _ _ _ _ _ _ _ _)
   | (with_reducible exact ih2 _ _ _ _ _ _ _)
   | (with_reducible exact setter_Lines.mono _ _ _ _)
   | (with_reducible exact variorumlaw12_fixed.mono _)
   | (with_reducible exact variorumref12_Same.mono _ _ _)
   | (with_reducible exact LeO.refl _)
   | (with_reducible exact LeO.none _)
   | (with_reducible refine LeO.ite ?_ ?_)
   | (with_reducible refine LeO.bind ?_ (fun _ => ?_))
   | exact ih0 _ _ _ _ _
   | exact ih1 _ _ _ _ _ _ _ _
   | exact ih2 _ _ _ _ _ _ _
   | exact setter_Lines.mono _ _ _ _
   | exact variorumlaw12_fixed.mono _
   | exact variorumref12_Same.mono _ _ _
   | exact LeO.none _
   | refine LeO.ite ?_ ?_
   | refine LeO.bind ?_ (fun _ => ?_)
def variorumlaw12_SetterFirst.T9 : Bool × List (List Nat × List Nat) := (true, [([], []), ([], []), ([1], [1]), ([0, 2], [0, 2]), ([], []), ([], []), ([5], [5]), ([4, 6], [4, 6]), ([], []), ([8], [8]), ([3, 7, 9], [3, 7, 9]), ([10], [10]), ([11], [11]), ([11], [11]), ([], []), ([12, 10, 0, 1, 2, 3, 4, 5, 6, 7, 8, 9, 10, 11, 12, 14], [12]), ([14, 13, 15, 0, 1, 2, 3, 4, 5, 6, 7, 8, 9, 10, 11, 12, 13, 14, 15], [13, 14])])
def variorumlaw12_SetterFirst.B9 : List Nat := [0, 0, 2, 7, 0, 0, 32, 112, 0, 256, 1023, 2047, 4095, 4095, 0, 24575, 65535]
theorem variorumlaw12_SetterFirst.tab9 : rtab .any (opsOf Try.f6 9) = variorumlaw12_SetterFirst.T9 := by kernel_rfl
theorem variorumlaw12_SetterFirst.bits9 : waitsOk variorumlaw12_SetterFirst.T9.2 variorumlaw12_SetterFirst.B9 = true := by kernel_rfl
set_option maxHeartbeats 8000000 in
set_option maxRecDepth 100000 in
theorem variorumlaw12_SetterFirst.calls (k : Nat) (A0 : Option Addr) (c0 : Nat) (l0 : List (S40)) (A1 : Option Addr) (c1 : Nat) (l1 : List Int) (a2_0 : Int) (a2_1 : Int) (r : Bool) (w : World) (hr0 : Kd.C k40 w A0 l0.length l0) (hc0 : l0.length ≤ c0) (hr1 : Kd.C (Kd.int .i64) w A1 l1.length l1) (hc1 : l1.length ≤ c1) (h : variorumlaw12_SetterFirst.f k l0 l1 a2_0 a2_1 = some r) :
  Calls Try.prog 6 #[.slice A0 l0.length c0, .slice A1 l1.length c1, .agg #[.int .i64 a2_0, .int .i64 a2_1]] w fun e w' => e = .returned (.bool r) ∧ Below w.heap.size w w' := by
 have hu50 := Try.underlying50
 have hu28 := Try.underlying28
 have HR0 := Aside0.mk hr0
 have HC0 := Aside0.mk hc0
 clear hr0 hc0
 have HR1 := Aside0.mk hr1
 have HC1 := Aside0.mk hc1
 clear hr1 hc1
 have HB := Aside0.mk (Below.refl w.heap.size w)
 have H : ((variorumlaw12_fixed.f k).bind fun t344 => (if t344 = true then (if (l0.length : Int) > 300 then (variorumlaw12_SetterFirst.j0 k l0 l1 true a2_0 a2_1) else (if (l1.length : Int) > 100 then (variorumlaw12_SetterFirst.j0 k l0 l1 true a2_0 a2_1) else (if a2_0 < 1 then (variorumlaw12_SetterFirst.j0 k l0 l1 true a2_0 a2_1) else (variorumlaw12_SetterFirst.j0 k l0 l1 (decide (a2_0 > (l1.length : Int))) a2_0 a2_1)))) else (variorumlaw12_SetterFirst.j0 k l0 l1 true a2_0 a2_1))) = some r := h
 clear h
 have HC4 := Aside0.mk H
 clear H
 go_enter Try.func6, Try.ntmps6
 go_upto_region 1 with (first | ((with_reducible refine gate_dst (N := 5) rfl ?_); (try (refine gate_guard (by rfl) ?_; dsimp only)); refine box_event ?hg (N := 5) ?hd (cs := #[.int .i64 a2_0, .int .i64 a2_1]) (t := 50) ?hr ?_; (case hd => rfl); (case hg => rfl); (case hr => first | (go_simp; done) | (go_simp; rfl)); intro gb343 hg w5 hbox hb; have n0_ := Aside0.mk (bs_ HB.out hb); have n1_ := Aside0.mk (hbox); have n2_ := Aside0.mk ((by rw [hg]; exact (below_size (bv_ HB.out)) : w.heap.size ≤ gb343)); have n3_ := Aside0.mk ((by rw [hg]; exact (below_size (bv_ HB.out)) : w.heap.size ≤ gb343)); clear HB; have HB := n0_; have BK343 := n1_; have GW343 := n2_; have GE343 := n3_; clear n0_ n1_ n2_ n3_; clear hb hbox hg))
 (try simp only [Act.put, List.setIfInBounds_toArray, List.set_cons_zero, List.set_cons_succ])
 go_cut [35] (fun v35 wc => ∃ (kq : Nat) (x35_3 : Bool), v35 = .bool x35_3 ∧ Aside0 (variorumlaw12_SetterFirst.j0 kq l0 l1 x35_3 a2_0 a2_1 = some r) ∧ Aside0 (kq ≤ k) ∧ Aside0 (wc.heap[gb343]? = some (.cells #[.int .i64 a2_0, .int .i64 a2_1] 50 (0, 0))) ∧ Aside0 (Below w.heap.size w wc))
 case first =>
  have H := HC4.out
  clear HC4
  replace H := Option.bind_eq_some_iff.mp H
  obtain ⟨t344, A60, H⟩ := H
  replace H : (if t344 = true then (if (l0.length : Int) > 300 then (variorumlaw12_SetterFirst.j0 k l0 l1 true a2_0 a2_1) else (if (l1.length : Int) > 100 then (variorumlaw12_SetterFirst.j0 k l0 l1 true a2_0 a2_1) else (if a2_0 < 1 then (variorumlaw12_SetterFirst.j0 k l0 l1 true a2_0 a2_1) else (variorumlaw12_SetterFirst.j0 k l0 l1 (decide (a2_0 > (l1.length : Int))) a2_0 a2_1)))) else (variorumlaw12_SetterFirst.j0 k l0 l1 true a2_0 a2_1)) = some r := H
  have A6 := Aside0.mk A60
  clear A60
  by_cases c7 : t344 = true
  ·subst c7
   have H1 : (if (l0.length : Int) > 300 then (variorumlaw12_SetterFirst.j0 k l0 l1 true a2_0 a2_1) else (if (l1.length : Int) > 100 then (variorumlaw12_SetterFirst.j0 k l0 l1 true a2_0 a2_1) else (if a2_0 < 1 then (variorumlaw12_SetterFirst.j0 k l0 l1 true a2_0 a2_1) else (variorumlaw12_SetterFirst.j0 k l0 l1 (decide (a2_0 > (l1.length : Int))) a2_0 a2_1)))) = some r := by rw [if_pos rfl] at H; exact H
   clear H
   have H := H1
   clear H1
   by_cases c8 : (l0.length : Int) > 300
   ·rw [if_pos c8] at H
    have c8b0 : decide (300 < (l0.length : Int)) = true := decide_eq_true c8
    have c8b1 : decide (300 < l0.length) = true := decide_eq_true (by omega)
    clear c8
    (first | rw [c8b0] | (simp only [i64_w, i32_w]; rw [c8b0]) | skip)
    have H' := Aside0.mk H
    clear H
    go_wp2_with (first | ((with_reducible refine gate_callee (f := 7) rfl ?_); refine goesL_ (some 12) rfl rfl Try.func7 (by kernel_rfl) rfl #[] rfl (by (try simp only [List.map_toArray, List.map_cons, List.map_nil]); first | done | rfl | (simp only [List.length_drop, List.length_take]; rfl) | (simp only [*]; first | done | rfl)) ?_; (with_reducible refine (variorumlaw12_fixed.calls k  true _ A6.out).mono ?_); rintro e w9 ⟨rfl, hb⟩; refine ⟨_, rfl, ?_⟩; have n0_ := Aside0.mk (kb_ BK343.out hb); have n1_ := Aside0.mk (below_step (by repeat (first | (with_reducible first | exact HB.out | apply below_alloc | apply pw_below_drewN | apply below_drew1 | refine below_set ?_ GE343.out) | exact HB.out)) hb); clear BK343; clear HB; have BK343 := n0_; have HB := n1_; clear n0_ n1_; (try clear hb); (try clear hb2); (try clear hk); (try clear hi)))
    go_meet
    case rel => exact ⟨_, (true), (by first | rfl | (simp; done) | (simp [*]; done)), H', ⟨by first | omega | exact Nat.le_refl _⟩, ⟨kv_ BK343.out⟩, ⟨by repeat (first | (with_reducible first | exact HB.out | apply below_alloc | apply pw_below_drewN | apply below_drew1 | refine below_set ?_ GE343.out) | exact HB.out)⟩⟩
   ·rw [if_neg c8] at H
    have c8b0 : decide (300 < (l0.length : Int)) = false := decide_eq_false c8
    have c8b1 : decide (300 < l0.length) = false := decide_eq_false (by omega)
    clear c8
    (first | rw [c8b0] | (simp only [i64_w, i32_w]; rw [c8b0]) | skip)
    by_cases c10 : (l1.length : Int) > 100
    ·rw [if_pos c10] at H
     have c10b0 : decide (100 < (l1.length : Int)) = true := decide_eq_true c10
     have c10b1 : decide (100 < l1.length) = true := decide_eq_true (by omega)
     clear c10
     have H' := Aside0.mk H
     clear H
     go_wp2_with (first | ((with_reducible refine gate_callee (f := 7) rfl ?_); refine goesL_ (some 12) rfl rfl Try.func7 (by kernel_rfl) rfl #[] rfl (by (try simp only [List.map_toArray, List.map_cons, List.map_nil]); first | done | rfl | (simp only [List.length_drop, List.length_take]; rfl) | (simp only [*]; first | done | rfl)) ?_; (with_reducible refine (variorumlaw12_fixed.calls k  true _ A6.out).mono ?_); rintro e w11 ⟨rfl, hb⟩; refine ⟨_, rfl, ?_⟩; have n0_ := Aside0.mk (kb_ BK343.out hb); have n1_ := Aside0.mk (below_step (by repeat (first | (with_reducible first | exact HB.out | apply below_alloc | apply pw_below_drewN | apply below_drew1 | refine below_set ?_ GE343.out) | exact HB.out)) hb); clear BK343; clear HB; have BK343 := n0_; have HB := n1_; clear n0_ n1_; (try clear hb); (try clear hb2); (try clear hk); (try clear hi)))
     go_meet
     case rel => exact ⟨_, (true), (by first | rfl | (simp; done) | (simp [*]; done)), H', ⟨by first | omega | exact Nat.le_refl _⟩, ⟨kv_ BK343.out⟩, ⟨by repeat (first | (with_reducible first | exact HB.out | apply below_alloc | apply pw_below_drewN | apply below_drew1 | refine below_set ?_ GE343.out) | exact HB.out)⟩⟩
    ·rw [if_neg c10] at H
     have c10b0 : decide (100 < (l1.length : Int)) = false := decide_eq_false c10
     have c10b1 : decide (100 < l1.length) = false := decide_eq_false (by omega)
     clear c10
     by_cases c12 : a2_0 < 1
     ·rw [if_pos c12] at H
      have c12b0 : decide (a2_0 < 1) = true := decide_eq_true c12
      clear c12
      have H' := Aside0.mk H
      clear H
      go_wp2_with (first | ((with_reducible refine gate_callee (f := 7) rfl ?_); refine goesL_ (some 12) rfl rfl Try.func7 (by kernel_rfl) rfl #[] rfl (by (try simp only [List.map_toArray, List.map_cons, List.map_nil]); first | done | rfl | (simp only [List.length_drop, List.length_take]; rfl) | (simp only [*]; first | done | rfl)) ?_; (with_reducible refine (variorumlaw12_fixed.calls k  true _ A6.out).mono ?_); rintro e w13 ⟨rfl, hb⟩; refine ⟨_, rfl, ?_⟩; have n0_ := Aside0.mk (kb_ BK343.out hb); have n1_ := Aside0.mk (below_step (by repeat (first | (with_reducible first | exact HB.out | apply below_alloc | apply pw_below_drewN | apply below_drew1 | refine below_set ?_ GE343.out) | exact HB.out)) hb); clear BK343; clear HB; have BK343 := n0_; have HB := n1_; clear n0_ n1_; (try clear hb); (try clear hb2); (try clear hk); (try clear hi); have hcz14_0 : w13.cell? ⟨gb343, 0, none⟩ = some (.int .i64 a2_0) := (blk_cell BK343.out 0).trans rfl; have hcz14_1 : w13.cell? ⟨gb343, 1, none⟩ = some (.int .i64 a2_1) := (blk_cell BK343.out 1).trans rfl; have hfz14_0 := blk_frozen BK343.out 0; have hfz14_1 := blk_frozen BK343.out 1))
      go_meet
      case rel => exact ⟨_, (true), (by first | rfl | (simp; done) | (simp [*]; done)), H', ⟨by first | omega | exact Nat.le_refl _⟩, ⟨kv_ BK343.out⟩, ⟨by repeat (first | (with_reducible first | exact HB.out | apply below_alloc | apply pw_below_drewN | apply below_drew1 | refine below_set ?_ GE343.out) | exact HB.out)⟩⟩
     ·rw [if_neg c12] at H
      have c12b0 : decide (a2_0 < 1) = false := decide_eq_false c12
      clear c12
      have H' := Aside0.mk H
      clear H
      go_wp2_with (first | ((with_reducible refine gate_callee (f := 7) rfl ?_); refine goesL_ (some 12) rfl rfl Try.func7 (by kernel_rfl) rfl #[] rfl (by (try simp only [List.map_toArray, List.map_cons, List.map_nil]); first | done | rfl | (simp only [List.length_drop, List.length_take]; rfl) | (simp only [*]; first | done | rfl)) ?_; (with_reducible refine (variorumlaw12_fixed.calls k  true _ A6.out).mono ?_); rintro e w15 ⟨rfl, hb⟩; refine ⟨_, rfl, ?_⟩; have n0_ := Aside0.mk (kb_ BK343.out hb); have n1_ := Aside0.mk (below_step (by repeat (first | (with_reducible first | exact HB.out | apply below_alloc | apply pw_below_drewN | apply below_drew1 | refine below_set ?_ GE343.out) | exact HB.out)) hb); clear BK343; clear HB; have BK343 := n0_; have HB := n1_; clear n0_ n1_; (try clear hb); (try clear hb2); (try clear hk); (try clear hi); have hcz16_0 : w15.cell? ⟨gb343, 0, none⟩ = some (.int .i64 a2_0) := (blk_cell BK343.out 0).trans rfl; have hcz16_1 : w15.cell? ⟨gb343, 1, none⟩ = some (.int .i64 a2_1) := (blk_cell BK343.out 1).trans rfl; have hfz16_0 := blk_frozen BK343.out 0; have hfz16_1 := blk_frozen BK343.out 1))
      go_meet
      case rel => exact ⟨_, (decide (a2_0 > (l1.length : Int))), (by first | rfl | (simp; done) | (simp [*]; done)), H', ⟨by first | omega | exact Nat.le_refl _⟩, ⟨kv_ BK343.out⟩, ⟨by repeat (first | (with_reducible first | exact HB.out | apply below_alloc | apply pw_below_drewN | apply below_drew1 | refine below_set ?_ GE343.out) | exact HB.out)⟩⟩
  ·replace c7 := Bool.eq_false_iff.mpr c7
   subst c7
   have H1 : (variorumlaw12_SetterFirst.j0 k l0 l1 true a2_0 a2_1) = some r := by rw [if_neg (show ¬ (false = true) by decide)] at H; exact H
   clear H
   have H := H1
   clear H1
   have H' := Aside0.mk H
   clear H
   go_wp2_with (first | ((with_reducible refine gate_callee (f := 7) rfl ?_); refine goesL_ (some 12) rfl rfl Try.func7 (by kernel_rfl) rfl #[] rfl (by (try simp only [List.map_toArray, List.map_cons, List.map_nil]); first | done | rfl | (simp only [List.length_drop, List.length_take]; rfl) | (simp only [*]; first | done | rfl)) ?_; (with_reducible refine (variorumlaw12_fixed.calls k  false _ A6.out).mono ?_); rintro e w17 ⟨rfl, hb⟩; refine ⟨_, rfl, ?_⟩; have n0_ := Aside0.mk (kb_ BK343.out hb); have n1_ := Aside0.mk (below_step (by repeat (first | (with_reducible first | exact HB.out | apply below_alloc | apply pw_below_drewN | apply below_drew1 | refine below_set ?_ GE343.out) | exact HB.out)) hb); clear BK343; clear HB; have BK343 := n0_; have HB := n1_; clear n0_ n1_; (try clear hb); (try clear hb2); (try clear hk); (try clear hi)))
   go_meet
   case rel => exact ⟨_, (true), (by first | rfl | (simp; done) | (simp [*]; done)), H', ⟨by first | omega | exact Nat.le_refl _⟩, ⟨kv_ BK343.out⟩, ⟨by repeat (first | (with_reducible first | exact HB.out | apply below_alloc | apply pw_below_drewN | apply below_drew1 | refine below_set ?_ GE343.out) | exact HB.out)⟩⟩
 case rest =>
  clear HC4
  try clear c1
  try clear p2
  try clear c6
  try clear c7
  try clear c8
  try clear c8b0
  try clear c8b1
  try clear c10
  try clear c10b0
  try clear c10b1
  try clear c12
  try clear c12b0
  try clear hcz14_0
  try clear hcz14_1
  try clear hcz16_0
  try clear hcz16_1
  try clear hfz14_0
  try clear hfz14_1
  try clear hfz16_0
  try clear hfz16_1
  obtain ⟨kq, x35_3, rfl, HA, HJ3, BK343, HB⟩ := hcut
  cases kq with
  | zero => exact absurd HA.out (by simp [variorumlaw12_SetterFirst.j0])
  | succ kj3 =>
   have H := HA.out
   clear HA
   simp only [variorumlaw12_SetterFirst.j0] at H
   by_cases c18 : x35_3 = true
   ·subst c18
    have H1 : ((variorumlaw12_fixed.f kj3).bind fun t345 => (some t345)) = some r := by rw [if_pos rfl] at H; exact H
    clear H
    have H := H1
    clear H1
    replace H := Option.bind_eq_some_iff.mp H
    obtain ⟨t345, A190, H⟩ := H
    replace H : (some t345) = some r := H
    have A19 := Aside0.mk A190
    clear A190
    obtain rfl := Option.some.inj H
    go_wp2_with (first | ((with_reducible refine gate_callee (f := 7) rfl ?_); refine goesL_ (some 36) rfl rfl Try.func7 (by kernel_rfl) rfl #[] rfl (by (try simp only [List.map_toArray, List.map_cons, List.map_nil]); first | done | rfl | (simp only [List.length_drop, List.length_take]; rfl) | (simp only [*]; first | done | rfl)) ?_; (with_reducible refine (variorumlaw12_fixed.calls kj3  t345 _ A19.out).mono ?_); rintro e w20 ⟨rfl, hb⟩; refine ⟨_, rfl, ?_⟩; have n0_ := Aside0.mk (kb_ BK343.out hb); have n1_ := Aside0.mk (below_step (by repeat (first | (with_reducible first | exact HB.out | apply below_alloc | apply pw_below_drewN | apply below_drew1 | refine below_set ?_ GE343.out) | exact HB.out)) hb); clear BK343; clear HB; have BK343 := n0_; have HB := n1_; clear n0_ n1_; (try clear hb); (try clear hb2); (try clear hk); (try clear hi)))
    go_ret
    exact ⟨by first | rfl | (simp [errW_none, errW_some] <;> rfl) | (simp [*, errW_none, errW_some] <;> rfl), by repeat (first | (with_reducible first | exact HB.out | apply below_alloc | apply pw_below_drewN | apply below_drew1 | refine below_set ?_ GE343.out) | exact HB.out)⟩
   ·replace c18 := Bool.eq_false_iff.mpr c18
    subst c18
    have H1 : ((setter_Lines.f kj3 l0 l1 a2_1).bind fun bt346 => (if bt346.2.1 = 0 then (variorumlaw12_SetterFirst.j1 kj3 l0 l1 bt346.1 ((bt346.1.length : Int) != (l1.length : Int)) a2_0 a2_1 bt346.2.1 bt346.2.2) else (variorumlaw12_SetterFirst.j1 kj3 l0 l1 bt346.1 true a2_0 a2_1 bt346.2.1 bt346.2.2))) = some r := by rw [if_neg (show ¬ (false = true) by decide)] at H; exact H
    clear H
    have H := H1
    clear H1
    replace H := Option.bind_eq_some_iff.mp H
    obtain ⟨⟨t346, t349, t350⟩, A210, H⟩ := H
    replace H : (if t349 = 0 then (variorumlaw12_SetterFirst.j1 kj3 l0 l1 t346 ((t346.length : Int) != (l1.length : Int)) a2_0 a2_1 t349 t350) else (variorumlaw12_SetterFirst.j1 kj3 l0 l1 t346 true a2_0 a2_1 t349 t350)) = some r := H
    have A21 := Aside0.mk A210
    clear A210
    have HC22 := Aside0.mk H
    clear H
    obtain ⟨⟨hcz23_0, hfz23_0⟩, hcz23_1, hfz23_1⟩ := cs2_ BK343.out
    go_upto_region 4 with (first | ((with_reducible refine gate_callee (f := 8) rfl ?_); refine goesL_ (some 42) rfl rfl Try.func8 (by kernel_rfl) rfl #[.slice A0 l0.length c0, .slice A1 l1.length c1, .int .i64 a2_1] rfl (by (try simp only [List.map_toArray, List.map_cons, List.map_nil]); first | done | rfl | (simp only [List.length_drop, List.length_take]; rfl) | (simp only [*]; first | done | rfl)) ?_; (with_reducible refine (setter_Lines.calls kj3 _ _ l0 _ _ l1 a2_1 t346 t349 t350 _ ?side1 ?side2 ?side3 ?side4 A21.out).mono ?_); (case side1 => repeat (first | exact (Kd.C_below HR0.out HB.out) | (with_reducible refine Kd.C_alloc ?_ _) | (with_reducible refine Kd.C_drewN ?_ _) | (with_reducible refine Kd.C_drew ?_))); (case side2 => exact HC0.out); (case side3 => repeat (first | exact (Kd.C_below HR1.out HB.out) | (with_reducible refine Kd.C_alloc ?_ _) | (with_reducible refine Kd.C_drewN ?_ _) | (with_reducible refine Kd.C_drew ?_))); (case side4 => exact HC1.out); rintro e w24 ⟨v347, rfl, ho0, hb⟩; refine ⟨_, rfl, ?_⟩; have n0_ := Aside0.mk (Kd.S_lower ho0 (below_size (by repeat (first | (with_reducible first | exact HB.out | apply below_alloc | apply pw_below_drewN | apply below_drew1 | refine below_set ?_ GE343.out) | exact HB.out)))); have n1_ := Aside0.mk (kb_ BK343.out hb); have n2_ := Aside0.mk (below_step (by repeat (first | (with_reducible first | exact HB.out | apply below_alloc | apply pw_below_drewN | apply below_drew1 | refine below_set ?_ GE343.out) | exact HB.out)) hb); clear BK343; clear HB; have HO348 := n0_; have BK343 := n1_; have HB := n2_; clear n0_ n1_ n2_; (try clear hb); (try clear hb2); (try clear hk); (try clear hi); (try clear ho0)) | ((with_reducible refine gate_dst (N := 8) rfl ?_); (try (refine gate_guard (by rfl) ?_; dsimp only)); refine box_event ?hg (N := 8) ?hd (cs := #[.int .i64 0, .int .i64 0]) (t := 28) ?hr ?_; (case hd => rfl); (case hg => rfl); (case hr => first | (go_simp; done) | (go_simp; rfl)); intro gb351 hg w25 hbox hb; have n0_ := Aside0.mk (Kd.S_below (sv_ HO348.out) hb); have n1_ := Aside0.mk (kb_ BK343.out hb); have n2_ := Aside0.mk (below_step (by repeat (first | (with_reducible first | exact HB.out | apply below_alloc | apply pw_below_drewN | apply below_drew1 | refine below_set ?_ GE343.out) | exact HB.out)) hb); have n3_ := Aside0.mk (hbox); have n4_ := Aside0.mk ((by rw [hg]; exact (below_size (by repeat (first | (with_reducible first | exact HB.out | apply below_alloc | apply pw_below_drewN | apply below_drew1 | refine below_set ?_ GE343.out) | exact HB.out))) : w.heap.size ≤ gb351)); have n5_ := Aside0.mk ((by rw [hg]; exact (below_size (by repeat (first | (with_reducible first | exact HB.out | apply below_alloc | apply pw_below_drewN | apply below_drew1 | refine below_set ?_ GE343.out) | exact HB.out))) : w.heap.size ≤ gb351)); have n6_ := Aside0.mk ((by rw [hg]; exact Nat.ne_of_lt (blk_lt (kv_ BK343.out)) : gb343 ≠ gb351)); have n7_ := Aside0.mk ((by rw [hg]; exact Nat.ne_of_gt (blk_lt (kv_ BK343.out)) : gb351 ≠ gb343)); clear HO348; clear BK343; clear HB; have HO348 := n0_; have BK343 := n1_; have HB := n2_; have BK351 := n3_; have GW351 := n4_; have GE351 := n5_; have NB343_351 := n6_; have NB351_343 := n7_; clear n0_ n1_ n2_ n3_ n4_ n5_ n6_ n7_; clear hb hbox hg; have hnb26 := NB351_343.out; have hnc26 := NB343_351.out; have hcz27_0 : w25.cell? ⟨gb351, 0, none⟩ = some (.int .i64 0) := (blk_cell BK351.out 0).trans rfl; have hcz27_1 : w25.cell? ⟨gb351, 1, none⟩ = some (.int .i64 0) := (blk_cell BK351.out 1).trans rfl; have hfz27_0 := blk_frozen BK351.out 0; have hfz27_1 := blk_frozen BK351.out 1))
    (try simp only [Act.put, List.setIfInBounds_toArray, List.set_cons_zero, List.set_cons_succ])
    go_cut [54] (fun v54 wc => ∃ (kq : Nat) (x54_21 : Bool), v54 = .bool x54_21 ∧ Aside0 (variorumlaw12_SetterFirst.j1 kq l0 l1 t346 x54_21 a2_0 a2_1 t349 t350 = some r) ∧ Aside0 (kq ≤ kj3) ∧ Aside0 (Kd.S k44 44 wc w.heap.size (fun _ => True) v347 t346) ∧ Aside0 (wc.heap[gb343]? = some (.cells #[.int .i64 a2_0, .int .i64 a2_1] 50 (0, 0))) ∧ Aside0 (wc.heap[gb351]? = some (.cells #[.int .i64 t349, .int .i64 t350] 28 (0, 0))) ∧ Aside0 (Below w.heap.size w wc))
    case first =>
     have H := HC22.out
     clear HC22
     by_cases c28 : t349 = 0
     ·rw [if_pos c28] at H
      have c28b0 : (t349 == 0) = true := beq_iff_eq.mpr c28
      have c28b1 : (t349 != 0) = false := bne_eq_false_iff_eq.mpr c28
      clear c28
      (first | rw [c28b0] | (simp only [i64_w, i32_w]; rw [c28b0]) | skip)
      have H' := Aside0.mk H
      clear H
      have hnb29 := NB351_343.out
      have hnc29 := NB343_351.out
      obtain ⟨⟨hcz30_0, hfz30_0⟩, hcz30_1, hfz30_1⟩ := cs2_ BK351.out
      obtain ⟨Ao31, co31, eo31⟩ := Kd.S_slice HO348.out
      subst eo31
      go_wp2
      go_meet
      case rel => exact ⟨_, (((t346.length : Int) != (l1.length : Int))), (by first | rfl | (simp; done) | (simp [*]; done)), H', ⟨by have := HJ3.out; first | omega | exact Nat.le_refl _⟩, ⟨by (with_reducible repeat (first | apply Kd.S_alloc | apply Kd.S_drewN | apply Kd.S_drew)); exact Kd.S_mono (Kd.S_far (p := ⟨gb351, 1, none⟩) (Kd.S_far (p := ⟨gb351, 0, none⟩) (Kd.S_types HO348.out BK351.out (by decide)) (fun _ hk => hk.2) (.int .i64 t349)) (fun _ hk => hk.2) (.int .i64 t350)) (fun _ hk => trivial)⟩, ⟨by (with_reducible repeat (first | refine blk_drewN ?_ _ | refine blk_drew ?_ | refine blk_alloc ?_ _)); refine blk_far ?_ NB343_351.out _; (with_reducible repeat (first | refine blk_drewN ?_ _ | refine blk_drew ?_ | refine blk_alloc ?_ _)); refine blk_far ?_ NB343_351.out _; (with_reducible repeat (first | refine blk_drewN ?_ _ | refine blk_drew ?_ | refine blk_alloc ?_ _)); exact BK343.out⟩, ⟨by (with_reducible repeat (first | refine blk_drewN ?_ _ | refine blk_drew ?_ | refine blk_alloc ?_ _)); refine blk_put (cs := #[.int .i64 t349, .int .i64 0]) ?_ 1 _ rfl; (with_reducible repeat (first | refine blk_drewN ?_ _ | refine blk_drew ?_ | refine blk_alloc ?_ _)); refine blk_put (cs := #[.int .i64 0, .int .i64 0]) ?_ 0 _ rfl; (with_reducible repeat (first | refine blk_drewN ?_ _ | refine blk_drew ?_ | refine blk_alloc ?_ _)); exact BK351.out⟩, ⟨by repeat (first | (with_reducible first | exact HB.out | apply below_alloc | apply pw_below_drewN | apply below_drew1 | refine below_set ?_ GE343.out | refine below_set ?_ GE351.out) | exact HB.out)⟩⟩
     ·rw [if_neg c28] at H
      have c28b0 : (t349 == 0) = false := beq_eq_false_iff_ne.mpr c28
      have c28b1 : (t349 != 0) = true := bne_iff_ne.mpr c28
      (first | rw [c28b0] | (simp only [i64_w, i32_w]; rw [c28b0]) | skip)
      have H' := Aside0.mk H
      clear H
      have hnb32 := NB351_343.out
      have hnc32 := NB343_351.out
      obtain ⟨⟨hcz33_0, hfz33_0⟩, hcz33_1, hfz33_1⟩ := cs2_ BK351.out
      go_wp2
      go_meet
      case rel => exact ⟨_, (true), (by first | rfl | (simp; done) | (simp [*]; done)), H', ⟨by have := HJ3.out; first | omega | exact Nat.le_refl _⟩, ⟨by (with_reducible repeat (first | apply Kd.S_alloc | apply Kd.S_drewN | apply Kd.S_drew)); exact Kd.S_mono (Kd.S_far (p := ⟨gb351, 1, none⟩) (Kd.S_far (p := ⟨gb351, 0, none⟩) (Kd.S_types HO348.out BK351.out (by decide)) (fun _ hk => hk.2) (.int .i64 t349)) (fun _ hk => hk.2) (.int .i64 t350)) (fun _ hk => trivial)⟩, ⟨by (with_reducible repeat (first | refine blk_drewN ?_ _ | refine blk_drew ?_ | refine blk_alloc ?_ _)); refine blk_far ?_ NB343_351.out _; (with_reducible repeat (first | refine blk_drewN ?_ _ | refine blk_drew ?_ | refine blk_alloc ?_ _)); refine blk_far ?_ NB343_351.out _; (with_reducible repeat (first | refine blk_drewN ?_ _ | refine blk_drew ?_ | refine blk_alloc ?_ _)); exact BK343.out⟩, ⟨by (with_reducible repeat (first | refine blk_drewN ?_ _ | refine blk_drew ?_ | refine blk_alloc ?_ _)); refine blk_put (cs := #[.int .i64 t349, .int .i64 0]) ?_ 1 _ rfl; (with_reducible repeat (first | refine blk_drewN ?_ _ | refine blk_drew ?_ | refine blk_alloc ?_ _)); refine blk_put (cs := #[.int .i64 0, .int .i64 0]) ?_ 0 _ rfl; (with_reducible repeat (first | refine blk_drewN ?_ _ | refine blk_drew ?_ | refine blk_alloc ?_ _)); exact BK351.out⟩, ⟨by repeat (first | (with_reducible first | exact HB.out | apply below_alloc | apply pw_below_drewN | apply below_drew1 | refine below_set ?_ GE343.out | refine below_set ?_ GE351.out) | exact HB.out)⟩⟩
    case rest =>
     clear HC22
     try clear c1
     try clear c2
     try clear p2
     try clear c3
     try clear c6
     try clear c7
     try clear c8
     try clear c8b0
     try clear c8b1
     try clear c10
     try clear c10b0
     try clear c10b1
     try clear c12
     try clear c12b0
     try clear c18
     try clear c26
     try clear c28
     try clear c28b0
     try clear c28b1
     try clear c29
     try clear c32
     try clear hcz14_0
     try clear hcz14_1
     try clear hcz16_0
     try clear hcz16_1
     try clear hcz23_0
     try clear hcz23_1
     try clear hcz27_0
     try clear hcz27_1
     try clear hcz30_0
     try clear hcz30_1
     try clear hcz33_0
     try clear hcz33_1
     try clear hfz14_0
     try clear hfz14_1
     try clear hfz16_0
     try clear hfz16_1
     try clear hfz23_0
     try clear hfz23_1
     try clear hfz27_0
     try clear hfz27_1
     try clear hfz30_0
     try clear hfz30_1
     try clear hfz33_0
     try clear hfz33_1
     try clear p2
     obtain ⟨kq, x54_21, rfl, HA, HJ21, HO_7, BK343, BK351, HB⟩ := hcut
     cases kq with
     | zero => exact absurd HA.out (by simp [variorumlaw12_SetterFirst.j1])
     | succ kj21 =>
      have H := HA.out
      clear HA
      simp only [variorumlaw12_SetterFirst.j1] at H
      by_cases c34 : x54_21 = true
      ·subst c34
       have H1 : (some (t349 != 0)) = some r := by rw [if_pos rfl] at H; exact H
       clear H
       have H := H1
       clear H1
       obtain rfl := Option.some.inj H
       have hnb35 := NB351_343.out
       have hnc35 := NB343_351.out
       obtain ⟨⟨hcz36_0, hfz36_0⟩, hcz36_1, hfz36_1⟩ := cs2_ BK351.out
       go_wp2
       go_ret
       exact ⟨by first | rfl | (simp [errW_none, errW_some] <;> rfl) | (simp [*, errW_none, errW_some] <;> rfl), by repeat (first | (with_reducible first | exact HB.out | apply below_alloc | apply pw_below_drewN | apply below_drew1 | refine below_set ?_ GE343.out | refine below_set ?_ GE351.out) | exact HB.out)⟩
      ·replace c34 := Bool.eq_false_iff.mpr c34
       subst c34
       have H1 : (if 0 ≤ (wrap64 (a2_0 - 1)) then (if (wrap64 (a2_0 - 1)) < (l1.length : Int) then (if (rd l1 (wrap64 (a2_0 - 1))) < 0 then (variorumlaw12_SetterFirst.j2 kj21 l0 l1 t346 (rd l1 (wrap64 (a2_0 - 1))) true a2_0 a2_1) else (variorumlaw12_SetterFirst.j2 kj21 l0 l1 t346 (rd l1 (wrap64 (a2_0 - 1))) (decide ((rd l1 (wrap64 (a2_0 - 1))) ≥ (l0.length : Int))) a2_0 a2_1)) else (none)) else (none)) = some r := by rw [if_neg (show ¬ (false = true) by decide)] at H; exact H
       clear H
       have H := H1
       clear H1
       obtain ⟨ji37, hji37⟩ : ∃ j_ : Int, (wrap64 (a2_0 - 1)) = j_ := ⟨_, rfl⟩
       replace H : (if 0 ≤ (ji37) then (if (ji37) < (l1.length : Int) then (if (rd l1 (ji37)) < 0 then (variorumlaw12_SetterFirst.j2 kj21 l0 l1 t346 (rd l1 (ji37)) true a2_0 a2_1) else (variorumlaw12_SetterFirst.j2 kj21 l0 l1 t346 (rd l1 (ji37)) (decide ((rd l1 (ji37)) ≥ (l0.length : Int))) a2_0 a2_1)) else (none)) else (none)) = some r := by first | (rw [hji37] at H; exact H) | (simp only [hji37] at H ⊢; exact H)
       have hji37w : (IntKind.i64.wrap (a2_0 - 1)) = ji37 := (i64_w _).trans hji37
       by_cases c38 : 0 ≤ (ji37)
       ·rw [if_pos c38] at H
        have c38b0 : decide (0 ≤ (ji37)) = true := decide_eq_true c38
        clear c38
        by_cases c39 : (ji37) < (l1.length : Int)
        ·rw [if_pos c39] at H
         have c39b0 : decide ((ji37) < (l1.length : Int)) = true := decide_eq_true c39
         clear c39
         have HC40 := Aside0.mk H
         clear H
         have hnb41 := NB343_351.out
         have hnc41 := NB351_343.out
         obtain ⟨⟨hcz42_0, hfz42_0⟩, hcz42_1, hfz42_1⟩ := cs2_ BK343.out
         have p352 : 0 ≤ ((ji37) : Int) := of_decide_eq_true (by first | (with_reducible assumption) | assumption)
         have q352 : (ji37) < (l1.length : Int) := of_decide_eq_true (by first | (with_reducible assumption) | assumption)
         obtain ⟨ad352, e352, hx352_0⟩ := Kd.at_int HR1.out (ji37) p352 q352
         cases e352
         replace hx352_0 := up_ HB.out hx352_0
         replace p352 := eq_true p352
         replace q352 := eq_true q352
         go_upto_region 7 with (fail)
         go_cut [71] (fun v71 wc => ∃ (kq : Nat) (x71_39 : Bool), v71 = .bool x71_39 ∧ Aside0 (variorumlaw12_SetterFirst.j2 kq l0 l1 t346 (rd l1 (ji37)) x71_39 a2_0 a2_1 = some r) ∧ Aside0 (kq ≤ kj21) ∧ Aside0 (Kd.S k44 44 wc w.heap.size (fun _ => True) v347 t346) ∧ Aside0 (wc.heap[gb343]? = some (.cells #[.int .i64 a2_0, .int .i64 a2_1] 50 (0, 0))) ∧ Aside0 (wc.heap[gb351]? = some (.cells #[.int .i64 t349, .int .i64 t350] 28 (0, 0))) ∧ Aside0 (Below w.heap.size w wc))
         case first =>
          have H := HC40.out
          clear HC40
          by_cases c43 : (rd l1 (ji37)) < 0
          ·rw [if_pos c43] at H
           have c43b0 : decide ((rd l1 (ji37)) < 0) = true := decide_eq_true c43
           clear c43
           (first | rw [c43b0] | (simp only [i64_w, i32_w]; rw [c43b0]) | skip)
           have H' := Aside0.mk H
           clear H
           go_wp2
           go_meet
           case rel => exact ⟨_, (true), (by first | rfl | (simp; done) | (simp [*]; done)), H', ⟨by have := HJ3.out; have := HJ21.out; first | omega | exact Nat.le_refl _⟩, ⟨by (with_reducible repeat (first | apply Kd.S_alloc | apply Kd.S_drewN | apply Kd.S_drew)); exact HO_7.out⟩, ⟨kv_ BK343.out⟩, ⟨kv_ BK351.out⟩, ⟨by repeat (first | (with_reducible first | exact HB.out | apply below_alloc | apply pw_below_drewN | apply below_drew1 | refine below_set ?_ GE343.out | refine below_set ?_ GE351.out) | exact HB.out)⟩⟩
          ·rw [if_neg c43] at H
           have c43b0 : decide ((rd l1 (ji37)) < 0) = false := decide_eq_false c43
           clear c43
           (first | rw [c43b0] | (simp only [i64_w, i32_w]; rw [c43b0]) | skip)
           have H' := Aside0.mk H
           clear H
           go_wp2
           go_meet
           case rel => exact ⟨_, (decide ((rd l1 (ji37)) ≥ (l0.length : Int))), (by first | rfl | (simp; done) | (simp only [← hji37] <;> (first | rfl | simp)) | (simp [*]; done)), H', ⟨by have := HJ3.out; have := HJ21.out; first | omega | exact Nat.le_refl _⟩, ⟨by (with_reducible repeat (first | apply Kd.S_alloc | apply Kd.S_drewN | apply Kd.S_drew)); exact HO_7.out⟩, ⟨kv_ BK343.out⟩, ⟨kv_ BK351.out⟩, ⟨by repeat (first | (with_reducible first | exact HB.out | apply below_alloc | apply pw_below_drewN | apply below_drew1 | refine below_set ?_ GE343.out | refine below_set ?_ GE351.out) | exact HB.out)⟩⟩
         case rest =>
          clear HC40
          try clear c1
          try clear c2
          try clear p2
          try clear c3
          try clear p3
          try clear q3
          try clear hx3
          try clear c4
          try clear c6
          try clear p6
          try clear c7
          try clear c8
          try clear c8b0
          try clear c8b1
          try clear c10
          try clear c10b0
          try clear c10b1
          try clear c12
          try clear c12b0
          try clear c18
          try clear c26
          try clear c28
          try clear c28b0
          try clear c28b1
          try clear c29
          try clear c32
          try clear c34
          try clear c35
          try clear p35
          try clear q35
          try clear hx35
          try clear c38
          try clear c38b0
          try clear c39
          try clear c39b0
          try clear c41
          try clear c43
          try clear c43b0
          try clear hcz14_0
          try clear hcz14_1
          try clear hcz16_0
          try clear hcz16_1
          try clear hcz23_0
          try clear hcz23_1
          try clear hcz27_0
          try clear hcz27_1
          try clear hcz30_0
          try clear hcz30_1
          try clear hcz33_0
          try clear hcz33_1
          try clear hcz36_0
          try clear hcz36_1
          try clear hcz42_0
          try clear hcz42_1
          try clear hfz14_0
          try clear hfz14_1
          try clear hfz16_0
          try clear hfz16_1
          try clear hfz23_0
          try clear hfz23_1
          try clear hfz27_0
          try clear hfz27_1
          try clear hfz30_0
          try clear hfz30_1
          try clear hfz33_0
          try clear hfz33_1
          try clear hfz36_0
          try clear hfz36_1
          try clear hfz42_0
          try clear hfz42_1
          try clear hx352_0
          try clear p2
          try clear p352
          try clear q352
          obtain ⟨kq, x71_39, rfl, HA, HJ39, HO_7, BK343, BK351, HB⟩ := hcut
          cases kq with
          | zero => exact absurd HA.out (by simp [variorumlaw12_SetterFirst.j2])
          | succ kj39 =>
           have H := HA.out
           clear HA
           simp only [variorumlaw12_SetterFirst.j2] at H
           by_cases c44 : x71_39 = true
           ·subst c44
            have H1 : (none) = some r := by rw [if_pos rfl] at H; exact H
            clear H
            have H := H1
            clear H1
            exact absurd H (by simp)
           ·replace c44 := Bool.eq_false_iff.mpr c44
            subst c44
            have H1 : (if 0 ≤ (wrap64 ((rd l1 (ji37)) + 1)) then (if (wrap64 ((rd l1 (ji37)) + 1)) ≤ (l0.length : Int) then (if 0 ≤ a2_0 then (if a2_0 ≤ (l1.length : Int) then ((setter_Lines.f kj39 (l0.take ((wrap64 ((rd l1 (ji37)) + 1)) : Int).toNat) (l1.take (a2_0 : Int).toNat) a2_1).bind fun bt358 => (if bt358.2.1 = 0 then (if a2_0 ≤ (t346.length : Int) then ((variorumref12_Same.f kj39 bt358.1 (t346.take (a2_0 : Int).toNat)).bind fun t368 => (some t368)) else (none)) else (none))) else (none)) else (none)) else (none)) else (none)) = some r := by rw [if_neg (show ¬ (false = true) by decide)] at H; exact H
            clear H
            have H := H1
            clear H1
            obtain ⟨ji45, hji45⟩ : ∃ j_ : Int, (wrap64 ((rd l1 (ji37)) + 1)) = j_ := ⟨_, rfl⟩
            replace H : (if 0 ≤ (ji45) then (if (ji45) ≤ (l0.length : Int) then (if 0 ≤ a2_0 then (if a2_0 ≤ (l1.length : Int) then ((setter_Lines.f kj39 (l0.take ((ji45) : Int).toNat) (l1.take (a2_0 : Int).toNat) a2_1).bind fun bt358 => (if bt358.2.1 = 0 then (if a2_0 ≤ (t346.length : Int) then ((variorumref12_Same.f kj39 bt358.1 (t346.take (a2_0 : Int).toNat)).bind fun t368 => (some t368)) else (none)) else (none))) else (none)) else (none)) else (none)) else (none)) = some r := by first | (rw [hji45] at H; exact H) | (simp only [hji45] at H ⊢; exact H)
            have hji45w : (IntKind.i64.wrap ((rd l1 (ji37)) + 1)) = ji45 := (i64_w _).trans hji45
            by_cases c46 : 0 ≤ (ji45)
            ·rw [if_pos c46] at H
             have c46b0 := eq_true c46
             have c46b1 : decide (0 ≤ (ji45)) = true := decide_eq_true c46
             clear c46
             by_cases c47 : (ji45) ≤ (l0.length : Int)
             ·rw [if_pos c47] at H
              have c47b0 := eq_true c47
              have c47b1 : decide ((ji45) ≤ (l0.length : Int)) = true := decide_eq_true c47
              clear c47
              obtain ⟨y353, hy353⟩ : ∃ y_ : List (S40), y_ = (l0.take ((ji45) : Int).toNat) := ⟨_, rfl⟩
              replace H : (if 0 ≤ a2_0 then (if a2_0 ≤ (l1.length : Int) then ((setter_Lines.f kj39 y353 (l1.take (a2_0 : Int).toNat) a2_1).bind fun bt358 => (if bt358.2.1 = 0 then (if a2_0 ≤ (t346.length : Int) then ((variorumref12_Same.f kj39 bt358.1 (t346.take (a2_0 : Int).toNat)).bind fun t368 => (some t368)) else (none)) else (none))) else (none)) else (none)) = some r := by first | (rw [hy353]; with_reducible exact H) | (have H2_ := (Option.bind_some _ _).symm.trans H; rw [hy353]; with_reducible exact H2_) | (have H2_ := (Option.bind_some _ _).symm.trans H; with_reducible exact H2_) | with_reducible exact H | (rw [hy353]; exact H) | exact H
              have Ny353 := Aside0.mk hy353
              clear hy353
              by_cases c48 : 0 ≤ a2_0
              ·rw [if_pos c48] at H
               have c48b0 := eq_true c48
               have c48b1 : decide (0 ≤ a2_0) = true := decide_eq_true c48
               clear c48
               by_cases c49 : a2_0 ≤ (l1.length : Int)
               ·rw [if_pos c49] at H
                have c49b0 := eq_true c49
                have c49b1 : decide (a2_0 ≤ (l1.length : Int)) = true := decide_eq_true c49
                clear c49
                replace H := Option.bind_eq_some_iff.mp H
                obtain ⟨⟨t358, t361, t362⟩, A500, H⟩ := H
                replace H : (if t361 = 0 then (if a2_0 ≤ (t346.length : Int) then ((variorumref12_Same.f kj39 t358 (t346.take (a2_0 : Int).toNat)).bind fun t368 => (some t368)) else (none)) else (none)) = some r := H
                have A50 := Aside0.mk A500
                clear A500
                by_cases c51 : t361 = 0
                ·rw [if_pos c51] at H
                 have c51b0 : (t361 == 0) = true := beq_iff_eq.mpr c51
                 have c51b1 : (t361 != 0) = false := bne_eq_false_iff_eq.mpr c51
                 clear c51
                 have c52b0 := eq_true (of_decide_eq_true (by first | (with_reducible assumption) | assumption) : 0 ≤ a2_0)
                 by_cases c53 : a2_0 ≤ (t346.length : Int)
                 ·rw [if_pos c53] at H
                  have c53b0 := eq_true c53
                  have c53b1 : decide (a2_0 ≤ (t346.length : Int)) = true := decide_eq_true c53
                  clear c53
                  obtain ⟨y364, hy364⟩ : ∃ y_ : List (S44), y_ = (t346.take (a2_0 : Int).toNat) := ⟨_, rfl⟩
                  replace H : ((variorumref12_Same.f kj39 t358 y364).bind fun t368 => (some t368)) = some r := by first | (rw [hy364]; with_reducible exact H) | (have H2_ := (Option.bind_some _ _).symm.trans H; rw [hy364]; with_reducible exact H2_) | (have H2_ := (Option.bind_some _ _).symm.trans H; with_reducible exact H2_) | with_reducible exact H | (rw [hy364]; exact H) | exact H
                  have Ny364 := Aside0.mk hy364
                  clear hy364
                  replace H := Option.bind_eq_some_iff.mp H
                  obtain ⟨t368, A540, H⟩ := H
                  replace H : (some t368) = some r := H
                  have A54 := Aside0.mk A540
                  clear A540
                  obtain rfl := Option.some.inj H
                  try go_wp2
                  have n0_ := Aside0.mk (Kd.S_drew HO_7.out)
                  have n1_ := Aside0.mk (blk_drew BK343.out)
                  have n2_ := Aside0.mk (blk_drew BK351.out)
                  have n3_ := Aside0.mk (below_drew1 HB.out)
                  clear HO_7
                  clear BK343
                  clear BK351
                  clear HB
                  have HO_7 := n0_
                  have BK343 := n1_
                  have BK351 := n2_
                  have HB := n3_
                  clear n0_ n1_ n2_ n3_
                  have q56 : ((ji45) : Int) ≤ ((l0.length : Int) : Int) := of_decide_eq_true (by first | (with_reducible assumption) | assumption)
                  obtain ⟨i056, hi056, _, hsz56, _⟩ := info_parts info40
                  have hroom56 : l0.length ≤ c0 := HC0.out
                  have hC56 : Kd.C k40 _ A0 l0.length l0 := HR0.out
                  have hcut56 := cut_to (P := Try.prog) 22 40 .i64 Try.underlying22 hi056 A0 l0.length c0 (ji45) (of_decide_eq_true (by first | (with_reducible assumption) | assumption)) q56 hroom56
                  have hr56 := Kd.C_take (m := ((ji45) : Int).toNat) hC56 (by omega)
                  have hy56 : y353.length = ((ji45) : Int).toNat := (by rw [Ny353.out, List.length_take]; omega)
                  rw [← Ny353.out] at hr56
                  rw [← hy56] at hcut56
                  have HR356 := Aside0.mk hr56
                  have HC356 := Aside0.mk (show y353.length ≤ c0 from by omega)
                  clear hr56 hC56 hroom56 hi056 hsz56
                  have KY56 := Aside0.mk hy56
                  clear hy56
                  replace q56 := eq_true q56
                  obtain ⟨i057, hi057, _, hsz57, _⟩ := info_parts info3
                  obtain ⟨hcut57, hA57, hC57⟩ := print_take_of (P := Try.prog) (Value.int .i64) 0 23 3 .i64 Try.underlying23 hi057 hsz57 (some ad352) c1 l1 a2_0 (of_decide_eq_true (by first | (with_reducible assumption) | assumption)) (of_decide_eq_true (by first | (with_reducible assumption) | assumption)) HC1.out
                  have HR357 := Aside0.mk (Kd.C_of_reads (h1 := fun _ => rfl) (hA57 _ (Kd.reads_of_C HR1.out)))
                  have HC357 := Aside0.mk hC57
                  clear hA57 hC57 hi057 hsz57
                  refine start_ (n := 17) (S := fun w' => w'.cell? ⟨gb343, 0, none⟩ = some (.int .i64 a2_0) ∧ w'.cell? ⟨gb343, 1, none⟩ = some (.int .i64 a2_1)) (ds := []) #[false, false, false, false, false, false, false, false, false, false, false, false, false, false, false, false, false] (by kernel_rfl) rfl rfl ⟨(blk_cell BK343.out 0).trans rfl, (blk_cell BK343.out 1).trans rfl⟩ (fun hHeld => ?_); refine with_tabW variorumlaw12_SetterFirst.tab9 variorumlaw12_SetterFirst.bits9 (fun HT_ HW_ => ?_)
                  generalize wc.drew = w55 at HO_7 BK343 BK351 HB HR356 HR357 hHeld ⊢
                  refine pure_ (i := 0) (N := some 73) (v := ?_) (a' := ?_) #[true, false, false, false, false, false, false, false, false, false, false, false, false, false, false, false, false] rfl rfl (any_of HT_.out (by kernel_rfl)) (fun _ _ _ h => h) (Or.inl ⟨by rfl, ?_⟩) ?_ ?_
                  rotate_left
                  ·intro w'
                   go_simp
                   with_reducible rfl
                  rotate_left
                  ·simp only [Act.put, List.setIfInBounds_toArray, List.set_cons_zero, List.set_cons_succ, i64_w, i32_w]
                   rfl
                  refine pure_ (i := 1) (N := some 74) (v := ?_) (a' := ?_) #[true, true, false, false, false, false, false, false, false, false, false, false, false, false, false, false, false] rfl rfl (any_of HT_.out (by kernel_rfl)) (fun _ _ _ h => h) (Or.inl ⟨by rfl, ?_⟩) ?_ ?_
                  rotate_left
                  ·intro w'
                   go_simp
                   with_reducible rfl
                  rotate_left
                  ·simp only [Act.put, List.setIfInBounds_toArray, List.set_cons_zero, List.set_cons_succ, i64_w, i32_w]
                   rfl
                  refine pure_ (i := 2) (N := some 75) (v := ?_) (a' := ?_) #[true, true, true, false, false, false, false, false, false, false, false, false, false, false, false, false, false] rfl rfl (any_of HT_.out (by kernel_rfl)) (fun _ _ _ h => h) (Or.inl ⟨by rfl, ?_⟩) ?_ ?_
                  rotate_left
                  ·intro w'
                   go_simp
                   with_reducible rfl
                  rotate_left
                  ·simp only [Act.put, List.setIfInBounds_toArray, List.set_cons_zero, List.set_cons_succ, i64_w, i32_w]
                   rfl
                  refine pure_ (i := 3) (N := some 76) (v := ?_) (a' := ?_) #[true, true, true, true, false, false, false, false, false, false, false, false, false, false, false, false, false] rfl rfl (any_of HT_.out (by kernel_rfl)) (fun _ _ _ h => h) (Or.inl ⟨by rfl, ?_⟩) ?_ ?_
                  rotate_left
                  ·intro w'
                   go_simp
                   with_reducible rfl
                  rotate_left
                  ·simp only [Act.put, List.setIfInBounds_toArray, List.set_cons_zero, List.set_cons_succ, i64_w, i32_w]
                   rfl
                  refine pure_ (i := 4) (N := some 77) (v := ?_) (a' := ?_) #[true, true, true, true, true, false, false, false, false, false, false, false, false, false, false, false, false] rfl rfl (any_of HT_.out (by kernel_rfl)) (fun _ _ _ h => h) (Or.inl ⟨by rfl, ?_⟩) ?_ ?_
                  rotate_left
                  ·intro w'
                   go_simp
                   with_reducible rfl
                  rotate_left
                  ·simp only [Act.put, List.setIfInBounds_toArray, List.set_cons_zero, List.set_cons_succ, i64_w, i32_w]
                   rfl
                  refine pure_ (i := 5) (N := some 78) (v := ?_) (a' := ?_) #[true, true, true, true, true, true, false, false, false, false, false, false, false, false, false, false, false] rfl rfl (any_of HT_.out (by kernel_rfl)) (fun _ _ _ h => h) (Or.inl ⟨by rfl, ?_⟩) ?_ ?_
                  rotate_left
                  ·intro w'
                   go_simp
                   with_reducible rfl
                  rotate_left
                  ·simp only [Act.put, List.setIfInBounds_toArray, List.set_cons_zero, List.set_cons_succ, i64_w, i32_w]
                   rfl
                  refine pure_ (i := 8) (N := some 81) (v := ?_) (a' := ?_) #[true, true, true, true, true, true, false, false, true, false, false, false, false, false, false, false, false] rfl rfl (any_of HT_.out (by kernel_rfl)) (fun _ _ _ h => h) (Or.inl ⟨by rfl, ?_⟩) ?_ ?_
                  rotate_left
                  ·intro w'
                   go_simp
                   with_reducible rfl
                  rotate_left
                  ·simp only [Act.put, List.setIfInBounds_toArray, List.set_cons_zero, List.set_cons_succ, i64_w, i32_w]
                   rfl
                  refine take_ (i := 6) (N := some 79) (v := ?_) (a' := ?_) #[true, true, true, true, true, true, true, false, true, false, false, false, false, false, false, false, false] rfl rfl (take_ofW HT_.out HW_.out (by kernel_rfl)) (fun _ _ _ h => h) (Or.inl ⟨by rfl, ?_⟩) hHeld ?_ ?_
                  rotate_left
                  ·rintro w' ⟨s0, s1⟩
                   go_simp
                   with_reducible rfl
                  rotate_left
                  ·simp only [Act.put, List.setIfInBounds_toArray, List.set_cons_zero, List.set_cons_succ, i64_w, i32_w]
                   rfl
                  refine pure_ (i := 7) (N := some 80) (v := ?_) (a' := ?_) #[true, true, true, true, true, true, true, true, true, false, false, false, false, false, false, false, false] rfl rfl (any_of HT_.out (by kernel_rfl)) (fun _ _ _ h => h) (Or.inl ⟨by rfl, ?_⟩) ?_ ?_
                  rotate_left
                  ·intro w'
                   go_simp
                   with_reducible rfl
                  rotate_left
                  ·simp only [Act.put, List.setIfInBounds_toArray, List.set_cons_zero, List.set_cons_succ, i64_w, i32_w]
                   rfl
                  refine take_ (i := 9) (N := some 82) (v := ?_) (a' := ?_) #[true, true, true, true, true, true, true, true, true, true, false, false, false, false, false, false, false] rfl rfl (take_ofW HT_.out HW_.out (by kernel_rfl)) (fun _ _ _ h => h) (Or.inl ⟨by rfl, ?_⟩) hHeld ?_ ?_
                  rotate_left
                  ·rintro w' ⟨s0, s1⟩
                   go_simp
                   with_reducible rfl
                  rotate_left
                  ·simp only [Act.put, List.setIfInBounds_toArray, List.set_cons_zero, List.set_cons_succ, i64_w, i32_w]
                   rfl
                  refine join_ (σ := Value × Nat) 2 #[true, true, true, true, true, true, true, true, true, true, true, true, true, true, true, false, false] (fun s_ => [(83, .tuple #[s_.1, .agg #[.int .i64 t361, .int .i64 t362]]), (11, .pointer (some ⟨s_.2, 0, none⟩)), (72, .tuple #[s_.1, .agg #[.int .i64 t361, .int .i64 t362]]), (84, s_.1), (85, .agg #[.int .i64 t361, .int .i64 t362])]) (fun s_ w' => (w'.cell? ⟨gb343, 0, none⟩ = some (.int .i64 a2_0) ∧ w'.cell? ⟨gb343, 1, none⟩ = some (.int .i64 a2_1)) ∧ (Kd.S k44 44 w' w.heap.size (fun k_ => some k_ ≠ (v347 : Value).ownBlock) s_.1 t358) ∧ (Kd.S k44 44 w' w.heap.size (fun k_ => some k_ ≠ (s_.1 : Value).ownBlock) v347 t346) ∧ (w'.heap[gb343]? = some (.cells #[.int .i64 a2_0, .int .i64 a2_1] 50 (0, 0))) ∧ (w'.heap[gb351]? = some (.cells #[.int .i64 t349, .int .i64 t350] 28 (0, 0))) ∧ (w'.heap[s_.2]? = some (.cells #[.int .i64 0, .int .i64 0] 28 (0, 0))) ∧ (w.heap.size ≤ s_.2) ∧ (w.heap.size ≤ s_.2) ∧ (gb343 ≠ s_.2) ∧ (s_.2 ≠ gb343) ∧ (gb351 ≠ s_.2) ∧ (s_.2 ≠ gb351) ∧ (Below w.heap.size w w')) ?_ ?_
                  rotate_left
                  ·intro hCont
                   refine two_ (i := 10) (j := 14) (Ni := some 83) (Nj := some 11) #[true, true, true, true, true, true, true, true, true, true, true, false, false, false, false, false, false] #[true, true, true, true, true, true, true, true, true, true, false, false, false, false, true, false, false] rfl rfl rfl rfl (two_of HT_.out (by kernel_rfl)) (by decide) (by decide) (fun K hK => ?_) (fun K hK => ?_)
                   ·skip
                    refine goes_ Try.func8 (by kernel_rfl) rfl #[.slice A0 y353.length c0, .slice (some ad352) (l1.take (a2_0 : Int).toNat).length c1, .int .i64 a2_1] (by rfl) rfl rfl (by (try simp only [List.map_toArray, List.map_cons, List.map_nil]); first | done | (rw [show (l1.take (a2_0 : Int).toNat).length = a2_0.toNat from (by rw [List.length_take]; have h_ : (a2_0 : Int) ≤ (l1.length : Int) := of_decide_eq_true (by first | (with_reducible assumption) | assumption); omega)] <;> rfl) | rfl | (simp only [List.length_drop, List.length_take]; rfl)) ?_
                    with_reducible refine (setter_Lines.calls kj39 _ _ y353 _ _ (l1.take (a2_0 : Int).toNat) a2_1 t358 t361 t362 _ ?side1 ?side2 ?side3 ?side4 A50.out).mono ?_
                    (case side1 => repeat (first | exact (Kd.C_below HR356.out HB.out) | (with_reducible refine Kd.C_alloc ?_ _) | (with_reducible refine Kd.C_drewN ?_ _) | (with_reducible refine Kd.C_drew ?_)))
                    (case side2 => exact HC356.out)
                    (case side3 => repeat (first | exact (Kd.C_below HR357.out HB.out) | (with_reducible refine Kd.C_alloc ?_ _) | (with_reducible refine Kd.C_drewN ?_ _) | (with_reducible refine Kd.C_drew ?_)))
                    (case side4 => exact HC357.out)
                    rintro e w58 ⟨v359, rfl, ho0, hb⟩
                    refine ⟨_, rfl, ?_⟩
                    have n0_ := Aside0.mk (Kd.S_elder' (sv_ HO_7.out) (Kd.S_base ho0) hb)
                    have n1_ := Aside0.mk (Kd.S_lower (Kd.S_new' ho0 (Kd.S_lt (sv_ HO_7.out))) (below_size (by repeat (first | (with_reducible first | exact HB.out | apply below_alloc | apply pw_below_drewN | apply below_drew1 | refine below_set ?_ GE343.out | refine below_set ?_ GE351.out) | exact HB.out))))
                    have n2_ := Aside0.mk (kb_ BK343.out hb)
                    have n3_ := Aside0.mk (kb_ BK351.out hb)
                    have n4_ := Aside0.mk (below_step (by repeat (first | (with_reducible first | exact HB.out | apply below_alloc | apply pw_below_drewN | apply below_drew1 | refine below_set ?_ GE343.out | refine below_set ?_ GE351.out) | exact HB.out)) hb)
                    clear HO_7
                    clear BK343
                    clear BK351
                    clear HB
                    have HO_7 := n0_
                    have HO360 := n1_
                    have BK343 := n2_
                    have BK351 := n3_
                    have HB := n4_
                    clear n0_ n1_ n2_ n3_ n4_
                    (try clear hb)
                    (try clear hb2)
                    (try clear hk)
                    (try clear hi)
                    (try clear ho0)
                    refine hK.out _ _ ⟨(blk_cell BK343.out 0).trans rfl, (blk_cell BK343.out 1).trans rfl⟩ (fun hHeld => ?_)
                    clear hK K
                    refine norm_ (a' := ?_) ?_ ?_
                    rotate_left
                    ·show Act.put _ (some 83) _ = _
                     simp only [Act.put, List.setIfInBounds_toArray, List.set_cons_zero, List.set_cons_succ, i64_w, i32_w]
                     rfl
                    refine pure_ (i := 11) (N := some 72) (v := ?_) (a' := ?_) #[true, true, true, true, true, true, true, true, true, true, true, true, false, false, false, false, false] rfl rfl (any_of HT_.out (by kernel_rfl)) (fun _ _ _ h => h) (Or.inl ⟨by rfl, ?_⟩) ?_ ?_
                    rotate_left
                    ·intro w'
                     go_simp
                     with_reducible rfl
                    rotate_left
                    ·simp only [Act.put, List.setIfInBounds_toArray, List.set_cons_zero, List.set_cons_succ, i64_w, i32_w]
                     rfl
                    refine pure_ (i := 12) (N := some 84) (v := ?_) (a' := ?_) #[true, true, true, true, true, true, true, true, true, true, true, true, true, false, false, false, false] rfl rfl (any_of HT_.out (by kernel_rfl)) (fun _ _ _ h => h) (Or.inl ⟨by rfl, ?_⟩) ?_ ?_
                    rotate_left
                    ·intro w'
                     go_simp
                     with_reducible rfl
                    rotate_left
                    ·simp only [Act.put, List.setIfInBounds_toArray, List.set_cons_zero, List.set_cons_succ, i64_w, i32_w]
                     rfl
                    refine pure_ (i := 13) (N := some 85) (v := ?_) (a' := ?_) #[true, true, true, true, true, true, true, true, true, true, true, true, true, true, false, false, false] rfl rfl (any_of HT_.out (by kernel_rfl)) (fun _ _ _ h => h) (Or.inl ⟨by rfl, ?_⟩) ?_ ?_
                    rotate_left
                    ·intro w'
                     go_simp
                     with_reducible rfl
                    rotate_left
                    ·simp only [Act.put, List.setIfInBounds_toArray, List.set_cons_zero, List.set_cons_succ, i64_w, i32_w]
                     rfl
                    refine one_ (i := 14) (N := some 11) #[true, true, true, true, true, true, true, true, true, true, true, true, true, true, true, false, false] rfl rfl (one_of HT_.out (by kernel_rfl)) (by decide) (fun K hK => ?_)
                    refine box_step ?hg (N := 11) ?hd (cs := #[.int .i64 0, .int .i64 0]) (t := 28) ?hr ?_; (case hd => rfl); (case hg => rfl); (case hr => first | (go_simp; done) | (go_simp; rfl))
                    intro gb363 hg w59 hbox hb
                    have n0_ := Aside0.mk (Kd.S_below (sv_ HO_7.out) hb)
                    have n1_ := Aside0.mk (Kd.S_below (sv_ HO360.out) hb)
                    have n2_ := Aside0.mk (kb_ BK343.out hb)
                    have n3_ := Aside0.mk (kb_ BK351.out hb)
                    have n4_ := Aside0.mk (below_step (by repeat (first | (with_reducible first | exact HB.out | apply below_alloc | apply pw_below_drewN | apply below_drew1 | refine below_set ?_ GE343.out | refine below_set ?_ GE351.out) | exact HB.out)) hb)
                    have n5_ := Aside0.mk (hbox)
                    have n6_ := Aside0.mk ((by rw [hg]; exact (below_size (by repeat (first | (with_reducible first | exact HB.out | apply below_alloc | apply pw_below_drewN | apply below_drew1 | refine below_set ?_ GE343.out | refine below_set ?_ GE351.out) | exact HB.out))) : w.heap.size ≤ gb363))
                    have n7_ := Aside0.mk ((by rw [hg]; exact (below_size (by repeat (first | (with_reducible first | exact HB.out | apply below_alloc | apply pw_below_drewN | apply below_drew1 | refine below_set ?_ GE343.out | refine below_set ?_ GE351.out) | exact HB.out))) : w.heap.size ≤ gb363))
                    have n8_ := Aside0.mk ((by rw [hg]; exact Nat.ne_of_lt (blk_lt (kv_ BK343.out)) : gb343 ≠ gb363))
                    have n9_ := Aside0.mk ((by rw [hg]; exact Nat.ne_of_gt (blk_lt (kv_ BK343.out)) : gb363 ≠ gb343))
                    have n10_ := Aside0.mk ((by rw [hg]; exact Nat.ne_of_lt (blk_lt (kv_ BK351.out)) : gb351 ≠ gb363))
                    have n11_ := Aside0.mk ((by rw [hg]; exact Nat.ne_of_gt (blk_lt (kv_ BK351.out)) : gb363 ≠ gb351))
                    clear HO_7
                    clear HO360
                    clear BK343
                    clear BK351
                    clear HB
                    have HO_7 := n0_
                    have HO360 := n1_
                    have BK343 := n2_
                    have BK351 := n3_
                    have HB := n4_
                    have BK363 := n5_
                    have GW363 := n6_
                    have GE363 := n7_
                    have NB343_363 := n8_
                    have NB363_343 := n9_
                    have NB351_363 := n10_
                    have NB363_351 := n11_
                    clear n0_ n1_ n2_ n3_ n4_ n5_ n6_ n7_ n8_ n9_ n10_ n11_
                    clear hb hbox hg
                    refine hK.out _ _ ⟨(blk_cell BK343.out 0).trans rfl, (blk_cell BK343.out 1).trans rfl⟩ (fun hHeld => ?_)
                    clear hK K
                    refine norm_ (a' := ?_) ?_ ?_
                    rotate_left
                    ·show Act.put _ (some 11) _ = _
                     simp only [Act.put, List.setIfInBounds_toArray, List.set_cons_zero, List.set_cons_succ, i64_w, i32_w]
                     rfl
                    exact norm_ (by simp only [putAll, Act.put, List.setIfInBounds_toArray, List.set_cons_zero, List.set_cons_succ]) (hCont (v359, gb363) _ ⟨hHeld, (by (with_reducible repeat (first | apply Kd.S_alloc | apply Kd.S_drewN | apply Kd.S_drew)); exact Kd.S_mono HO360.out (fun _ hk => hk.2)), (by (with_reducible repeat (first | apply Kd.S_alloc | apply Kd.S_drewN | apply Kd.S_drew)); exact Kd.S_mono HO_7.out (fun _ hk => hk.2)), (kv_ BK343.out), (kv_ BK351.out), (kv_ BK363.out), GW363.out, GE363.out, NB343_363.out, NB363_343.out, NB351_363.out, NB363_351.out, (by repeat (first | (with_reducible first | exact HB.out | apply below_alloc | apply pw_below_drewN | apply below_drew1 | refine below_set ?_ GE343.out | refine below_set ?_ GE351.out | refine below_set ?_ GE363.out) | exact HB.out))⟩)
                   ·skip
                    refine box_step ?hg (N := 11) ?hd (cs := #[.int .i64 0, .int .i64 0]) (t := 28) ?hr ?_; (case hd => rfl); (case hg => rfl); (case hr => first | (go_simp; done) | (go_simp; rfl))
                    intro gb363 hg w58 hbox hb
                    have n0_ := Aside0.mk (Kd.S_below (sv_ HO_7.out) hb)
                    have n1_ := Aside0.mk (kb_ BK343.out hb)
                    have n2_ := Aside0.mk (kb_ BK351.out hb)
                    have n3_ := Aside0.mk (below_step (by repeat (first | (with_reducible first | exact HB.out | apply below_alloc | apply pw_below_drewN | apply below_drew1 | refine below_set ?_ GE343.out | refine below_set ?_ GE351.out) | exact HB.out)) hb)
                    have n4_ := Aside0.mk (hbox)
                    have n5_ := Aside0.mk ((by rw [hg]; exact (below_size (by repeat (first | (with_reducible first | exact HB.out | apply below_alloc | apply pw_below_drewN | apply below_drew1 | refine below_set ?_ GE343.out | refine below_set ?_ GE351.out) | exact HB.out))) : w.heap.size ≤ gb363))
                    have n6_ := Aside0.mk ((by rw [hg]; exact (below_size (by repeat (first | (with_reducible first | exact HB.out | apply below_alloc | apply pw_below_drewN | apply below_drew1 | refine below_set ?_ GE343.out | refine below_set ?_ GE351.out) | exact HB.out))) : w.heap.size ≤ gb363))
                    have n7_ := Aside0.mk ((by rw [hg]; exact Nat.ne_of_lt (blk_lt (kv_ BK343.out)) : gb343 ≠ gb363))
                    have n8_ := Aside0.mk ((by rw [hg]; exact Nat.ne_of_gt (blk_lt (kv_ BK343.out)) : gb363 ≠ gb343))
                    have n9_ := Aside0.mk ((by rw [hg]; exact Nat.ne_of_lt (blk_lt (kv_ BK351.out)) : gb351 ≠ gb363))
                    have n10_ := Aside0.mk ((by rw [hg]; exact Nat.ne_of_gt (blk_lt (kv_ BK351.out)) : gb363 ≠ gb351))
                    clear HO_7
                    clear BK343
                    clear BK351
                    clear HB
                    have HO_7 := n0_
                    have BK343 := n1_
                    have BK351 := n2_
                    have HB := n3_
                    have BK363 := n4_
                    have GW363 := n5_
                    have GE363 := n6_
                    have NB343_363 := n7_
                    have NB363_343 := n8_
                    have NB351_363 := n9_
                    have NB363_351 := n10_
                    clear n0_ n1_ n2_ n3_ n4_ n5_ n6_ n7_ n8_ n9_ n10_
                    clear hb hbox hg
                    refine hK.out _ _ ⟨(blk_cell BK343.out 0).trans rfl, (blk_cell BK343.out 1).trans rfl⟩ (fun hHeld => ?_)
                    clear hK K
                    refine norm_ (a' := ?_) ?_ ?_
                    rotate_left
                    ·show Act.put _ (some 11) _ = _
                     simp only [Act.put, List.setIfInBounds_toArray, List.set_cons_zero, List.set_cons_succ, i64_w, i32_w]
                     rfl
                    refine one_ (i := 10) (N := some 83) #[true, true, true, true, true, true, true, true, true, true, true, false, false, false, true, false, false] rfl rfl (one_of HT_.out (by kernel_rfl)) (by decide) (fun K hK => ?_)
                    refine goes_ Try.func8 (by kernel_rfl) rfl #[.slice A0 y353.length c0, .slice (some ad352) (l1.take (a2_0 : Int).toNat).length c1, .int .i64 a2_1] (by rfl) rfl rfl (by (try simp only [List.map_toArray, List.map_cons, List.map_nil]); first | done | (rw [show (l1.take (a2_0 : Int).toNat).length = a2_0.toNat from (by rw [List.length_take]; have h_ : (a2_0 : Int) ≤ (l1.length : Int) := of_decide_eq_true (by first | (with_reducible assumption) | assumption); omega)] <;> rfl) | rfl | (simp only [List.length_drop, List.length_take]; rfl)) ?_
                    with_reducible refine (setter_Lines.calls kj39 _ _ y353 _ _ (l1.take (a2_0 : Int).toNat) a2_1 t358 t361 t362 _ ?side1 ?side2 ?side3 ?side4 A50.out).mono ?_
                    (case side1 => repeat (first | exact (Kd.C_below HR356.out HB.out) | (with_reducible refine Kd.C_alloc ?_ _) | (with_reducible refine Kd.C_drewN ?_ _) | (with_reducible refine Kd.C_drew ?_)))
                    (case side2 => exact HC356.out)
                    (case side3 => repeat (first | exact (Kd.C_below HR357.out HB.out) | (with_reducible refine Kd.C_alloc ?_ _) | (with_reducible refine Kd.C_drewN ?_ _) | (with_reducible refine Kd.C_drew ?_)))
                    (case side4 => exact HC357.out)
                    rintro e w59 ⟨v359, rfl, ho0, hb⟩
                    refine ⟨_, rfl, ?_⟩
                    have n0_ := Aside0.mk (Kd.S_elder' (sv_ HO_7.out) (Kd.S_base ho0) hb)
                    have n1_ := Aside0.mk (Kd.S_lower (Kd.S_new' ho0 (Kd.S_lt (sv_ HO_7.out))) (below_size (by repeat (first | (with_reducible first | exact HB.out | apply below_alloc | apply pw_below_drewN | apply below_drew1 | refine below_set ?_ GE343.out | refine below_set ?_ GE351.out | refine below_set ?_ GE363.out) | exact HB.out))))
                    have n2_ := Aside0.mk (kb_ BK343.out hb)
                    have n3_ := Aside0.mk (kb_ BK351.out hb)
                    have n4_ := Aside0.mk (kb_ BK363.out hb)
                    have n5_ := Aside0.mk (below_step (by repeat (first | (with_reducible first | exact HB.out | apply below_alloc | apply pw_below_drewN | apply below_drew1 | refine below_set ?_ GE343.out | refine below_set ?_ GE351.out | refine below_set ?_ GE363.out) | exact HB.out)) hb)
                    clear HO_7
                    clear BK343
                    clear BK351
                    clear BK363
                    clear HB
                    have HO_7 := n0_
                    have HO360 := n1_
                    have BK343 := n2_
                    have BK351 := n3_
                    have BK363 := n4_
                    have HB := n5_
                    clear n0_ n1_ n2_ n3_ n4_ n5_
                    (try clear hb)
                    (try clear hb2)
                    (try clear hk)
                    (try clear hi)
                    (try clear ho0)
                    refine hK.out _ _ ⟨(blk_cell BK343.out 0).trans rfl, (blk_cell BK343.out 1).trans rfl⟩ (fun hHeld => ?_)
                    clear hK K
                    refine norm_ (a' := ?_) ?_ ?_
                    rotate_left
                    ·show Act.put _ (some 83) _ = _
                     simp only [Act.put, List.setIfInBounds_toArray, List.set_cons_zero, List.set_cons_succ, i64_w, i32_w]
                     rfl
                    refine pure_ (i := 11) (N := some 72) (v := ?_) (a' := ?_) #[true, true, true, true, true, true, true, true, true, true, true, true, false, false, true, false, false] rfl rfl (any_of HT_.out (by kernel_rfl)) (fun _ _ _ h => h) (Or.inl ⟨by rfl, ?_⟩) ?_ ?_
                    rotate_left
                    ·intro w'
                     go_simp
                     with_reducible rfl
                    rotate_left
                    ·simp only [Act.put, List.setIfInBounds_toArray, List.set_cons_zero, List.set_cons_succ, i64_w, i32_w]
                     rfl
                    refine pure_ (i := 12) (N := some 84) (v := ?_) (a' := ?_) #[true, true, true, true, true, true, true, true, true, true, true, true, true, false, true, false, false] rfl rfl (any_of HT_.out (by kernel_rfl)) (fun _ _ _ h => h) (Or.inl ⟨by rfl, ?_⟩) ?_ ?_
                    rotate_left
                    ·intro w'
                     go_simp
                     with_reducible rfl
                    rotate_left
                    ·simp only [Act.put, List.setIfInBounds_toArray, List.set_cons_zero, List.set_cons_succ, i64_w, i32_w]
                     rfl
                    refine pure_ (i := 13) (N := some 85) (v := ?_) (a' := ?_) #[true, true, true, true, true, true, true, true, true, true, true, true, true, true, true, false, false] rfl rfl (any_of HT_.out (by kernel_rfl)) (fun _ _ _ h => h) (Or.inl ⟨by rfl, ?_⟩) ?_ ?_
                    rotate_left
                    ·intro w'
                     go_simp
                     with_reducible rfl
                    rotate_left
                    ·simp only [Act.put, List.setIfInBounds_toArray, List.set_cons_zero, List.set_cons_succ, i64_w, i32_w]
                     rfl
                    exact norm_ (by simp only [putAll, Act.put, List.setIfInBounds_toArray, List.set_cons_zero, List.set_cons_succ]) (hCont (v359, gb363) _ ⟨hHeld, (by (with_reducible repeat (first | apply Kd.S_alloc | apply Kd.S_drewN | apply Kd.S_drew)); exact Kd.S_mono HO360.out (fun _ hk => hk.2)), (by (with_reducible repeat (first | apply Kd.S_alloc | apply Kd.S_drewN | apply Kd.S_drew)); exact Kd.S_mono HO_7.out (fun _ hk => hk.2)), (kv_ BK343.out), (kv_ BK351.out), (kv_ BK363.out), GW363.out, GE363.out, NB343_363.out, NB363_343.out, NB351_363.out, NB363_351.out, (by repeat (first | (with_reducible first | exact HB.out | apply below_alloc | apply pw_below_drewN | apply below_drew1 | refine below_set ?_ GE343.out | refine below_set ?_ GE351.out | refine below_set ?_ GE363.out) | exact HB.out))⟩)
                  rintro ⟨v359, gb363⟩ w60 ⟨hS_, h0_, h1_, h2_, h3_, h4_, h5_, h6_, h7_, h8_, h9_, h10_, h11_⟩
                  have n0_ : Aside0 (Kd.S k44 44 w60 w.heap.size (fun k_ => some k_ ≠ (v347 : Value).ownBlock) v359 t358) := ⟨h0_⟩
                  have n1_ : Aside0 (Kd.S k44 44 w60 w.heap.size (fun k_ => some k_ ≠ (v359 : Value).ownBlock) v347 t346) := ⟨h1_⟩
                  have n2_ : Aside0 (w60.heap[gb343]? = some (.cells #[.int .i64 a2_0, .int .i64 a2_1] 50 (0, 0))) := ⟨h2_⟩
                  have n3_ : Aside0 (w60.heap[gb351]? = some (.cells #[.int .i64 t349, .int .i64 t350] 28 (0, 0))) := ⟨h3_⟩
                  have n4_ : Aside0 (w60.heap[gb363]? = some (.cells #[.int .i64 0, .int .i64 0] 28 (0, 0))) := ⟨h4_⟩
                  have n5_ : Aside0 (w.heap.size ≤ gb363) := ⟨h5_⟩
                  have n6_ : Aside0 (w.heap.size ≤ gb363) := ⟨h6_⟩
                  have n7_ : Aside0 (gb343 ≠ gb363) := ⟨h7_⟩
                  have n8_ : Aside0 (gb363 ≠ gb343) := ⟨h8_⟩
                  have n9_ : Aside0 (gb351 ≠ gb363) := ⟨h9_⟩
                  have n10_ : Aside0 (gb363 ≠ gb351) := ⟨h10_⟩
                  have n11_ : Aside0 (Below w.heap.size w w60) := ⟨h11_⟩
                  clear HO_7
                  clear BK343
                  clear BK351
                  clear HB
                  clear h0_ h1_ h2_ h3_ h4_ h5_ h6_ h7_ h8_ h9_ h10_ h11_
                  have HO360 := n0_
                  have HO_7 := n1_
                  have BK343 := n2_
                  have BK351 := n3_
                  have BK363 := n4_
                  have GW363 := n5_
                  have GE363 := n6_
                  have NB343_363 := n7_
                  have NB363_343 := n8_
                  have NB351_363 := n9_
                  have NB363_351 := n10_
                  have HB := n11_
                  clear n0_ n1_ n2_ n3_ n4_ n5_ n6_ n7_ n8_ n9_ n10_ n11_
                  have hHeld : w60.cell? ⟨gb343, 0, none⟩ = some (.int .i64 a2_0) ∧ w60.cell? ⟨gb343, 1, none⟩ = some (.int .i64 a2_1) := hS_
                  refine norm_ (a' := ?_) ?_ ?_
                  rotate_left
                  ·simp only [putAll, Act.put, List.setIfInBounds_toArray, List.set_cons_zero, List.set_cons_succ]
                   rfl
                  refine pure_ (i := 15) (N := some 10) (v := ?_) (a' := ?_) #[true, true, true, true, true, true, true, true, true, true, true, true, true, true, true, true, false] rfl rfl (any_of HT_.out (by kernel_rfl)) (fun _ _ _ h => h) (Or.inl ⟨by rfl, ?_⟩) ?_ ?_
                  rotate_left
                  ·intro w'
                   go_simp
                   with_reducible rfl
                  rotate_left
                  ·simp only [Act.put, List.setIfInBounds_toArray, List.set_cons_zero, List.set_cons_succ, i64_w, i32_w]
                   rfl
                  refine one_ (i := 16) (N := none) #[true, true, true, true, true, true, true, true, true, true, true, true, true, true, true, true, true] rfl rfl (one_of HT_.out (by kernel_rfl)) (by decide) (fun K hK => ?_)
                  have hs61 : w60.cell? ⟨gb363, 0, none⟩ = some (.int .i64 0) := (blk_cell BK363.out 0).trans rfl
                  have hfs61 := blk_frozen BK363.out 0
                  have hns61_0 := NB343_363.out
                  have hns61_1 := NB351_363.out
                  have hms61_0 := NB363_343.out
                  have hms61_1 := NB363_351.out
                  have hs62 : w60.cell? ⟨gb363, 1, none⟩ = some (.int .i64 0) := (blk_cell BK363.out 1).trans rfl
                  have hfs62 := blk_frozen BK363.out 1
                  have hns62_0 := NB343_363.out
                  have hns62_1 := NB351_363.out
                  have hms62_0 := NB363_343.out
                  have hms62_1 := NB363_351.out
                  refine skip_ (w1 := ?_) (by rfl) rfl ?_ ?_
                  rotate_left
                  ·go_simp
                   rfl
                  refine hK.out _ _ ⟨((cell_far (p := ⟨gb363, _, none⟩) NB343_363.out _).trans (((cell_far (p := ⟨gb363, _, none⟩) NB343_363.out _).trans (hHeld.1)))), ((cell_far (p := ⟨gb363, _, none⟩) NB343_363.out _).trans (((cell_far (p := ⟨gb363, _, none⟩) NB343_363.out _).trans (hHeld.2))))⟩ (fun hHeld => ?_)
                  clear hK K
                  refine done_ (done_of HT_.out (by kernel_rfl)) ?_
                  have n0_ : Aside0 (Kd.S k44 44 ((w60.setCell ⟨gb363, 0, none⟩ (.int .i64 t361)).setCell ⟨gb363, 1, none⟩ (.int .i64 t362)) w.heap.size (fun k_ => some k_ ≠ (v359 : Value).ownBlock) v347 t346) := ⟨by (with_reducible repeat (first | apply Kd.S_alloc | apply Kd.S_drewN | apply Kd.S_drew)); exact Kd.S_mono (Kd.S_far (p := ⟨gb363, 1, none⟩) (Kd.S_far (p := ⟨gb363, 0, none⟩) (Kd.S_types HO_7.out BK363.out (by decide)) (fun _ hk => hk.2) (.int .i64 t361)) (fun _ hk => hk.2) (.int .i64 t362)) (fun _ hk => hk.1)⟩
                  have n1_ : Aside0 (Kd.S k44 44 ((w60.setCell ⟨gb363, 0, none⟩ (.int .i64 t361)).setCell ⟨gb363, 1, none⟩ (.int .i64 t362)) w.heap.size (fun k_ => some k_ ≠ (v347 : Value).ownBlock) v359 t358) := ⟨by (with_reducible repeat (first | apply Kd.S_alloc | apply Kd.S_drewN | apply Kd.S_drew)); exact Kd.S_mono (Kd.S_far (p := ⟨gb363, 1, none⟩) (Kd.S_far (p := ⟨gb363, 0, none⟩) (Kd.S_types HO360.out BK363.out (by decide)) (fun _ hk => hk.2) (.int .i64 t361)) (fun _ hk => hk.2) (.int .i64 t362)) (fun _ hk => hk.1)⟩
                  have n2_ : Aside0 (((w60.setCell ⟨gb363, 0, none⟩ (.int .i64 t361)).setCell ⟨gb363, 1, none⟩ (.int .i64 t362)).heap[gb343]? = some (.cells #[.int .i64 a2_0, .int .i64 a2_1] 50 (0, 0))) := ⟨by (with_reducible repeat (first | refine blk_drewN ?_ _ | refine blk_drew ?_ | refine blk_alloc ?_ _)); refine blk_far ?_ NB343_363.out _; (with_reducible repeat (first | refine blk_drewN ?_ _ | refine blk_drew ?_ | refine blk_alloc ?_ _)); refine blk_far ?_ NB343_363.out _; (with_reducible repeat (first | refine blk_drewN ?_ _ | refine blk_drew ?_ | refine blk_alloc ?_ _)); exact BK343.out⟩
                  have n3_ : Aside0 (((w60.setCell ⟨gb363, 0, none⟩ (.int .i64 t361)).setCell ⟨gb363, 1, none⟩ (.int .i64 t362)).heap[gb351]? = some (.cells #[.int .i64 t349, .int .i64 t350] 28 (0, 0))) := ⟨by (with_reducible repeat (first | refine blk_drewN ?_ _ | refine blk_drew ?_ | refine blk_alloc ?_ _)); refine blk_far ?_ NB351_363.out _; (with_reducible repeat (first | refine blk_drewN ?_ _ | refine blk_drew ?_ | refine blk_alloc ?_ _)); refine blk_far ?_ NB351_363.out _; (with_reducible repeat (first | refine blk_drewN ?_ _ | refine blk_drew ?_ | refine blk_alloc ?_ _)); exact BK351.out⟩
                  have n4_ : Aside0 (((w60.setCell ⟨gb363, 0, none⟩ (.int .i64 t361)).setCell ⟨gb363, 1, none⟩ (.int .i64 t362)).heap[gb363]? = some (.cells #[.int .i64 t361, .int .i64 t362] 28 (0, 0))) := ⟨by (with_reducible repeat (first | refine blk_drewN ?_ _ | refine blk_drew ?_ | refine blk_alloc ?_ _)); refine blk_put (cs := #[.int .i64 t361, .int .i64 0]) ?_ 1 _ rfl; (with_reducible repeat (first | refine blk_drewN ?_ _ | refine blk_drew ?_ | refine blk_alloc ?_ _)); refine blk_put (cs := #[.int .i64 0, .int .i64 0]) ?_ 0 _ rfl; (with_reducible repeat (first | refine blk_drewN ?_ _ | refine blk_drew ?_ | refine blk_alloc ?_ _)); exact BK363.out⟩
                  have n5_ : Aside0 (Below w.heap.size w ((w60.setCell ⟨gb363, 0, none⟩ (.int .i64 t361)).setCell ⟨gb363, 1, none⟩ (.int .i64 t362))) := ⟨by repeat (first | (with_reducible first | exact HB.out | apply below_alloc | apply pw_below_drewN | apply below_drew1 | refine below_set ?_ GE343.out | refine below_set ?_ GE351.out | refine below_set ?_ GE363.out) | exact HB.out)⟩
                  (try clear HO_7)
                  (try clear HO360)
                  (try clear BK343)
                  (try clear BK351)
                  (try clear BK363)
                  (try clear HB)
                  generalize ((w60.setCell ⟨gb363, 0, none⟩ (.int .i64 t361)).setCell ⟨gb363, 1, none⟩ (.int .i64 t362)) = w63 at n0_ n1_ n2_ n3_ n4_ n5_ ⊢
                  have HO_7 := n0_
                  have HO360 := n1_
                  have BK343 := n2_
                  have BK351 := n3_
                  have BK363 := n4_
                  have HB := n5_
                  clear n0_ n1_ n2_ n3_ n4_ n5_
                  have hnb64 := NB363_343.out
                  have hnc64 := NB343_363.out
                  have hnb65 := NB363_351.out
                  have hnc65 := NB351_363.out
                  obtain ⟨⟨hcz66_0, hfz66_0⟩, hcz66_1, hfz66_1⟩ := cs2_ BK363.out
                  have hnb67 := NB343_351.out
                  have hnc67 := NB351_343.out
                  obtain ⟨⟨hcz68_0, hfz68_0⟩, hcz68_1, hfz68_1⟩ := cs2_ BK343.out
                  obtain ⟨Ao70, co70, eo70⟩ := Kd.S_slice HO_7.out
                  subst eo70
                  have q69 : (a2_0 : Int) ≤ ((t346.length : Int) : Int) := of_decide_eq_true (by first | (with_reducible assumption) | assumption)
                  obtain ⟨i069, hi069, _, hsz69, _⟩ := info_parts info44
                  have hroom69 : t346.length ≤ co70 := (Kd.S_reads' HO_7.out).2.1
                  have hC69 : Kd.C k44 _ Ao70 t346.length t346 := (Kd.S_reads' HO_7.out).2.2
                  have hcut69 := cut_to (P := Try.prog) 25 44 .i64 Try.underlying25 hi069 Ao70 t346.length co70 a2_0 (of_decide_eq_true (by first | (with_reducible assumption) | assumption)) q69 hroom69
                  have hr69 := Kd.C_take (m := (a2_0 : Int).toNat) hC69 (by omega)
                  have hy69 : y364.length = (a2_0 : Int).toNat := (by rw [Ny364.out, List.length_take]; omega)
                  rw [← Ny364.out] at hr69
                  rw [← hy69] at hcut69
                  have HR367 := Aside0.mk hr69
                  have HC367 := Aside0.mk (show y364.length ≤ co70 from by omega)
                  clear hr69 hC69 hroom69 hi069 hsz69
                  have KY69 := Aside0.mk hy69
                  clear hy69
                  have KL69 := Aside0.mk (show (a2_0 : Int).toNat ≤ t346.length from by omega)
                  replace q69 := eq_true q69
                  obtain ⟨Ao71, co71, eo71⟩ := Kd.S_slice HO360.out
                  subst eo71
                  try go_wp2_with (first | (go_at_call 10; (with_reducible refine (variorumref12_Same.calls kj39 _ _ t358 _ _ y364 t368 _ ?side1 ?side2 ?side3 ?side4 A54.out).mono ?_); (case side1 => repeat (first | exact (Kd.S_reads' HO360.out).2.2 | (with_reducible refine Kd.C_alloc ?_ _) | (with_reducible refine Kd.C_drewN ?_ _) | (with_reducible refine Kd.C_drew ?_))); (case side2 => exact (Kd.S_reads' HO360.out).2.1); (case side3 => repeat (first | exact (by repeat (first | (with_reducible exact HR367.out) | (with_reducible refine Kd.C_alloc ?_ _) | (with_reducible refine Kd.C_drewN ?_ _) | (with_reducible refine Kd.C_drew ?_) | exact HR367.out)) | (with_reducible refine Kd.C_alloc ?_ _) | (with_reducible refine Kd.C_drewN ?_ _) | (with_reducible refine Kd.C_drew ?_))); (case side4 => exact HC367.out); rintro e w72 ⟨rfl, hb⟩; have n0_ := Aside0.mk (Kd.S_below (sv_ HO_7.out) hb); have n1_ := Aside0.mk (Kd.S_below (sv_ HO360.out) hb); have n2_ := Aside0.mk (kb_ BK343.out hb); have n3_ := Aside0.mk (kb_ BK351.out hb); have n4_ := Aside0.mk (kb_ BK363.out hb); have n5_ := Aside0.mk (Kd.C_below (by repeat (first | (with_reducible exact HR367.out) | (with_reducible refine Kd.C_alloc ?_ _) | (with_reducible refine Kd.C_drewN ?_ _) | (with_reducible refine Kd.C_drew ?_) | exact HR367.out)) hb); have n6_ := Aside0.mk (below_step (by repeat (first | (with_reducible first | exact HB.out | apply below_alloc | apply pw_below_drewN | apply below_drew1 | refine below_set ?_ GE343.out | refine below_set ?_ GE351.out | refine below_set ?_ GE363.out) | exact HB.out)) hb); clear HO_7; clear HO360; clear BK343; clear BK351; clear BK363; clear HR367; clear HB; have HO_7 := n0_; have HO360 := n1_; have BK343 := n2_; have BK351 := n3_; have BK363 := n4_; have HR367 := n5_; have HB := n6_; clear n0_ n1_ n2_ n3_ n4_ n5_ n6_; (try clear hb); (try clear hb2); (try clear hk); (try clear hi)))
                  go_ret
                  exact ⟨by first | rfl | (simp [errW_none, errW_some] <;> rfl) | (simp only [← hji37, ← hji45]; first | rfl | (simp [errW_none, errW_some] <;> rfl)) | (simp [*, errW_none, errW_some] <;> rfl), by repeat (first | (with_reducible first | exact HB.out | apply below_alloc | apply pw_below_drewN | apply below_drew1 | refine below_set ?_ GE343.out | refine below_set ?_ GE351.out | refine below_set ?_ GE363.out) | exact HB.out)⟩
                 ·rw [if_neg c53] at H
                  exact absurd H (by simp)
                ·rw [if_neg c51] at H
                 exact absurd H (by simp)
               ·rw [if_neg c49] at H
                exact absurd H (by simp)
              ·rw [if_neg c48] at H
               exact absurd H (by simp)
             ·rw [if_neg c47] at H
              exact absurd H (by simp)
            ·rw [if_neg c46] at H
             exact absurd H (by simp)
        ·rw [if_neg c39] at H
         exact absurd H (by simp)
       ·rw [if_neg c38] at H
        exact absurd H (by simp)

/-- The one statement about numbers and lists that is left of the law. -/
def variorumlaw12_SetterFirst.Pure : Prop := ∀ (x0 : List (S40)) (x1 : List Int) (x2 : S50), (x0.length * 72 ≤ 140737488351232 ∧ ∀ y0 ∈ x0, ((Lit.int .i64 y0.f0).wf = true ∧ (((Lit.int .i64 y0.f1.f0).wf = true ∧ ((Lit.int .i64 y0.f1.f1).wf = true ∧ ((Lit.int .i64 y0.f1.f2).wf = true ∧ ((Lit.int .i64 y0.f1.f3).wf = true)))) ∧ ((Lit.int .i64 y0.f2).wf = true ∧ (True ∧ ((Lit.int .i64 y0.f4).wf = true ∧ ((Lit.int .i64 y0.f5).wf = true))))))) → (x1.length * 8 ≤ 140737488351232 ∧ ∀ y0 ∈ x1, (Lit.int .i64 y0).wf = true) → ((Lit.int .i64 x2.f0).wf = true ∧ ((Lit.int .i64 x2.f1).wf = true)) → ∃ k, variorumlaw12_SetterFirst.f k x0 x1 x2.f0 x2.f1 = some true

end Go.Proofs.Ytpfnfofaajpdmaa.PKe

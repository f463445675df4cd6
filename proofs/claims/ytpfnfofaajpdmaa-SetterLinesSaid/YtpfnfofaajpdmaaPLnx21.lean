/- Written by a program of this session: functions of the given program as plain Lean functions, the walks that show it, and the row of each law, for every input that its statement speaks of. -/
import Derived.Test.YtpfnfofaajpdmaaPLnx0
import Derived.Test.YtpfnfofaajpdmaaPLnx12
import Derived.Test.YtpfnfofaajpdmaaPLnx15
import Derived.Test.YtpfnfofaajpdmaaPLnx18
import Derived.Test.YtpfnfofaajpdmaaPLnx20
namespace Go.Proofs.Ytpfnfofaajpdmaa.PLn
open Go.RowKit Go.Proofs.YtpfnfofaajpdmaaW.PrintWords Go.Proofs.YtpfnfofaajpdmaaW.PrintLast Go.Proofs.YtpfnfofaajpdmaaW.PrintMore
attribute [local go_sem] max2_int min2_int max_two min_two max_three min_three max_four min_four   -- for this text's walks alone
set_option linter.unusedVariables false
set_option linter.unusedSimpArgs false

/-! ### variorumref12_Lines: function 9 -/
def variorumref12_Lines.l0 : Nat → List (S40) → List Int → Int → List (S44) → Int → Int → Option ((List (S44)) × Int × Int)
 | 0, _, _, _, _, _, _ => none
 | k + 1, x0, x1, x2, x8, x9, x10 => if x10 < (x1.length : Int) then (if 0 ≤ x10 then ((variorumref10_Line.f k x0 x9 (rd x1 x10) x2).bind fun bt461 => (if bt461.2.2.2.2 = true then ((variorumref12_Line.f k x0 x9 (rd x1 x10) x2).bind fun bt468 => (if x8.length < 2199023255552 then (variorumref12_Lines.l0 k x0 x1 x2 (x8 ++ [(⟨bt468.1, bt468.2.1, bt468.2.2.1, bt468.2.2.2.1, bt468.2.2.2.2.1, bt468.2.2.2.2.2⟩ : S44)]) (rd x1 x10) (wrap64 (x10 + 1))) else (none))) else (some (([] : List (S44)), 120, x10)))) else (none)) else (if (x1.length : Int) = 0 then (some (([] : List (S44)), 120, (x1.length : Int))) else (if x9 = (wrap64 ((x0.length : Int) - 1)) then (some (x8, 0, 0)) else (some (([] : List (S44)), 120, (x1.length : Int)))))
def variorumref12_Lines.f (k : Nat) (l0 : List (S40)) (l1 : List Int) (a2 : Int) : Option ((List (S44)) × Int × Int) := (variorumref09_May.f k l0).bind fun t456 => (if t456 = true then (variorumref12_Lines.l0 k l0 l1 a2 (([] : List (S44))) (-1) 0) else (some (([] : List (S44)), 90, 0)))
theorem variorumref12_Lines.mono_l : ∀ k, (∀ y0 y1 y2 y3 y4 y5, LeO (variorumref12_Lines.l0 k y0 y1 y2 y3 y4 y5) (variorumref12_Lines.l0 (k + 1) y0 y1 y2 y3 y4 y5))
 | 0 => fun _ _ _ _ _ _ r h => by simp [variorumref12_Lines.l0] at h
 | k + 1 => by
  have ih0 := variorumref12_Lines.mono_l k
  ·intro y0 y1 y2 y3 y4 y5
   unfold variorumref12_Lines.l0
   repeat' first | (with_reducible first | exact ih0 _ _ _ _ _ _ | exact variorumref09_May.mono _ _ | exact variorumref10_Line.mono _ _ _ _ _ | exact variorumref12_Line.mono _ _ _ _ _ | exact LeO.refl _ | exact LeO.none _ | refine LeO.ite ?_ ?_ | refine LeO.bind ?_ (fun _ => ?_)) | exact LeO.none _ | refine LeO.ite ?_ ?_ | refine LeO.bind ?_ (fun _ => ?_)
theorem variorumref12_Lines.mono : ∀ a0 a1 a2 k, LeO (variorumref12_Lines.f k a0 a1 a2) (variorumref12_Lines.f (k + 1) a0 a1 a2) := by
 intro a0 a1 a2 k
 have ih0 := variorumref12_Lines.mono_l k
 unfold variorumref12_Lines.f
 repeat' first
   | (with_reducible exact ih0 _ _ _ _ _ _)
   | (with_reducible exact variorumref09_May.mono _ _)
   | (with_reducible exact variorumref10_Line.mono _ _ _ _ _)
   | (with_reducible exact variorumref12_Line.mono _ _ _ _ _)
   | (with_reducible exact LeO.refl _)
   | (with_reducible exact LeO.none _)
   | (with_reducible refine LeO.ite ?_ ?_)
   | (with_reducible refine LeO.bind ?_ (fun _ => ?_))
   | exact ih0 _ _ _ _ _ _
   | exact variorumref09_May.mono _ _
   | exact variorumref10_Line.mono _ _ _ _ _
   | exact variorumref12_Line.mono _ _ _ _ _
   | exact LeO.none _
   | refine LeO.ite ?_ ?_
   | refine LeO.bind ?_ (fun _ => ?_)
set_option maxHeartbeats 8000000 in
set_option maxRecDepth 100000 in
theorem variorumref12_Lines.calls (k : Nat) (A0 : Option Addr) (c0 : Nat) (l0 : List (S40)) (A1 : Option Addr) (c1 : Nat) (l1 : List Int) (a2 : Int) (r1 : List (S44)) (r2 : Int) (r3 : Int) (w : World) (hr0 : Kd.C k40 w A0 l0.length l0) (hc0 : l0.length ≤ c0) (hr1 : Kd.C (Kd.int .i64) w A1 l1.length l1) (hc1 : l1.length ≤ c1) (h : variorumref12_Lines.f k l0 l1 a2 = some (r1, r2, r3)) :
  Calls Try.prog 9 #[.slice A0 l0.length c0, .slice A1 l1.length c1, .int .i64 a2] w fun e w' => ∃ v0_ : Value, e = .returned (.tuple #[v0_, .agg #[.int .i64 r2, .int .i64 r3]]) ∧ Kd.S k44 44 w' w.heap.size (fun _ => True) v0_ r1 ∧ Below w.heap.size w w' := by
 have hu28 := Try.underlying28
 have hu56 := Try.underlying56
 have HR0 := a_ hr0
 have HC0 := a_ hc0
 clear hr0 hc0
 have HR1 := a_ hr1
 have HC1 := a_ hc1
 clear hr1 hc1
 have HB := a_ (Below.refl w.heap.size w)
 have H : ((variorumref09_May.f k l0).bind fun t456 => (if t456 = true then (variorumref12_Lines.l0 k l0 l1 a2 (([] : List (S44))) (-1) 0) else (some (([] : List (S44)), 90, 0)))) = some (r1, r2, r3) := h
 clear h
 replace H := Option.bind_eq_some_iff.mp H
 obtain ⟨t456, A40, H⟩ := H
 replace H : (if t456 = true then (variorumref12_Lines.l0 k l0 l1 a2 (([] : List (S44))) (-1) 0) else (some (([] : List (S44)), 90, 0))) = some (r1, r2, r3) := H
 have A4 := a_ A40
 clear A40
 by_cases c5 : t456 = true
 ·subst c5
  have H1 : (variorumref12_Lines.l0 k l0 l1 a2 (([] : List (S44))) (-1) 0) = some (r1, r2, r3) := by rw [if_pos rfl] at H; exact H
  clear H
  have H := H1
  clear H1
  obtain ⟨y457, hy457⟩ : ∃ y_ : List (S44), y_ = (([] : List (S44))) := ⟨_, rfl⟩
  replace H : (variorumref12_Lines.l0 k l0 l1 a2 y457 (-1) 0) = some (r1, r2, r3) := by first | (rw [hy457]; with_reducible exact H) | (have H2_ := (Option.bind_some _ _).symm.trans H; rw [hy457]; with_reducible exact H2_) | (have H2_ := (Option.bind_some _ _).symm.trans H; with_reducible exact H2_) | with_reducible exact H | (rw [hy457]; exact H) | exact H
  have Ny457 := a_ hy457
  clear hy457
  have H' := a_ H
  clear H
  go_enter Try.func9, Try.ntmps9
  go_wp2_with (first | ((with_reducible refine gate_dst (N := 7) rfl ?_); (try (refine gate_guard (by rfl) ?_; dsimp only)); refine box_event ?hg (N := 7) ?hd (cs := #[.int .i64 0, .int .i64 0]) (t := 28) ?hr ?_; (case hd => rfl); (case hg => rfl); (case hr => first | (go_simp; done) | (go_simp; rfl)); intro gb455 hg w6 hbox hb; have n0_ := a_ (bs_ HB.out hb); have n1_ := a_ (hbox); have n2_ := a_ ((by rw [hg]; exact (below_size (bv_ HB.out)) : w.heap.size ≤ gb455)); have n3_ := a_ ((by rw [hg]; exact (below_size (bv_ HB.out)) : w.heap.size ≤ gb455)); clear HB; have HB := n0_; have BK455 := n1_; have GW455 := n2_; have GE455 := n3_; clear n0_ n1_ n2_ n3_; clear hb hbox hg) | ((with_reducible refine gate_callee (f := 15) rfl ?_); refine gl_ (some 14) Try.func15 (by kernel_rfl) #[.slice A0 l0.length c0] ?_; (with_reducible refine (variorumref09_May.calls k _ _ l0 true _ ?side1 ?side2 A4.out).mono ?_); (case side1 => exact cw_ HR0.out HB.out); (case side2 => exact HC0.out); rintro e w7 ⟨rfl, hb⟩; refine ⟨_, rfl, ?_⟩; have n0_ := a_ (kb_ BK455.out hb); have n1_ := a_ (below_step (bS1_ HB.out GE455.out) hb); clear BK455; clear HB; have BK455 := n0_; have HB := n1_; clear n0_ n1_; (try clear hb); (try clear hb2); (try clear hk); (try clear hi)) | ((with_reducible refine gate_dst (N := 17) rfl ?_); (try (refine gate_guard (by rfl) ?_; dsimp only)); refine Kd.S_lit k44 _ 44 ?hg (N := 17) ?hd (xs := ([] : List (S44))) (inner := []) (ok := fun _ => True) (okp := fun _ => True) ?hr ?hp (fun _ hk => hk) trivial (Below.refl _ _) (Nat.le_refl _) (by simp) ?_; (case hd => rfl); (case hg => rfl); (case hr => first | (go_simp; done) | (go_simp; rfl)); (case hp => exact (Reps.none _ _)); intro v458 w8 ho9 hb hg_ hnew_; clear hg_ hnew_; (first | rw [← Ny457.out] at ho9 | (simp only [Int.reduceToNat] at ho9; rw [← Ny457.out] at ho9)); have n0_ := a_ (Kd.S_lower ho9 (below_size (bS1_ HB.out GE455.out))); have n1_ := a_ (kb_ BK455.out hb); have n2_ := a_ (below_step (bS1_ HB.out GE455.out) hb); clear BK455; clear HB; have HO459 := n0_; have BK455 := n1_; have HB := n2_; clear n0_ n1_ n2_; clear hb ho9))
  go_loopg [8, 9, 10] k (fun kq v8 v9 v10 w' => ∃ (x8_1 : List (S44)) (x9_1 : Int) (x10_1 : Int) (x456000_1 : Int) (x456001_1 : Int), v9 = .int .i64 x9_1 ∧ v10 = .int .i64 x10_1 ∧ Aside0 (variorumref12_Lines.l0 kq l0 l1 a2 x8_1 x9_1 x10_1 = some (r1, r2, r3)) ∧ Aside0 (kq ≤ k) ∧ Aside0 (Kd.S k44 44 w' w.heap.size (fun _ => True) v8 x8_1) ∧ Aside0 (w'.heap[gb455]? = some (.cells #[.int .i64 x456000_1, .int .i64 x456001_1] 28 (0, 0))) ∧ Aside0 (Below w.heap.size w w'))
  case atStart => exact ⟨(y457), ((-1)), (0), (0), (0), (by first | rfl | (simp; done) | (simp [*]; done)), (by first | rfl | (simp; done) | (simp [*]; done)), H', ⟨Nat.le_refl _⟩, ⟨by (with_reducible repeat (first | apply Kd.S_alloc | apply Kd.S_drewN | apply Kd.S_drew)); exact HO459.out⟩, ⟨kv_ BK455.out⟩, ⟨bS1_ HB.out GE455.out⟩⟩
  case round =>
   clear H'
   try clear c1
   try clear p2
   try clear c5
   try clear c9
   obtain ⟨x8_1, x9_1, x10_1, x456000_1, x456001_1, rfl, rfl, HA, HK1, HO_8, BK455, HB⟩ := hrel
   cases gk with
   | zero => exact absurd HA.out (by simp [variorumref12_Lines.l0])
   | succ k1 =>
    have H := HA.out
    clear HA
    simp only [variorumref12_Lines.l0] at H
    by_cases c10 : x10_1 < (l1.length : Int)
    ·rw [if_pos c10] at H
     have c10b0 : decide (x10_1 < (l1.length : Int)) = true := decide_eq_true c10
     clear c10
     by_cases c11 : 0 ≤ x10_1
     ·rw [if_pos c11] at H
      have c11b0 : decide (0 ≤ x10_1) = true := decide_eq_true c11
      clear c11
      replace H := Option.bind_eq_some_iff.mp H
      obtain ⟨⟨t461, t462, t463, t464, t465⟩, A120, H⟩ := H
      replace H : (if t465 = true then ((variorumref12_Line.f k1 l0 x9_1 (rd l1 x10_1) a2).bind fun bt468 => (if x8_1.length < 2199023255552 then (variorumref12_Lines.l0 k1 l0 l1 a2 (x8_1 ++ [(⟨bt468.1, bt468.2.1, bt468.2.2.1, bt468.2.2.2.1, bt468.2.2.2.2.1, bt468.2.2.2.2.2⟩ : S44)]) (rd l1 x10_1) (wrap64 (x10_1 + 1))) else (none))) else (some (([] : List (S44)), 120, x10_1))) = some (r1, r2, r3) := H
      have A12 := a_ A120
      clear A120
      by_cases c13 : t465 = true
      ·subst c13
       have H1 : ((variorumref12_Line.f k1 l0 x9_1 (rd l1 x10_1) a2).bind fun bt468 => (if x8_1.length < 2199023255552 then (variorumref12_Lines.l0 k1 l0 l1 a2 (x8_1 ++ [(⟨bt468.1, bt468.2.1, bt468.2.2.1, bt468.2.2.2.1, bt468.2.2.2.2.1, bt468.2.2.2.2.2⟩ : S44)]) (rd l1 x10_1) (wrap64 (x10_1 + 1))) else (none))) = some (r1, r2, r3) := by rw [if_pos rfl] at H; exact H
       clear H
       have H := H1
       clear H1
       replace H := Option.bind_eq_some_iff.mp H
       obtain ⟨⟨t468, t469, t470, t473, t474, t475⟩, A140, H⟩ := H
       replace H : (if x8_1.length < 2199023255552 then (variorumref12_Lines.l0 k1 l0 l1 a2 (x8_1 ++ [(⟨t468, t469, t470, t473, t474, t475⟩ : S44)]) (rd l1 x10_1) (wrap64 (x10_1 + 1))) else (none)) = some (r1, r2, r3) := H
       have A14 := a_ A140
       clear A140
       by_cases c15 : x8_1.length < 2199023255552
       ·rw [if_pos c15] at H
        have LMc15 := a_ c15
        clear c15
        obtain ⟨y476, hy476⟩ : ∃ y_ : List (S44), y_ = (x8_1 ++ [(⟨t468, t469, t470, t473, t474, t475⟩ : S44)]) := ⟨_, rfl⟩
        replace H : (variorumref12_Lines.l0 k1 l0 l1 a2 y476 (rd l1 x10_1) (wrap64 (x10_1 + 1))) = some (r1, r2, r3) := by first | (rw [hy476]; with_reducible exact H) | (have H2_ := (Option.bind_some _ _).symm.trans H; rw [hy476]; with_reducible exact H2_) | (have H2_ := (Option.bind_some _ _).symm.trans H; with_reducible exact H2_) | with_reducible exact H | (rw [hy476]; exact H) | exact H
        have Ny476 := a_ hy476
        clear hy476
        have H' := a_ H
        clear H
        have p460 : 0 ≤ (x10_1 : Int) := od_
        have q460 : x10_1 < (l1.length : Int) := od_
        obtain ⟨ad460, e460, hx460_0⟩ := Kd.at_int HR1.out x10_1 p460 q460
        cases e460
        try replace hx460_0 := up_ HB.out hx460_0
        replace p460 := eq_true p460
        replace q460 := eq_true q460
        go_wp2_with (first | ((with_reducible refine gate_callee (f := 20) rfl ?_); refine gl_ (some 32) Try.func20 (by kernel_rfl) #[.slice A0 l0.length c0, .int .i64 x9_1, .int .i64 (rd l1 x10_1), .int .i64 a2] ?_; (with_reducible refine (variorumref10_Line.calls k1 _ _ l0 x9_1 (rd l1 x10_1) a2 t461 t462 t463 t464 true _ ?side1 ?side2 A12.out).mono ?_); (case side1 => exact cw_ HR0.out HB.out); (case side2 => exact HC0.out); rintro e w16 ⟨rfl, hb⟩; refine ⟨_, rfl, ?_⟩; have n0_ := a_ (Kd.S_below (sv_ HO_8.out) hb); have n1_ := a_ (kb_ BK455.out hb); have n2_ := a_ (below_step (bS1_ HB.out GE455.out) hb); clear HO_8; clear BK455; clear HB; have HO_8 := n0_; have BK455 := n1_; have HB := n2_; clear n0_ n1_ n2_; (try clear hb); (try clear hb2); (try clear hk); (try clear hi)) | ((with_reducible refine gate_dst (N := 11) rfl ?_); (try (refine gate_guard (by rfl) ?_; dsimp only)); refine box_event ?hg (N := 11) ?hd (cs := #[.int .i64 0, .int .i64 0, .int .i64 0, .int .i64 0]) (t := 56) ?hr ?_; (case hd => rfl); (case hg => rfl); (case hr => first | (go_simp; done) | (go_simp; rfl)); intro gb466 hg w17 hbox hb; have n0_ := a_ (Kd.S_below (sv_ HO_8.out) hb); have n1_ := a_ (kb_ BK455.out hb); have n2_ := a_ (below_step (bS1_ HB.out GE455.out) hb); have n3_ := a_ (hbox); have n4_ := a_ ((by rw [hg]; exact (below_size (bS1_ HB.out GE455.out)) : w.heap.size ≤ gb466)); have n5_ := a_ ((by rw [hg]; exact (below_size (bS1_ HB.out GE455.out)) : w.heap.size ≤ gb466)); have n6_ := a_ ((by rw [hg]; exact Nat.ne_of_lt (blk_lt (kv_ BK455.out)) : gb455 ≠ gb466)); have n7_ := a_ ((by rw [hg]; exact Nat.ne_of_gt (blk_lt (kv_ BK455.out)) : gb466 ≠ gb455)); clear HO_8; clear BK455; clear HB; have HO_8 := n0_; have BK455 := n1_; have HB := n2_; have BK466 := n3_; have GW466 := n4_; have GE466 := n5_; have NB455_466 := n6_; have NB466_455 := n7_; clear n0_ n1_ n2_ n3_ n4_ n5_ n6_ n7_; clear hb hbox hg; have hnb18 := NB466_455.out; have hnc18 := NB455_466.out; obtain ⟨⟨Z19_0, Y19_0⟩, ⟨Z19_1, Y19_1⟩, ⟨Z19_2, Y19_2⟩, Z19_3, Y19_3⟩ := cs4_ BK466.out; have p467 : 0 ≤ (x10_1 : Int) := od_; have q467 : x10_1 < (l1.length : Int) := od_; obtain ⟨ad467, e467, hx467_0⟩ := Kd.at_int HR1.out x10_1 p467 q467; obtain rfl : ad460 = ad467 := (by injection e467); have hn467_0 : ad460.block ≠ gb466 := Nat.ne_of_lt (Nat.lt_of_lt_of_le (by have := World.block_lt_of_cell? _ _ hx467_0; first | rwa [add_block] at this | exact this) GW466.out); have hn467_1 : ad460.block ≠ gb466 := Nat.ne_of_lt (Nat.lt_of_lt_of_le (by have := World.block_lt_of_cell? _ _ hx467_0; first | rwa [add_block] at this | exact this) GW466.out); have hn467_2 : ad460.block ≠ gb466 := Nat.ne_of_lt (Nat.lt_of_lt_of_le (by have := World.block_lt_of_cell? _ _ hx467_0; first | rwa [add_block] at this | exact this) GW466.out); have hn467_3 : ad460.block ≠ gb466 := Nat.ne_of_lt (Nat.lt_of_lt_of_le (by have := World.block_lt_of_cell? _ _ hx467_0; first | rwa [add_block] at this | exact this) GW466.out); replace hx467_0 := up_ HB.out hx467_0; replace hx467_0 := (cell_far (p := ⟨gb466, 0, none⟩) (by first | (rw [add_block]; exact hn467_0) | (show (Addr.add _ _).block ≠ _; rw [add_block]; exact hn467_0) | exact hn467_0) (.int .i64 t461)).trans hx467_0; replace hx467_0 := (cell_far (p := ⟨gb466, 1, none⟩) (by first | (rw [add_block]; exact hn467_1) | (show (Addr.add _ _).block ≠ _; rw [add_block]; exact hn467_1) | exact hn467_1) (.int .i64 t462)).trans hx467_0; replace hx467_0 := (cell_far (p := ⟨gb466, 2, none⟩) (by first | (rw [add_block]; exact hn467_2) | (show (Addr.add _ _).block ≠ _; rw [add_block]; exact hn467_2) | exact hn467_2) (.int .i64 t463)).trans hx467_0; replace hx467_0 := (cell_far (p := ⟨gb466, 3, none⟩) (by first | (rw [add_block]; exact hn467_3) | (show (Addr.add _ _).block ≠ _; rw [add_block]; exact hn467_3) | exact hn467_3) (.int .i64 t464)).trans hx467_0; clear hn467_0; clear hn467_1; clear hn467_2; clear hn467_3; replace p467 := eq_true p467; replace q467 := eq_true q467) | ((with_reducible refine gate_callee (f := 21) rfl ?_); refine gl_ (some 47) Try.func21 (by kernel_rfl) #[.slice A0 l0.length c0, .int .i64 x9_1, .int .i64 (rd l1 x10_1), .int .i64 a2] ?_; (with_reducible refine (variorumref12_Line.calls k1 _ _ l0 x9_1 (rd l1 x10_1) a2 t468 t469 t470 t473 t474 t475 _ ?side1 ?side2 A14.out).mono ?_); (case side1 => exact Kd.C_below HR0.out (bS2_ HB.out GE455.out GE466.out)); (case side2 => exact HC0.out); rintro e w20 ⟨v471, rfl, ho0, hb⟩; refine ⟨_, rfl, ?_⟩; have n0_ := a_ (Kd.S_elder' (by (with_reducible repeat (first | apply Kd.S_alloc | apply Kd.S_drewN | apply Kd.S_drew)); exact (Kd.S_mono (Kd.S_far (p := ⟨gb466, 3, none⟩) (Kd.S_far (p := ⟨gb466, 2, none⟩) (Kd.S_far (p := ⟨gb466, 1, none⟩) (Kd.S_far (p := ⟨gb466, 0, none⟩) (Kd.S_types HO_8.out BK466.out (by decide)) (fun _ hk => hk.2) (.int .i64 t461)) (fun _ hk => hk.2) (.int .i64 t462)) (fun _ hk => hk.2) (.int .i64 t463)) (fun _ hk => hk.2) (.int .i64 t464)) (fun _ h_ => h_.1))) (Kd.R_base ho0) hb); have n1_ := a_ (Kd.R_lower ho0 (below_size (bS2_ HB.out GE455.out GE466.out))); have n2_ := a_ (blk_below (kf1_ BK455.out NB455_466.out) hb); have n3_ := a_ (blk_below (g := gb466) (o := .cells #[.int .i64 t461, .int .i64 t462, .int .i64 t463, .int .i64 t464] 56 (0, 0)) (kp0_ BK466.out) hb); have n4_ := a_ (below_step (bS2_ HB.out GE455.out GE466.out) hb); clear HO_8; clear BK455; clear BK466; clear HB; have HO_8 := n0_; have HO472 := n1_; have BK455 := n2_; have BK466 := n3_; have HB := n4_; clear n0_ n1_ n2_ n3_ n4_; (try clear hb); (try clear hb2); (try clear hk); (try clear hi); (try clear ho0); obtain ⟨Ao22, co22, eo22⟩ := Kd.R_slice HO472.out; subst eo22) | ((with_reducible refine gate_builtin (b := .append) (xs := #[.tmp 39, .tmp 48]) rfl ?_); (try (refine gate_guard (by rfl) ?_; dsimp only)); at_builtin; refine Kd.S_append k44 (w0 := w) w.heap.size rfl (.tmp 39) (.tmp 48) 25 44 (.agg #[(.int .i64 0), (.int .i64 0), (.slice none 0 0), (.bool false), (.int .i64 0), (.int .i64 0)]) 64 rfl Try.underlying25 info44 rfl (by decide) (by omega) u8 x8_1 (⟨t468, t469, t470, t473, t474, t475⟩ : S44) [.int .i64 t468, .int .i64 t469, .slice Ao22 t470.length co22, .bool t473, .int .i64 t474, .int .i64 t475] (fun _ => True) (fun k_ => some k_ = (.slice Ao22 t470.length co22 : Value).ownBlock) rfl rfl ?aP (fun k_ hk_ => ((Kd.R_mono (ok' := fun k_ => ((fun _ => True)) k_ ∧ some k_ ≠ (u8 : Value).ownBlock) (Kd.R_apart' (HO472.out) (Kd.S_typed HO_8.out) (by decide)) (fun k_ hk => ⟨trivial, hk.2⟩))).1 k_ hk_.symm) ?aF ?aO ?aB ?aS ?aL ?_; (case aP => exact k44_mkM _ _ _ (⟨t468, t469, t470, t473, t474, t475⟩ : S44) (Kd.R_mono (Kd.R_tight rfl (Kd.R_mono (ok' := fun k_ => ((fun _ => True)) k_ ∧ some k_ ≠ (u8 : Value).ownBlock) (Kd.R_apart' (HO472.out) (Kd.S_typed HO_8.out) (by decide)) (fun k_ hk => ⟨trivial, hk.2⟩))) (fun _ h_ => h_))); (case aB => exact (bS2_ HB.out GE455.out GE466.out)); (case aF => exact (fun _ _ => trivial)); (case aO => exact (by (with_reducible repeat (first | apply Kd.S_alloc | apply Kd.S_drewN | apply Kd.S_drew)); exact Kd.S_mono HO_8.out (fun k_ hk => ⟨trivial, fun e_ => hk.2 e_⟩))); (case aS => exact (below_size (bS2_ HB.out GE455.out GE466.out))); (case aL => have := LMc15.out; omega); intro v477 w21 ho hb hg hat; rw [← Ny476.out] at ho; have n0_ := a_ (blk_grown (g := gb455) (o := .cells #[.int .i64 x456000_1, .int .i64 x456001_1] 28 (0, 0)) (kv_ BK455.out) hg (Kd.S_ne HO_8.out BK455.out (by decide))); have n1_ := a_ (blk_grown (g := gb466) (o := .cells #[.int .i64 t461, .int .i64 t462, .int .i64 t463, .int .i64 t464] 56 (0, 0)) (kv_ BK466.out) hg (Kd.S_ne HO_8.out BK466.out (by decide))); have n2_ := a_ (hb); have n3_ := a_ (ho); clear BK455; clear BK466; clear HB; clear HO_8; clear HO472; have BK455 := n0_; have BK466 := n1_; have HB := n2_; have HO478 := n3_; clear n0_ n1_ n2_ n3_; clear ho hb hg hat; have p479 : 0 ≤ (x10_1 : Int) := od_; have q479 : x10_1 < (l1.length : Int) := od_; obtain ⟨ad479, e479, hx479_0⟩ := Kd.at_int HR1.out x10_1 p479 q479; obtain rfl : ad460 = ad479 := (by injection e479); replace hx479_0 := up_ HB.out hx479_0; replace p479 := eq_true p479; replace q479 := eq_true q479))
        go_roundg k1
        case measure => have := HK1.out; omega
        case rel => exact ⟨(y476), (rd l1 x10_1), (wrap64 (x10_1 + 1)), (x456000_1), (x456001_1), (by first | rfl | (simp; done) | (simp [*]; done)), (by first | rfl | (simp; done) | (simp [*]; done)), H', ⟨by have := HK1.out; omega⟩, ⟨by (with_reducible repeat (first | apply Kd.S_alloc | apply Kd.S_drewN | apply Kd.S_drew)); exact HO478.out⟩, ⟨kv_ BK455.out⟩, ⟨bS2_ HB.out GE455.out GE466.out⟩⟩
       ·rw [if_neg c15] at H
        exact absurd H (by simp)
      ·replace c13 := Bool.eq_false_iff.mpr c13
       subst c13
       have H1 : (some (([] : List (S44)), 120, x10_1)) = some (r1, r2, r3) := by rw [if_neg (show ¬ (false = true) by decide)] at H; exact H
       clear H
       have H := H1
       clear H1
       simp only [Option.some.injEq, Prod.mk.injEq] at H
       obtain ⟨rfl, rfl, rfl⟩ := H
       have p460 : 0 ≤ (x10_1 : Int) := od_
       have q460 : x10_1 < (l1.length : Int) := od_
       obtain ⟨ad460, e460, hx460_0⟩ := Kd.at_int HR1.out x10_1 p460 q460
       cases e460
       try replace hx460_0 := up_ HB.out hx460_0
       replace p460 := eq_true p460
       replace q460 := eq_true q460
       go_wp2_with (first | ((with_reducible refine gate_callee (f := 20) rfl ?_); refine gl_ (some 32) Try.func20 (by kernel_rfl) #[.slice A0 l0.length c0, .int .i64 x9_1, .int .i64 (rd l1 x10_1), .int .i64 a2] ?_; (with_reducible refine (variorumref10_Line.calls k1 _ _ l0 x9_1 (rd l1 x10_1) a2 t461 t462 t463 t464 false _ ?side1 ?side2 A12.out).mono ?_); (case side1 => exact cw_ HR0.out HB.out); (case side2 => exact HC0.out); rintro e w23 ⟨rfl, hb⟩; refine ⟨_, rfl, ?_⟩; have n0_ := a_ (Kd.S_below (sv_ HO_8.out) hb); have n1_ := a_ (kb_ BK455.out hb); have n2_ := a_ (below_step (bS1_ HB.out GE455.out) hb); clear HO_8; clear BK455; clear HB; have HO_8 := n0_; have BK455 := n1_; have HB := n2_; clear n0_ n1_ n2_; (try clear hb); (try clear hb2); (try clear hk); (try clear hi)) | ((with_reducible refine gate_dst (N := 11) rfl ?_); (try (refine gate_guard (by rfl) ?_; dsimp only)); refine box_event ?hg (N := 11) ?hd (cs := #[.int .i64 0, .int .i64 0, .int .i64 0, .int .i64 0]) (t := 56) ?hr ?_; (case hd => rfl); (case hg => rfl); (case hr => first | (go_simp; done) | (go_simp; rfl)); intro gb466 hg w24 hbox hb; have n0_ := a_ (Kd.S_below (sv_ HO_8.out) hb); have n1_ := a_ (kb_ BK455.out hb); have n2_ := a_ (below_step (bS1_ HB.out GE455.out) hb); have n3_ := a_ (hbox); have n4_ := a_ ((by rw [hg]; exact (below_size (bS1_ HB.out GE455.out)) : w.heap.size ≤ gb466)); have n5_ := a_ ((by rw [hg]; exact (below_size (bS1_ HB.out GE455.out)) : w.heap.size ≤ gb466)); have n6_ := a_ ((by rw [hg]; exact Nat.ne_of_lt (blk_lt (kv_ BK455.out)) : gb455 ≠ gb466)); have n7_ := a_ ((by rw [hg]; exact Nat.ne_of_gt (blk_lt (kv_ BK455.out)) : gb466 ≠ gb455)); clear HO_8; clear BK455; clear HB; have HO_8 := n0_; have BK455 := n1_; have HB := n2_; have BK466 := n3_; have GW466 := n4_; have GE466 := n5_; have NB455_466 := n6_; have NB466_455 := n7_; clear n0_ n1_ n2_ n3_ n4_ n5_ n6_ n7_; clear hb hbox hg; have hnb25 := NB466_455.out; have hnc25 := NB455_466.out; obtain ⟨⟨Z26_0, Y26_0⟩, ⟨Z26_1, Y26_1⟩, ⟨Z26_2, Y26_2⟩, Z26_3, Y26_3⟩ := cs4_ BK466.out; obtain ⟨⟨Z27_0, Y27_0⟩, Z27_1, Y27_1⟩ := cs2_ BK455.out))
       refine bodyPost_ret (results_tc rfl _ _ gb455 28 #[.int .i64 120, .int .i64 x10_1] (0, 0) _ rfl (kp1_ BK455.out NB455_466.out) Try.underlying28 rfl (by kernel_rfl)) rfl ?_
       exact ⟨_, by first | rfl | (simp [errW_none, errW_some] <;> rfl) | (simp [*, errW_none, errW_some] <;> rfl), by first | exact Kd.S_nil _ _ _ _ _ | exact Kd.N_nil _ _ _ _ _ | exact Kd.V_nil _ _ _ _ _ | exact Kd.Q_nil _ _ _ _ _ | exact Kd.R_nil _ _ _ _ _, bS2_ HB.out GE455.out GE466.out⟩
     ·rw [if_neg c11] at H
      exact absurd H (by simp)
    ·rw [if_neg c10] at H
     have c10b0 : decide (x10_1 < (l1.length : Int)) = false := decide_eq_false c10
     clear c10
     by_cases c28 : (l1.length : Int) = 0
     ·rw [if_pos c28] at H
      have c28b0 : ((l1.length : Int) == 0) = true := beq_iff_eq.mpr c28
      have c28b1 : ((l1.length : Int) != 0) = false := bne_eq_false_iff_eq.mpr c28
      clear c28
      simp only [Option.some.injEq, Prod.mk.injEq] at H
      obtain ⟨rfl, rfl, rfl⟩ := H
      obtain ⟨⟨Z29_0, Y29_0⟩, Z29_1, Y29_1⟩ := cs2_ BK455.out
      go_wp2
      refine bodyPost_ret (results_tc rfl _ _ gb455 28 #[.int .i64 120, .int .i64 (l1.length : Int)] (0, 0) _ rfl (kp0_ BK455.out) Try.underlying28 rfl (by kernel_rfl)) rfl ?_
      exact ⟨_, by first | rfl | (simp [errW_none, errW_some] <;> rfl) | (simp [*, errW_none, errW_some] <;> rfl), by first | exact Kd.S_nil _ _ _ _ _ | exact Kd.N_nil _ _ _ _ _ | exact Kd.V_nil _ _ _ _ _ | exact Kd.Q_nil _ _ _ _ _ | exact Kd.R_nil _ _ _ _ _, bS1_ HB.out GE455.out⟩
     ·rw [if_neg c28] at H
      have c28b0 : ((l1.length : Int) == 0) = false := beq_eq_false_iff_ne.mpr c28
      have c28b1 : ((l1.length : Int) != 0) = true := bne_iff_ne.mpr c28
      have c28b2 : ¬ (l1 = []) := fun h_ => c28 (by rw [h_]; rfl)
      by_cases c30 : x9_1 = (wrap64 ((l0.length : Int) - 1))
      ·rw [if_pos c30] at H
       have c30b0 : (x9_1 == (wrap64 ((l0.length : Int) - 1))) = true := beq_iff_eq.mpr c30
       have c30b1 : (x9_1 != (wrap64 ((l0.length : Int) - 1))) = false := bne_eq_false_iff_eq.mpr c30
       clear c30
       simp only [Option.some.injEq, Prod.mk.injEq] at H
       obtain ⟨rfl, rfl, rfl⟩ := H
       obtain ⟨⟨Z31_0, Y31_0⟩, Z31_1, Y31_1⟩ := cs2_ BK455.out
       go_wp2
       refine bodyPost_ret (results_tc rfl _ _ gb455 28 #[.int .i64 0, .int .i64 0] (0, 0) _ rfl (kp0_ BK455.out) Try.underlying28 rfl (by kernel_rfl)) rfl ?_
       exact ⟨_, by first | rfl | (simp [errW_none, errW_some] <;> rfl) | (simp [*, errW_none, errW_some] <;> rfl), by (with_reducible repeat (first | apply Kd.S_alloc | apply Kd.S_drewN | apply Kd.S_drew)); exact Kd.S_mono (Kd.S_far (p := ⟨gb455, 1, none⟩) (Kd.S_far (p := ⟨gb455, 0, none⟩) (Kd.S_types HO_8.out BK455.out (by decide)) (fun _ hk => hk.2) (.int .i64 0)) (fun _ hk => hk.2) (.int .i64 0)) (fun _ hk => trivial), bS1_ HB.out GE455.out⟩
      ·rw [if_neg c30] at H
       have c30b0 : (x9_1 == (wrap64 ((l0.length : Int) - 1))) = false := beq_eq_false_iff_ne.mpr c30
       have c30b1 : (x9_1 != (wrap64 ((l0.length : Int) - 1))) = true := bne_iff_ne.mpr c30
       simp only [Option.some.injEq, Prod.mk.injEq] at H
       obtain ⟨rfl, rfl, rfl⟩ := H
       obtain ⟨⟨Z32_0, Y32_0⟩, Z32_1, Y32_1⟩ := cs2_ BK455.out
       go_wp2
       refine bodyPost_ret (results_tc rfl _ _ gb455 28 #[.int .i64 120, .int .i64 (l1.length : Int)] (0, 0) _ rfl (kp0_ BK455.out) Try.underlying28 rfl (by kernel_rfl)) rfl ?_
       exact ⟨_, by first | rfl | (simp [errW_none, errW_some] <;> rfl) | (simp [*, errW_none, errW_some] <;> rfl), by first | exact Kd.S_nil _ _ _ _ _ | exact Kd.N_nil _ _ _ _ _ | exact Kd.V_nil _ _ _ _ _ | exact Kd.Q_nil _ _ _ _ _ | exact Kd.R_nil _ _ _ _ _, bS1_ HB.out GE455.out⟩
 ·replace c5 := Bool.eq_false_iff.mpr c5
  subst c5
  have H1 : (some (([] : List (S44)), 90, 0)) = some (r1, r2, r3) := by rw [if_neg (show ¬ (false = true) by decide)] at H; exact H
  clear H
  have H := H1
  clear H1
  simp only [Option.some.injEq, Prod.mk.injEq] at H
  obtain ⟨rfl, rfl, rfl⟩ := H
  go_enter Try.func9, Try.ntmps9
  go_wp2_with (first | ((with_reducible refine gate_dst (N := 7) rfl ?_); (try (refine gate_guard (by rfl) ?_; dsimp only)); refine box_event ?hg (N := 7) ?hd (cs := #[.int .i64 0, .int .i64 0]) (t := 28) ?hr ?_; (case hd => rfl); (case hg => rfl); (case hr => first | (go_simp; done) | (go_simp; rfl)); intro gb455 hg w33 hbox hb; have n0_ := a_ (bs_ HB.out hb); have n1_ := a_ (hbox); have n2_ := a_ ((by rw [hg]; exact (below_size (bv_ HB.out)) : w.heap.size ≤ gb455)); have n3_ := a_ ((by rw [hg]; exact (below_size (bv_ HB.out)) : w.heap.size ≤ gb455)); clear HB; have HB := n0_; have BK455 := n1_; have GW455 := n2_; have GE455 := n3_; clear n0_ n1_ n2_ n3_; clear hb hbox hg) | ((with_reducible refine gate_callee (f := 15) rfl ?_); refine gl_ (some 14) Try.func15 (by kernel_rfl) #[.slice A0 l0.length c0] ?_; (with_reducible refine (variorumref09_May.calls k _ _ l0 false _ ?side1 ?side2 A4.out).mono ?_); (case side1 => exact cw_ HR0.out HB.out); (case side2 => exact HC0.out); rintro e w34 ⟨rfl, hb⟩; refine ⟨_, rfl, ?_⟩; have n0_ := a_ (kb_ BK455.out hb); have n1_ := a_ (below_step (bS1_ HB.out GE455.out) hb); clear BK455; clear HB; have BK455 := n0_; have HB := n1_; clear n0_ n1_; (try clear hb); (try clear hb2); (try clear hk); (try clear hi); obtain ⟨⟨Z35_0, Y35_0⟩, Z35_1, Y35_1⟩ := cs2_ BK455.out))
  refine bodyPost_ret (results_tc rfl _ _ gb455 28 #[.int .i64 90, .int .i64 0] (0, 0) _ rfl (kp0_ BK455.out) Try.underlying28 rfl (by kernel_rfl)) rfl ?_
  exact ⟨_, by first | rfl | (simp [errW_none, errW_some] <;> rfl) | (simp [*, errW_none, errW_some] <;> rfl), by first | exact Kd.S_nil _ _ _ _ _ | exact Kd.N_nil _ _ _ _ _ | exact Kd.V_nil _ _ _ _ _ | exact Kd.Q_nil _ _ _ _ _ | exact Kd.R_nil _ _ _ _ _, bS1_ HB.out GE455.out⟩

/-! ### variorumref12_Same: function 10 -/
def variorumref12_Same.l0 : Nat → List (S44) → List (S44) → Int → Option (Bool)
 | 0, _, _, _ => none
 | k + 1, x0, x1, x5 => if x5 < (x0.length : Int) then (if 0 ≤ x5 then (if x5 < (x1.length : Int) then (if ((rd_T44 x0 x5).f0) = ((rd_T44 x1 x5).f0) then (if ((rd_T44 x0 x5).f1) = ((rd_T44 x1 x5).f1) then (if (((rd_T44 x0 x5).f3) != ((rd_T44 x1 x5).f3)) = true then (none) else (if ((rd_T44 x0 x5).f4) = ((rd_T44 x1 x5).f4) then (if ((rd_T44 x0 x5).f5) = ((rd_T44 x1 x5).f5) then ((variorumref12_Placed.f k ((rd_T44 x0 x5).f2) ((rd_T44 x1 x5).f2)).bind fun t484 => (if t484 = true then (variorumref12_Same.l0 k x0 x1 (wrap64 (x5 + 1))) else (none))) else (none)) else (none))) else (none)) else (none)) else (none)) else (none)) else (some true)
def variorumref12_Same.f (k : Nat) (l0 : List (S44)) (l1 : List (S44)) : Option (Bool) := if (l0.length : Int) = (l1.length : Int) then (variorumref12_Same.l0 k l0 l1 0) else (none)
theorem variorumref12_Same.mono_l : ∀ k, (∀ y0 y1 y2, LeO (variorumref12_Same.l0 k y0 y1 y2) (variorumref12_Same.l0 (k + 1) y0 y1 y2))
 | 0 => fun _ _ _ r h => by simp [variorumref12_Same.l0] at h
 | k + 1 => by
  have ih0 := variorumref12_Same.mono_l k
  ·intro y0 y1 y2
   unfold variorumref12_Same.l0
   repeat' first | (with_reducible first | exact ih0 _ _ _ | exact variorumref12_Placed.mono _ _ _ | exact LeO.refl _ | exact LeO.none _ | refine LeO.ite ?_ ?_ | refine LeO.bind ?_ (fun _ => ?_)) | exact LeO.none _ | refine LeO.ite ?_ ?_ | refine LeO.bind ?_ (fun _ => ?_)
theorem variorumref12_Same.mono : ∀ a0 a1 k, LeO (variorumref12_Same.f k a0 a1) (variorumref12_Same.f (k + 1) a0 a1) := by
 intro a0 a1 k
 have ih0 := variorumref12_Same.mono_l k
 unfold variorumref12_Same.f
 repeat' first
   | (with_reducible exact ih0 _ _ _)
   | (with_reducible exact variorumref12_Placed.mono _ _ _)
   | (with_reducible exact LeO.refl _)
   | (with_reducible exact LeO.none _)
   | (with_reducible refine LeO.ite ?_ ?_)
   | (with_reducible refine LeO.bind ?_ (fun _ => ?_))
   | exact ih0 _ _ _
   | exact variorumref12_Placed.mono _ _ _
   | exact LeO.none _
   | refine LeO.ite ?_ ?_
   | refine LeO.bind ?_ (fun _ => ?_)
def variorumref12_Same.T6 : Bool × List (List Nat × List Nat) := (true, [([], []), ([], []), ([0, 1], [0, 1]), ([2], [2]), ([], []), ([], []), ([4, 5], [4, 5]), ([6], [6]), ([], []), ([], []), ([8, 3, 0, 1, 2, 3, 8, 9], [3, 8]), ([9, 7, 10, 0, 1, 2, 3, 4, 5, 6, 7, 8, 9, 10], [7, 9])])
def variorumref12_Same.B6 : List Nat := [0, 0, 3, 7, 0, 0, 48, 112, 0, 0, 783, 2047]
theorem variorumref12_Same.tab6 : rtab .any (opsOf Try.f10 6) = variorumref12_Same.T6 := by kernel_rfl
theorem variorumref12_Same.bits6 : waitsOk variorumref12_Same.T6.2 variorumref12_Same.B6 = true := by kernel_rfl
set_option maxHeartbeats 8000000 in
set_option maxRecDepth 100000 in
theorem variorumref12_Same.calls (k : Nat) (A0 : Option Addr) (c0 : Nat) (l0 : List (S44)) (A1 : Option Addr) (c1 : Nat) (l1 : List (S44)) (r : Bool) (w : World) (hr0 : Kd.C k44 w A0 l0.length l0) (hc0 : l0.length ≤ c0) (hr1 : Kd.C k44 w A1 l1.length l1) (hc1 : l1.length ≤ c1) (h : variorumref12_Same.f k l0 l1 = some r) :
  Calls Try.prog 10 #[.slice A0 l0.length c0, .slice A1 l1.length c1] w fun e w' => e = .returned (.bool r) ∧ Below w.heap.size w w' := by
 have hu44 := Try.underlying44
 have HR0 := a_ hr0
 have HC0 := a_ hc0
 clear hr0 hc0
 have HR1 := a_ hr1
 have HC1 := a_ hc1
 clear hr1 hc1
 have HB := a_ (Below.refl w.heap.size w)
 have H : (if (l0.length : Int) = (l1.length : Int) then (variorumref12_Same.l0 k l0 l1 0) else (none)) = some r := h
 clear h
 by_cases c3 : (l0.length : Int) = (l1.length : Int)
 ·rw [if_pos c3] at H
  have c3b0 : ((l0.length : Int) == (l1.length : Int)) = true := beq_iff_eq.mpr c3
  have c3b1 : ((l0.length : Int) != (l1.length : Int)) = false := bne_eq_false_iff_eq.mpr c3
  have c3b2 : (l0.length == l1.length) = true := by first | simpa using c3 | (simp at c3 ⊢; omega)
  clear c3
  have H' := a_ H
  clear H
  go_enter Try.func10, Try.ntmps10
  go_wp2
  go_loopg [5] k (fun kq v5 w' => ∃ (x5_1 : Int), v5 = .int .i64 x5_1 ∧ Aside0 (variorumref12_Same.l0 kq l0 l1 x5_1 = some r) ∧ Aside0 (kq ≤ k) ∧ Aside0 (Below w.heap.size w w'))
  case atStart => exact ⟨(0), (by first | rfl | (simp; done) | (simp [*]; done)), H', ⟨Nat.le_refl _⟩, ⟨bv_ HB.out⟩⟩
  case round =>
   clear H'
   try clear c1
   try clear p2
   try clear c3
   try clear c3b0
   try clear c3b1
   try clear c3b2
   obtain ⟨x5_1, rfl, HA, HK1, HB⟩ := hrel
   cases gk with
   | zero => exact absurd HA.out (by simp [variorumref12_Same.l0])
   | succ k1 =>
    have H := HA.out
    clear HA
    simp only [variorumref12_Same.l0] at H
    by_cases c4 : x5_1 < (l0.length : Int)
    ·rw [if_pos c4] at H
     have c4b0 : decide (x5_1 < (l0.length : Int)) = true := decide_eq_true c4
     clear c4
     by_cases c5 : 0 ≤ x5_1
     ·rw [if_pos c5] at H
      have c5b0 : decide (0 ≤ x5_1) = true := decide_eq_true c5
      clear c5
      by_cases c6 : x5_1 < (l1.length : Int)
      ·rw [if_pos c6] at H
       have c6b0 : decide (x5_1 < (l1.length : Int)) = true := decide_eq_true c6
       clear c6
       by_cases c7 : ((rd_T44 l0 x5_1).f0) = ((rd_T44 l1 x5_1).f0)
       ·rw [if_pos c7] at H
        have c7b0 : (((rd_T44 l0 x5_1).f0) == ((rd_T44 l1 x5_1).f0)) = true := beq_iff_eq.mpr c7
        have c7b1 : (((rd_T44 l0 x5_1).f0) != ((rd_T44 l1 x5_1).f0)) = false := bne_eq_false_iff_eq.mpr c7
        clear c7
        by_cases c8 : ((rd_T44 l0 x5_1).f1) = ((rd_T44 l1 x5_1).f1)
        ·rw [if_pos c8] at H
         have c8b0 : (((rd_T44 l0 x5_1).f1) == ((rd_T44 l1 x5_1).f1)) = true := beq_iff_eq.mpr c8
         have c8b1 : (((rd_T44 l0 x5_1).f1) != ((rd_T44 l1 x5_1).f1)) = false := bne_eq_false_iff_eq.mpr c8
         clear c8
         by_cases c9 : (((rd_T44 l0 x5_1).f3) != ((rd_T44 l1 x5_1).f3)) = true
         ·rw [if_pos c9] at H
          exact absurd H (by simp)
         ·rw [if_neg c9] at H
          have c9b0 : (((rd_T44 l0 x5_1).f3) != ((rd_T44 l1 x5_1).f3)) = false := by simpa using c9
          (try (have c9b1 : decide (((rd_T44 l0 x5_1).f3) = ((rd_T44 l1 x5_1).f3)) = true := by simpa using c9))
          (try (have c9b2 : (((rd_T44 l0 x5_1).f3) == ((rd_T44 l1 x5_1).f3)) = true := by simpa using c9))
          clear c9
          by_cases c10 : ((rd_T44 l0 x5_1).f4) = ((rd_T44 l1 x5_1).f4)
          ·rw [if_pos c10] at H
           have c10b0 : (((rd_T44 l0 x5_1).f4) == ((rd_T44 l1 x5_1).f4)) = true := beq_iff_eq.mpr c10
           have c10b1 : (((rd_T44 l0 x5_1).f4) != ((rd_T44 l1 x5_1).f4)) = false := bne_eq_false_iff_eq.mpr c10
           clear c10
           by_cases c11 : ((rd_T44 l0 x5_1).f5) = ((rd_T44 l1 x5_1).f5)
           ·rw [if_pos c11] at H
            have c11b0 : (((rd_T44 l0 x5_1).f5) == ((rd_T44 l1 x5_1).f5)) = true := beq_iff_eq.mpr c11
            have c11b1 : (((rd_T44 l0 x5_1).f5) != ((rd_T44 l1 x5_1).f5)) = false := bne_eq_false_iff_eq.mpr c11
            clear c11
            replace H := Option.bind_eq_some_iff.mp H
            obtain ⟨t484, A120, H⟩ := H
            replace H : (if t484 = true then (variorumref12_Same.l0 k1 l0 l1 (wrap64 (x5_1 + 1))) else (none)) = some r := H
            have A12 := a_ A120
            clear A120
            by_cases c13 : t484 = true
            ·subst c13
             have H1 : (variorumref12_Same.l0 k1 l0 l1 (wrap64 (x5_1 + 1))) = some r := by rw [if_pos rfl] at H; exact H
             clear H
             have H := H1
             clear H1
             have H' := a_ H
             clear H
             try go_wp2
             have n0_ := a_ (below_drew1 HB.out)
             clear HB
             have HB := n0_
             clear n0_
             have p480 : 0 ≤ (x5_1 : Int) := od_
             have q480 : x5_1 < (l0.length : Int) := od_
             obtain ⟨ad480, A480_2, c480_2, e480, hx480_0, hx480_1, hx480_2, hx480_3, hx480_4, hx480_5, hl480_2, hi480_2⟩ := at_T44 HR0.out x5_1 p480 q480
             have hw480_5 := hx480_5
             have hw480_4 := hx480_4
             have hw480_3 := hx480_3
             have hw480_2 := hx480_2
             have hw480_1 := hx480_1
             have hw480_0 := hx480_0
             cases e480
             try replace hx480_0 := up_ HB.out hx480_0
             try replace hx480_1 := up_ HB.out hx480_1
             try replace hx480_2 := up_ HB.out hx480_2
             try replace hx480_3 := up_ HB.out hx480_3
             try replace hx480_4 := up_ HB.out hx480_4
             try replace hx480_5 := up_ HB.out hx480_5
             have HR480_2 := a_ hi480_2
             have HC480_2 := a_ hl480_2
             clear hi480_2 hl480_2
             replace p480 := eq_true p480
             replace q480 := eq_true q480
             have p481 : 0 ≤ (x5_1 : Int) := od_
             have q481 : x5_1 < (l1.length : Int) := od_
             obtain ⟨ad481, A481_2, c481_2, e481, hx481_0, hx481_1, hx481_2, hx481_3, hx481_4, hx481_5, hl481_2, hi481_2⟩ := at_T44 HR1.out x5_1 p481 q481
             have hw481_5 := hx481_5
             have hw481_4 := hx481_4
             have hw481_3 := hx481_3
             have hw481_2 := hx481_2
             have hw481_1 := hx481_1
             have hw481_0 := hx481_0
             cases e481
             try replace hx481_0 := up_ HB.out hx481_0
             try replace hx481_1 := up_ HB.out hx481_1
             try replace hx481_2 := up_ HB.out hx481_2
             try replace hx481_3 := up_ HB.out hx481_3
             try replace hx481_4 := up_ HB.out hx481_4
             try replace hx481_5 := up_ HB.out hx481_5
             have HR481_2 := a_ hi481_2
             have HC481_2 := a_ hl481_2
             clear hi481_2 hl481_2
             replace p481 := eq_true p481
             replace q481 := eq_true q481
             refine start_ (n := 12) (S := fun w' => w'.cell? (ad480.add ((x5_1).toNat * 6)) = some (.int .i64 ((rd_T44 l0 x5_1).f0)) ∧ w'.cell? ⟨(ad480.add ((x5_1).toNat * 6)).block, (ad480.add ((x5_1).toNat * 6)).off + 1, none⟩ = some (.int .i64 ((rd_T44 l0 x5_1).f1)) ∧ w'.cell? ⟨(ad480.add ((x5_1).toNat * 6)).block, (ad480.add ((x5_1).toNat * 6)).off + 2, none⟩ = some (.slice A480_2 ((rd_T44 l0 x5_1).f2).length c480_2) ∧ w'.cell? ⟨(ad480.add ((x5_1).toNat * 6)).block, (ad480.add ((x5_1).toNat * 6)).off + 3, none⟩ = some (.bool ((rd_T44 l0 x5_1).f3)) ∧ w'.cell? ⟨(ad480.add ((x5_1).toNat * 6)).block, (ad480.add ((x5_1).toNat * 6)).off + 4, none⟩ = some (.int .i64 ((rd_T44 l0 x5_1).f4)) ∧ w'.cell? ⟨(ad480.add ((x5_1).toNat * 6)).block, (ad480.add ((x5_1).toNat * 6)).off + 5, none⟩ = some (.int .i64 ((rd_T44 l0 x5_1).f5)) ∧ w'.cell? (ad481.add ((x5_1).toNat * 6)) = some (.int .i64 ((rd_T44 l1 x5_1).f0)) ∧ w'.cell? ⟨(ad481.add ((x5_1).toNat * 6)).block, (ad481.add ((x5_1).toNat * 6)).off + 1, none⟩ = some (.int .i64 ((rd_T44 l1 x5_1).f1)) ∧ w'.cell? ⟨(ad481.add ((x5_1).toNat * 6)).block, (ad481.add ((x5_1).toNat * 6)).off + 2, none⟩ = some (.slice A481_2 ((rd_T44 l1 x5_1).f2).length c481_2) ∧ w'.cell? ⟨(ad481.add ((x5_1).toNat * 6)).block, (ad481.add ((x5_1).toNat * 6)).off + 3, none⟩ = some (.bool ((rd_T44 l1 x5_1).f3)) ∧ w'.cell? ⟨(ad481.add ((x5_1).toNat * 6)).block, (ad481.add ((x5_1).toNat * 6)).off + 4, none⟩ = some (.int .i64 ((rd_T44 l1 x5_1).f4)) ∧ w'.cell? ⟨(ad481.add ((x5_1).toNat * 6)).block, (ad481.add ((x5_1).toNat * 6)).off + 5, none⟩ = some (.int .i64 ((rd_T44 l1 x5_1).f5))) (ds := []) #[false, false, false, false, false, false, false, false, false, false, false, false] (by kernel_rfl) rfl rfl ⟨(up_ HB.out hw480_0), (up_ HB.out hw480_1), (up_ HB.out hw480_2), (up_ HB.out hw480_3), (up_ HB.out hw480_4), (up_ HB.out hw480_5), (up_ HB.out hw481_0), (up_ HB.out hw481_1), (up_ HB.out hw481_2), (up_ HB.out hw481_3), (up_ HB.out hw481_4), (up_ HB.out hw481_5)⟩ (fun hHeld => ?_); refine with_tabW variorumref12_Same.tab6 variorumref12_Same.bits6 (fun HT_ HW_ => ?_)
             generalize wr.drew = w14 at HB HR480_2 HR481_2 hx480_0 hx480_1 hx480_2 hx480_3 hx480_4 hx480_5 hx481_0 hx481_1 hx481_2 hx481_3 hx481_4 hx481_5 hHeld ⊢
             refine pure_ (i := 0) (N := some 19) #[true, false, false, false, false, false, false, false, false, false, false, false] rfl rfl (any_of HT_.out (by kernel_rfl)) (fun _ _ _ h => h) (Or.inl ⟨by rfl, fun w' => by go_simp; with_reducible rfl⟩) (by simp only [Act.put, List.setIfInBounds_toArray, List.set_cons_zero, List.set_cons_succ, i64_w, i32_w]; rfl) ?_
             refine pure_ (i := 1) (N := some 20) #[true, true, false, false, false, false, false, false, false, false, false, false] rfl rfl (any_of HT_.out (by kernel_rfl)) (fun _ _ _ h => h) (Or.inl ⟨by rfl, fun w' => by go_simp; with_reducible rfl⟩) (by simp only [Act.put, List.setIfInBounds_toArray, List.set_cons_zero, List.set_cons_succ, i64_w, i32_w]; rfl) ?_
             refine pure_ (i := 2) (N := some 21) #[true, true, true, false, false, false, false, false, false, false, false, false] rfl rfl (any_of HT_.out (by kernel_rfl)) (fun _ _ _ h => h) (Or.inl ⟨by rfl, fun w' => by go_simp; with_reducible rfl⟩) (by simp only [Act.put, List.setIfInBounds_toArray, List.set_cons_zero, List.set_cons_succ, i64_w, i32_w]; rfl) ?_
             refine pure_ (i := 4) (N := some 23) #[true, true, true, false, true, false, false, false, false, false, false, false] rfl rfl (any_of HT_.out (by kernel_rfl)) (fun _ _ _ h => h) (Or.inl ⟨by rfl, fun w' => by go_simp; with_reducible rfl⟩) (by simp only [Act.put, List.setIfInBounds_toArray, List.set_cons_zero, List.set_cons_succ, i64_w, i32_w]; rfl) ?_
             refine pure_ (i := 5) (N := some 24) #[true, true, true, false, true, true, false, false, false, false, false, false] rfl rfl (any_of HT_.out (by kernel_rfl)) (fun _ _ _ h => h) (Or.inl ⟨by rfl, fun w' => by go_simp; with_reducible rfl⟩) (by simp only [Act.put, List.setIfInBounds_toArray, List.set_cons_zero, List.set_cons_succ, i64_w, i32_w]; rfl) ?_
             refine pure_ (i := 6) (N := some 25) #[true, true, true, false, true, true, true, false, false, false, false, false] rfl rfl (any_of HT_.out (by kernel_rfl)) (fun _ _ _ h => h) (Or.inl ⟨by rfl, fun w' => by go_simp; with_reducible rfl⟩) (by simp only [Act.put, List.setIfInBounds_toArray, List.set_cons_zero, List.set_cons_succ, i64_w, i32_w]; rfl) ?_
             refine take_ (i := 3) (N := some 22) (v := ?_) (a' := ?_) #[true, true, true, true, true, true, true, false, false, false, false, false] rfl rfl (take_ofW HT_.out HW_.out (by kernel_rfl)) (fun _ _ _ h => h) (Or.inl ⟨by rfl, ?_⟩) hHeld ?_ ?_
             rotate_left
             ·rintro w' ⟨s0, s1, s2, s3, s4, s5, s6, s7, s8, s9, s10, s11⟩
              go_simp
              with_reducible rfl
             rotate_left
             ·simp only [Act.put, List.setIfInBounds_toArray, List.set_cons_zero, List.set_cons_succ, i64_w, i32_w]
              rfl
             refine take_ (i := 7) (N := some 26) (v := ?_) (a' := ?_) #[true, true, true, true, true, true, true, true, false, false, false, false] rfl rfl (take_ofW HT_.out HW_.out (by kernel_rfl)) (fun _ _ _ h => h) (Or.inl ⟨by rfl, ?_⟩) hHeld ?_ ?_
             rotate_left
             ·rintro w' ⟨s0, s1, s2, s3, s4, s5, s6, s7, s8, s9, s10, s11⟩
              go_simp
              with_reducible rfl
             rotate_left
             ·simp only [Act.put, List.setIfInBounds_toArray, List.set_cons_zero, List.set_cons_succ, i64_w, i32_w]
              rfl
             refine join_ (σ := Nat × Nat) 2 #[true, true, true, true, true, true, true, true, true, true, false, false] (fun s_ => [(6, .pointer (some ⟨s_.1, 0, none⟩)), (7, .pointer (some ⟨s_.2, 0, none⟩))]) (fun s_ w' => (w'.cell? (ad480.add ((x5_1).toNat * 6)) = some (.int .i64 ((rd_T44 l0 x5_1).f0)) ∧ w'.cell? ⟨(ad480.add ((x5_1).toNat * 6)).block, (ad480.add ((x5_1).toNat * 6)).off + 1, none⟩ = some (.int .i64 ((rd_T44 l0 x5_1).f1)) ∧ w'.cell? ⟨(ad480.add ((x5_1).toNat * 6)).block, (ad480.add ((x5_1).toNat * 6)).off + 2, none⟩ = some (.slice A480_2 ((rd_T44 l0 x5_1).f2).length c480_2) ∧ w'.cell? ⟨(ad480.add ((x5_1).toNat * 6)).block, (ad480.add ((x5_1).toNat * 6)).off + 3, none⟩ = some (.bool ((rd_T44 l0 x5_1).f3)) ∧ w'.cell? ⟨(ad480.add ((x5_1).toNat * 6)).block, (ad480.add ((x5_1).toNat * 6)).off + 4, none⟩ = some (.int .i64 ((rd_T44 l0 x5_1).f4)) ∧ w'.cell? ⟨(ad480.add ((x5_1).toNat * 6)).block, (ad480.add ((x5_1).toNat * 6)).off + 5, none⟩ = some (.int .i64 ((rd_T44 l0 x5_1).f5)) ∧ w'.cell? (ad481.add ((x5_1).toNat * 6)) = some (.int .i64 ((rd_T44 l1 x5_1).f0)) ∧ w'.cell? ⟨(ad481.add ((x5_1).toNat * 6)).block, (ad481.add ((x5_1).toNat * 6)).off + 1, none⟩ = some (.int .i64 ((rd_T44 l1 x5_1).f1)) ∧ w'.cell? ⟨(ad481.add ((x5_1).toNat * 6)).block, (ad481.add ((x5_1).toNat * 6)).off + 2, none⟩ = some (.slice A481_2 ((rd_T44 l1 x5_1).f2).length c481_2) ∧ w'.cell? ⟨(ad481.add ((x5_1).toNat * 6)).block, (ad481.add ((x5_1).toNat * 6)).off + 3, none⟩ = some (.bool ((rd_T44 l1 x5_1).f3)) ∧ w'.cell? ⟨(ad481.add ((x5_1).toNat * 6)).block, (ad481.add ((x5_1).toNat * 6)).off + 4, none⟩ = some (.int .i64 ((rd_T44 l1 x5_1).f4)) ∧ w'.cell? ⟨(ad481.add ((x5_1).toNat * 6)).block, (ad481.add ((x5_1).toNat * 6)).off + 5, none⟩ = some (.int .i64 ((rd_T44 l1 x5_1).f5))) ∧ (w'.heap[s_.1]? = some (.cells #[.int .i64 0, .int .i64 0, .slice none 0 0, .bool false, .int .i64 0, .int .i64 0] 44 (0, 0))) ∧ (w'.heap[s_.2]? = some (.cells #[.int .i64 0, .int .i64 0, .slice none 0 0, .bool false, .int .i64 0, .int .i64 0] 44 (0, 0))) ∧ (w.heap.size ≤ s_.1) ∧ (w.heap.size ≤ s_.1) ∧ (s_.2 ≠ s_.1) ∧ (s_.1 ≠ s_.2) ∧ (w.heap.size ≤ s_.2) ∧ (w.heap.size ≤ s_.2) ∧ (Below w.heap.size w w')) ?_ ?_
             rotate_left
             ·intro hCont
              refine two_ (i := 8) (j := 9) (Ni := some 6) (Nj := some 7) #[true, true, true, true, true, true, true, true, true, false, false, false] #[true, true, true, true, true, true, true, true, false, true, false, false] rfl rfl rfl rfl (two_of HT_.out (by kernel_rfl)) (by decide) (by decide) (fun K hK => ?_) (fun K hK => ?_)
              ·skip
               refine box_step ?hg (N := 6) ?hd (cs := #[.int .i64 0, .int .i64 0, .slice none 0 0, .bool false, .int .i64 0, .int .i64 0]) (t := 44) ?hr ?_; (case hd => rfl); (case hg => rfl); (case hr => first | (go_simp; done) | (go_simp; rfl))
               intro gb482 hg w15 hbox hb
               have n0_ := a_ (bs_ HB.out hb)
               have n1_ := a_ (hbox)
               have n2_ := a_ ((by rw [hg]; exact (below_size (bv_ HB.out)) : w.heap.size ≤ gb482))
               have n3_ := a_ ((by rw [hg]; exact (below_size (bv_ HB.out)) : w.heap.size ≤ gb482))
               clear HB
               have HB := n0_
               have BK482 := n1_
               have GW482 := n2_
               have GE482 := n3_
               clear n0_ n1_ n2_ n3_
               clear hb hbox hg
               refine hK.out _ _ ⟨(up_ HB.out hw480_0), (up_ HB.out hw480_1), (up_ HB.out hw480_2), (up_ HB.out hw480_3), (up_ HB.out hw480_4), (up_ HB.out hw480_5), (up_ HB.out hw481_0), (up_ HB.out hw481_1), (up_ HB.out hw481_2), (up_ HB.out hw481_3), (up_ HB.out hw481_4), (up_ HB.out hw481_5)⟩ (fun hHeld => ?_)
               clear hK K
               refine norm_ (a' := ?_) ?_ ?_
               rotate_left
               ·show Act.put _ (some 6) _ = _
                simp only [Act.put, List.setIfInBounds_toArray, List.set_cons_zero, List.set_cons_succ, i64_w, i32_w]
                rfl
               refine one_ (i := 9) (N := some 7) #[true, true, true, true, true, true, true, true, true, true, false, false] rfl rfl (one_of HT_.out (by kernel_rfl)) (by decide) (fun K hK => ?_)
               refine box_step ?hg (N := 7) ?hd (cs := #[.int .i64 0, .int .i64 0, .slice none 0 0, .bool false, .int .i64 0, .int .i64 0]) (t := 44) ?hr ?_; (case hd => rfl); (case hg => rfl); (case hr => first | (go_simp; done) | (go_simp; rfl))
               intro gb483 hg w16 hbox hb
               have n0_ := a_ (kb_ BK482.out hb)
               have n1_ := a_ (below_step (bS1_ HB.out GE482.out) hb)
               have n2_ := a_ (hbox)
               have n3_ := a_ ((by rw [hg]; exact (below_size (bS1_ HB.out GE482.out)) : w.heap.size ≤ gb483))
               have n4_ := a_ ((by rw [hg]; exact (below_size (bS1_ HB.out GE482.out)) : w.heap.size ≤ gb483))
               have n5_ := a_ ((by rw [hg]; exact Nat.ne_of_lt (blk_lt (kv_ BK482.out)) : gb482 ≠ gb483))
               have n6_ := a_ ((by rw [hg]; exact Nat.ne_of_gt (blk_lt (kv_ BK482.out)) : gb483 ≠ gb482))
               clear BK482
               clear HB
               have BK482 := n0_
               have HB := n1_
               have BK483 := n2_
               have GW483 := n3_
               have GE483 := n4_
               have NB482_483 := n5_
               have NB483_482 := n6_
               clear n0_ n1_ n2_ n3_ n4_ n5_ n6_
               clear hb hbox hg
               refine hK.out _ _ ⟨(up_ HB.out hw480_0), (up_ HB.out hw480_1), (up_ HB.out hw480_2), (up_ HB.out hw480_3), (up_ HB.out hw480_4), (up_ HB.out hw480_5), (up_ HB.out hw481_0), (up_ HB.out hw481_1), (up_ HB.out hw481_2), (up_ HB.out hw481_3), (up_ HB.out hw481_4), (up_ HB.out hw481_5)⟩ (fun hHeld => ?_)
               clear hK K
               refine norm_ (a' := ?_) ?_ ?_
               rotate_left
               ·show Act.put _ (some 7) _ = _
                simp only [Act.put, List.setIfInBounds_toArray, List.set_cons_zero, List.set_cons_succ, i64_w, i32_w]
                rfl
               exact norm_ (by simp only [putAll, Act.put, List.setIfInBounds_toArray, List.set_cons_zero, List.set_cons_succ]) (hCont (gb482, gb483) _ ⟨hHeld, (kv_ BK482.out), (kv_ BK483.out), GW482.out, GE482.out, NB483_482.out, NB482_483.out, GW483.out, GE483.out, (bS2_ HB.out GE482.out GE483.out)⟩)
              ·skip
               refine box_step ?hg (N := 7) ?hd (cs := #[.int .i64 0, .int .i64 0, .slice none 0 0, .bool false, .int .i64 0, .int .i64 0]) (t := 44) ?hr ?_; (case hd => rfl); (case hg => rfl); (case hr => first | (go_simp; done) | (go_simp; rfl))
               intro gb483 hg w15 hbox hb
               have n0_ := a_ (bs_ HB.out hb)
               have n1_ := a_ (hbox)
               have n2_ := a_ ((by rw [hg]; exact (below_size (bv_ HB.out)) : w.heap.size ≤ gb483))
               have n3_ := a_ ((by rw [hg]; exact (below_size (bv_ HB.out)) : w.heap.size ≤ gb483))
               clear HB
               have HB := n0_
               have BK483 := n1_
               have GW483 := n2_
               have GE483 := n3_
               clear n0_ n1_ n2_ n3_
               clear hb hbox hg
               refine hK.out _ _ ⟨(up_ HB.out hw480_0), (up_ HB.out hw480_1), (up_ HB.out hw480_2), (up_ HB.out hw480_3), (up_ HB.out hw480_4), (up_ HB.out hw480_5), (up_ HB.out hw481_0), (up_ HB.out hw481_1), (up_ HB.out hw481_2), (up_ HB.out hw481_3), (up_ HB.out hw481_4), (up_ HB.out hw481_5)⟩ (fun hHeld => ?_)
               clear hK K
               refine norm_ (a' := ?_) ?_ ?_
               rotate_left
               ·show Act.put _ (some 7) _ = _
                simp only [Act.put, List.setIfInBounds_toArray, List.set_cons_zero, List.set_cons_succ, i64_w, i32_w]
                rfl
               refine one_ (i := 8) (N := some 6) #[true, true, true, true, true, true, true, true, true, true, false, false] rfl rfl (one_of HT_.out (by kernel_rfl)) (by decide) (fun K hK => ?_)
               refine box_step ?hg (N := 6) ?hd (cs := #[.int .i64 0, .int .i64 0, .slice none 0 0, .bool false, .int .i64 0, .int .i64 0]) (t := 44) ?hr ?_; (case hd => rfl); (case hg => rfl); (case hr => first | (go_simp; done) | (go_simp; rfl))
               intro gb482 hg w16 hbox hb
               have n0_ := a_ (kb_ BK483.out hb)
               have n1_ := a_ (below_step (bS1_ HB.out GE483.out) hb)
               have n2_ := a_ (hbox)
               have n3_ := a_ ((by rw [hg]; exact (below_size (bS1_ HB.out GE483.out)) : w.heap.size ≤ gb482))
               have n4_ := a_ ((by rw [hg]; exact (below_size (bS1_ HB.out GE483.out)) : w.heap.size ≤ gb482))
               have n5_ := a_ ((by rw [hg]; exact Nat.ne_of_lt (blk_lt (kv_ BK483.out)) : gb483 ≠ gb482))
               have n6_ := a_ ((by rw [hg]; exact Nat.ne_of_gt (blk_lt (kv_ BK483.out)) : gb482 ≠ gb483))
               clear BK483
               clear HB
               have BK483 := n0_
               have HB := n1_
               have BK482 := n2_
               have GW482 := n3_
               have GE482 := n4_
               have NB483_482 := n5_
               have NB482_483 := n6_
               clear n0_ n1_ n2_ n3_ n4_ n5_ n6_
               clear hb hbox hg
               refine hK.out _ _ ⟨(up_ HB.out hw480_0), (up_ HB.out hw480_1), (up_ HB.out hw480_2), (up_ HB.out hw480_3), (up_ HB.out hw480_4), (up_ HB.out hw480_5), (up_ HB.out hw481_0), (up_ HB.out hw481_1), (up_ HB.out hw481_2), (up_ HB.out hw481_3), (up_ HB.out hw481_4), (up_ HB.out hw481_5)⟩ (fun hHeld => ?_)
               clear hK K
               refine norm_ (a' := ?_) ?_ ?_
               rotate_left
               ·show Act.put _ (some 6) _ = _
                simp only [Act.put, List.setIfInBounds_toArray, List.set_cons_zero, List.set_cons_succ, i64_w, i32_w]
                rfl
               exact norm_ (by simp only [putAll, Act.put, List.setIfInBounds_toArray, List.set_cons_zero, List.set_cons_succ]) (hCont (gb482, gb483) _ ⟨hHeld, (kv_ BK482.out), (kv_ BK483.out), GW482.out, GE482.out, NB483_482.out, NB482_483.out, GW483.out, GE483.out, (bS2_ HB.out GE483.out GE482.out)⟩)
             rintro ⟨gb482, gb483⟩ w17 ⟨hS_, h0_, h1_, h2_, h3_, h4_, h5_, h6_, h7_, h8_⟩
             have n0_ : Aside0 (w17.heap[gb482]? = some (.cells #[.int .i64 0, .int .i64 0, .slice none 0 0, .bool false, .int .i64 0, .int .i64 0] 44 (0, 0))) := ⟨h0_⟩
             have n1_ : Aside0 (w17.heap[gb483]? = some (.cells #[.int .i64 0, .int .i64 0, .slice none 0 0, .bool false, .int .i64 0, .int .i64 0] 44 (0, 0))) := ⟨h1_⟩
             have n2_ : Aside0 (w.heap.size ≤ gb482) := ⟨h2_⟩
             have n3_ : Aside0 (w.heap.size ≤ gb482) := ⟨h3_⟩
             have n4_ : Aside0 (gb483 ≠ gb482) := ⟨h4_⟩
             have n5_ : Aside0 (gb482 ≠ gb483) := ⟨h5_⟩
             have n6_ : Aside0 (w.heap.size ≤ gb483) := ⟨h6_⟩
             have n7_ : Aside0 (w.heap.size ≤ gb483) := ⟨h7_⟩
             have n8_ : Aside0 (Below w.heap.size w w17) := ⟨h8_⟩
             clear HB
             clear h0_ h1_ h2_ h3_ h4_ h5_ h6_ h7_ h8_
             have BK482 := n0_
             have BK483 := n1_
             have GW482 := n2_
             have GE482 := n3_
             have NB483_482 := n4_
             have NB482_483 := n5_
             have GW483 := n6_
             have GE483 := n7_
             have HB := n8_
             clear n0_ n1_ n2_ n3_ n4_ n5_ n6_ n7_ n8_
             have hHeld : w17.cell? (ad480.add ((x5_1).toNat * 6)) = some (.int .i64 ((rd_T44 l0 x5_1).f0)) ∧ w17.cell? ⟨(ad480.add ((x5_1).toNat * 6)).block, (ad480.add ((x5_1).toNat * 6)).off + 1, none⟩ = some (.int .i64 ((rd_T44 l0 x5_1).f1)) ∧ w17.cell? ⟨(ad480.add ((x5_1).toNat * 6)).block, (ad480.add ((x5_1).toNat * 6)).off + 2, none⟩ = some (.slice A480_2 ((rd_T44 l0 x5_1).f2).length c480_2) ∧ w17.cell? ⟨(ad480.add ((x5_1).toNat * 6)).block, (ad480.add ((x5_1).toNat * 6)).off + 3, none⟩ = some (.bool ((rd_T44 l0 x5_1).f3)) ∧ w17.cell? ⟨(ad480.add ((x5_1).toNat * 6)).block, (ad480.add ((x5_1).toNat * 6)).off + 4, none⟩ = some (.int .i64 ((rd_T44 l0 x5_1).f4)) ∧ w17.cell? ⟨(ad480.add ((x5_1).toNat * 6)).block, (ad480.add ((x5_1).toNat * 6)).off + 5, none⟩ = some (.int .i64 ((rd_T44 l0 x5_1).f5)) ∧ w17.cell? (ad481.add ((x5_1).toNat * 6)) = some (.int .i64 ((rd_T44 l1 x5_1).f0)) ∧ w17.cell? ⟨(ad481.add ((x5_1).toNat * 6)).block, (ad481.add ((x5_1).toNat * 6)).off + 1, none⟩ = some (.int .i64 ((rd_T44 l1 x5_1).f1)) ∧ w17.cell? ⟨(ad481.add ((x5_1).toNat * 6)).block, (ad481.add ((x5_1).toNat * 6)).off + 2, none⟩ = some (.slice A481_2 ((rd_T44 l1 x5_1).f2).length c481_2) ∧ w17.cell? ⟨(ad481.add ((x5_1).toNat * 6)).block, (ad481.add ((x5_1).toNat * 6)).off + 3, none⟩ = some (.bool ((rd_T44 l1 x5_1).f3)) ∧ w17.cell? ⟨(ad481.add ((x5_1).toNat * 6)).block, (ad481.add ((x5_1).toNat * 6)).off + 4, none⟩ = some (.int .i64 ((rd_T44 l1 x5_1).f4)) ∧ w17.cell? ⟨(ad481.add ((x5_1).toNat * 6)).block, (ad481.add ((x5_1).toNat * 6)).off + 5, none⟩ = some (.int .i64 ((rd_T44 l1 x5_1).f5)) := hS_
             refine norm_ (a' := ?_) ?_ ?_
             rotate_left
             ·simp only [putAll, Act.put, List.setIfInBounds_toArray, List.set_cons_zero, List.set_cons_succ]
              rfl
             refine one_ (i := 10) (N := none) #[true, true, true, true, true, true, true, true, true, true, true, false] rfl rfl (one_of HT_.out (by kernel_rfl)) (by decide) (fun K hK => ?_)
             have hs18 : w17.cell? ⟨gb482, 0, none⟩ = some (.int .i64 0) := (blk_cell BK482.out 0).trans rfl
             have hfs18 := blk_frozen BK482.out 0
             have hns18_1 := NB483_482.out
             have hms18_1 := NB482_483.out
             have hs19 : w17.cell? ⟨gb482, 1, none⟩ = some (.int .i64 0) := (blk_cell BK482.out 1).trans rfl
             have hfs19 := blk_frozen BK482.out 1
             have hns19_1 := NB483_482.out
             have hms19_1 := NB482_483.out
             have hs20 : w17.cell? ⟨gb482, 2, none⟩ = some (.slice none 0 0) := (blk_cell BK482.out 2).trans rfl
             have hfs20 := blk_frozen BK482.out 2
             have hns20_1 := NB483_482.out
             have hms20_1 := NB482_483.out
             have hs21 : w17.cell? ⟨gb482, 3, none⟩ = some (.bool false) := (blk_cell BK482.out 3).trans rfl
             have hfs21 := blk_frozen BK482.out 3
             have hns21_1 := NB483_482.out
             have hms21_1 := NB482_483.out
             have hs22 : w17.cell? ⟨gb482, 4, none⟩ = some (.int .i64 0) := (blk_cell BK482.out 4).trans rfl
             have hfs22 := blk_frozen BK482.out 4
             have hns22_1 := NB483_482.out
             have hms22_1 := NB482_483.out
             have hs23 : w17.cell? ⟨gb482, 5, none⟩ = some (.int .i64 0) := (blk_cell BK482.out 5).trans rfl
             have hfs23 := blk_frozen BK482.out 5
             have hns23_1 := NB483_482.out
             have hms23_1 := NB482_483.out
             refine skip_ (w1 := ?_) (by rfl) rfl ?_ ?_
             rotate_left
             ·go_simp
              rfl
             refine hK.out _ _ ⟨(cc1_ (far_ hw480_0 GW482.out) hHeld.1), (cc1_ (far_ hw480_1 GW482.out) hHeld.2.1), (cc1_ (far_ hw480_2 GW482.out) hHeld.2.2.1), (cc1_ (far_ hw480_3 GW482.out) hHeld.2.2.2.1), (cc1_ (far_ hw480_4 GW482.out) hHeld.2.2.2.2.1), (cc1_ (far_ hw480_5 GW482.out) hHeld.2.2.2.2.2.1), (cc1_ (far_ hw481_0 GW482.out) hHeld.2.2.2.2.2.2.1), (cc1_ (far_ hw481_1 GW482.out) hHeld.2.2.2.2.2.2.2.1), (cc1_ (far_ hw481_2 GW482.out) hHeld.2.2.2.2.2.2.2.2.1), (cc1_ (far_ hw481_3 GW482.out) hHeld.2.2.2.2.2.2.2.2.2.1), (cc1_ (far_ hw481_4 GW482.out) hHeld.2.2.2.2.2.2.2.2.2.2.1), (cc1_ (far_ hw481_5 GW482.out) hHeld.2.2.2.2.2.2.2.2.2.2.2)⟩ (fun hHeld => ?_)
             clear hK K
             refine one_ (i := 11) (N := none) #[true, true, true, true, true, true, true, true, true, true, true, true] rfl rfl (one_of HT_.out (by kernel_rfl)) (by decide) (fun K hK => ?_)
             have hs24 : w17.cell? ⟨gb483, 0, none⟩ = some (.int .i64 0) := (blk_cell BK483.out 0).trans rfl
             have hfs24 := blk_frozen BK483.out 0
             have hns24_0 := NB482_483.out
             have hms24_0 := NB483_482.out
             have hs25 : w17.cell? ⟨gb483, 1, none⟩ = some (.int .i64 0) := (blk_cell BK483.out 1).trans rfl
             have hfs25 := blk_frozen BK483.out 1
             have hns25_0 := NB482_483.out
             have hms25_0 := NB483_482.out
             have hs26 : w17.cell? ⟨gb483, 2, none⟩ = some (.slice none 0 0) := (blk_cell BK483.out 2).trans rfl
             have hfs26 := blk_frozen BK483.out 2
             have hns26_0 := NB482_483.out
             have hms26_0 := NB483_482.out
             have hs27 : w17.cell? ⟨gb483, 3, none⟩ = some (.bool false) := (blk_cell BK483.out 3).trans rfl
             have hfs27 := blk_frozen BK483.out 3
             have hns27_0 := NB482_483.out
             have hms27_0 := NB483_482.out
             have hs28 : w17.cell? ⟨gb483, 4, none⟩ = some (.int .i64 0) := (blk_cell BK483.out 4).trans rfl
             have hfs28 := blk_frozen BK483.out 4
             have hns28_0 := NB482_483.out
             have hms28_0 := NB483_482.out
             have hs29 : w17.cell? ⟨gb483, 5, none⟩ = some (.int .i64 0) := (blk_cell BK483.out 5).trans rfl
             have hfs29 := blk_frozen BK483.out 5
             have hns29_0 := NB482_483.out
             have hms29_0 := NB483_482.out
             refine skip_ (w1 := ?_) (by rfl) rfl ?_ ?_
             rotate_left
             ·go_simp
              rfl
             refine hK.out _ _ ⟨(cc1_ (far_ hw480_0 GW483.out) hHeld.1), (cc1_ (far_ hw480_1 GW483.out) hHeld.2.1), (cc1_ (far_ hw480_2 GW483.out) hHeld.2.2.1), (cc1_ (far_ hw480_3 GW483.out) hHeld.2.2.2.1), (cc1_ (far_ hw480_4 GW483.out) hHeld.2.2.2.2.1), (cc1_ (far_ hw480_5 GW483.out) hHeld.2.2.2.2.2.1), (cc1_ (far_ hw481_0 GW483.out) hHeld.2.2.2.2.2.2.1), (cc1_ (far_ hw481_1 GW483.out) hHeld.2.2.2.2.2.2.2.1), (cc1_ (far_ hw481_2 GW483.out) hHeld.2.2.2.2.2.2.2.2.1), (cc1_ (far_ hw481_3 GW483.out) hHeld.2.2.2.2.2.2.2.2.2.1), (cc1_ (far_ hw481_4 GW483.out) hHeld.2.2.2.2.2.2.2.2.2.2.1), (cc1_ (far_ hw481_5 GW483.out) hHeld.2.2.2.2.2.2.2.2.2.2.2)⟩ (fun hHeld => ?_)
             clear hK K
             refine done_ (done_of HT_.out (by kernel_rfl)) ?_
             have hnb30 := NB482_483.out
             have hnc30 := NB483_482.out
             obtain ⟨⟨Z31_0, Y31_0⟩, ⟨Z31_1, Y31_1⟩, ⟨Z31_2, Y31_2⟩, ⟨Z31_3, Y31_3⟩, ⟨Z31_4, Y31_4⟩, Z31_5, Y31_5⟩ := cs6_ BK482.out
             obtain ⟨⟨Z32_0, Y32_0⟩, ⟨Z32_1, Y32_1⟩, ⟨Z32_2, Y32_2⟩, ⟨Z32_3, Y32_3⟩, ⟨Z32_4, Y32_4⟩, Z32_5, Y32_5⟩ := cs6_ BK483.out
             try go_wp2_with (first | (go_at_call 11; (with_reducible refine (variorumref12_Placed.calls k1 _ _ ((rd_T44 l0 x5_1).f2) _ _ ((rd_T44 l1 x5_1).f2) true _ ?side1 ?side2 ?side3 ?side4 A12.out).mono ?_); (case side1 => exact Kd.C_below HR480_2.out (bS2_ HB.out GE482.out GE483.out)); (case side2 => exact HC480_2.out); (case side3 => exact Kd.C_below HR481_2.out (bS2_ HB.out GE482.out GE483.out)); (case side4 => exact HC481_2.out); rintro e w' ⟨rfl, ⟨nd, rfl⟩⟩))
             go_roundg k1
             case measure => have := HK1.out; omega
             case rel => exact ⟨(wrap64 (x5_1 + 1)), (by first | rfl | (simp; done) | (simp [*]; done)), H', ⟨by have := HK1.out; omega⟩, ⟨bS2_ HB.out GE482.out GE483.out⟩⟩
            ·replace c13 := Bool.eq_false_iff.mpr c13
             subst c13
             have H1 : (none) = some r := by rw [if_neg (show ¬ (false = true) by decide)] at H; exact H
             clear H
             have H := H1
             clear H1
             exact absurd H (by simp)
           ·rw [if_neg c11] at H
            exact absurd H (by simp)
          ·rw [if_neg c10] at H
           exact absurd H (by simp)
        ·rw [if_neg c8] at H
         exact absurd H (by simp)
       ·rw [if_neg c7] at H
        exact absurd H (by simp)
      ·rw [if_neg c6] at H
       exact absurd H (by simp)
     ·rw [if_neg c5] at H
      exact absurd H (by simp)
    ·rw [if_neg c4] at H
     have c4b0 : decide (x5_1 < (l0.length : Int)) = false := decide_eq_false c4
     clear c4
     obtain rfl := Option.some.inj H
     go_wp2
     go_ret
     exact ⟨by first | rfl | (simp [errW_none, errW_some] <;> rfl) | (simp [*, errW_none, errW_some] <;> rfl), bv_ HB.out⟩
 ·rw [if_neg c3] at H
  exact absurd H (by simp)

/-! ### variorumref12_Words: function 13 -/
def variorumref12_Words.l0 : Nat → List (S44) → List (S42) → Int → Option ((List (S42)))
 | 0, _, _, _ => none
 | k + 1, x0, x3, x4 => if x4 < (x0.length : Int) then (if 0 ≤ x4 then (if x3.length + ((rd_T44 x0 x4).f2).length < 4398046511104 then (variorumref12_Words.l0 k x0 (x3 ++ ((rd_T44 x0 x4).f2)) (wrap64 (x4 + 1))) else (none)) else (none)) else (some x3)
def variorumref12_Words.f (k : Nat) (l0 : List (S44)) : Option ((List (S42))) := variorumref12_Words.l0 k l0 (([] : List (S42))) 0
theorem variorumref12_Words.mono_l : ∀ k, (∀ y0 y1 y2, LeO (variorumref12_Words.l0 k y0 y1 y2) (variorumref12_Words.l0 (k + 1) y0 y1 y2))
 | 0 => fun _ _ _ r h => by simp [variorumref12_Words.l0] at h
 | k + 1 => by
  have ih0 := variorumref12_Words.mono_l k
  ·intro y0 y1 y2
   unfold variorumref12_Words.l0
   repeat' first | (with_reducible first | exact ih0 _ _ _ | exact LeO.refl _ | exact LeO.none _ | refine LeO.ite ?_ ?_ | refine LeO.bind ?_ (fun _ => ?_)) | exact LeO.none _ | refine LeO.ite ?_ ?_ | refine LeO.bind ?_ (fun _ => ?_)
theorem variorumref12_Words.mono : ∀ a0 k, LeO (variorumref12_Words.f k a0) (variorumref12_Words.f (k + 1) a0) := by
 intro a0 k
 have ih0 := variorumref12_Words.mono_l k
 unfold variorumref12_Words.f
 repeat' first
   | (with_reducible exact ih0 _ _ _)
   | (with_reducible exact LeO.refl _)
   | (with_reducible exact LeO.none _)
   | (with_reducible refine LeO.ite ?_ ?_)
   | (with_reducible refine LeO.bind ?_ (fun _ => ?_))
   | exact ih0 _ _ _
   | exact LeO.none _
   | refine LeO.ite ?_ ?_
   | refine LeO.bind ?_ (fun _ => ?_)
set_option maxHeartbeats 8000000 in
set_option maxRecDepth 100000 in
theorem variorumref12_Words.calls (k : Nat) (A0 : Option Addr) (c0 : Nat) (l0 : List (S44)) (r : List (S42)) (w : World) (hr0 : Kd.C k44 w A0 l0.length l0) (hc0 : l0.length ≤ c0) (h : variorumref12_Words.f k l0 = some r) :
  Calls Try.prog 13 #[.slice A0 l0.length c0] w fun e w' => ∃ v0_ : Value, e = .returned (v0_) ∧ Kd.R k42 42 w' w.heap.size (fun _ => True) v0_ r ∧ Below w.heap.size w w' := by
 have HR0 := a_ hr0
 have HC0 := a_ hc0
 clear hr0 hc0
 have HB := a_ (Below.refl w.heap.size w)
 have H : (variorumref12_Words.l0 k l0 (([] : List (S42))) 0) = some r := h
 clear h
 obtain ⟨y485, hy485⟩ : ∃ y_ : List (S42), y_ = (([] : List (S42))) := ⟨_, rfl⟩
 replace H : (variorumref12_Words.l0 k l0 y485 0) = some r := by first | (rw [hy485]; with_reducible exact H) | (have H2_ := (Option.bind_some _ _).symm.trans H; rw [hy485]; with_reducible exact H2_) | (have H2_ := (Option.bind_some _ _).symm.trans H; with_reducible exact H2_) | with_reducible exact H | (rw [hy485]; exact H) | exact H
 have Ny485 := a_ hy485
 clear hy485
 have H' := a_ H
 clear H
 go_enter Try.func13, Try.ntmps13
 go_wp2_with (first | ((with_reducible refine gate_dst (N := 5) rfl ?_); refine Kd.R_lit k42 _ 42 ?hg (N := 5) ?hd (xs := ([] : List (S42))) (inner := []) (ok := fun _ => True) (okp := fun _ => True) ?hr ?hp (fun _ hk => hk) trivial (Below.refl _ _) (Nat.le_refl _) (by simp) ?_; (case hd => rfl); (case hg => rfl); (case hr => first | (go_simp; done) | (go_simp; rfl)); (case hp => exact (Reps.none _ _)); intro v486 w2 ho3 hb hg_ hnew_; clear hg_ hnew_; (first | rw [← Ny485.out] at ho3 | (simp only [Int.reduceToNat] at ho3; rw [← Ny485.out] at ho3)); have n0_ := a_ (Kd.R_lower ho3 (below_size (bv_ HB.out))); have n1_ := a_ (bs_ HB.out hb); clear HB; have HO487 := n0_; have HB := n1_; clear n0_ n1_; clear hb ho3))
 go_loopg [3, 4] k (fun kq v3 v4 w' => ∃ (x3_1 : List (S42)) (x4_1 : Int), v4 = .int .i64 x4_1 ∧ Aside0 (variorumref12_Words.l0 kq l0 x3_1 x4_1 = some r) ∧ Aside0 (kq ≤ k) ∧ Aside0 (Kd.R k42 42 w' w.heap.size (fun _ => True) v3 x3_1) ∧ Aside0 (Below w.heap.size w w'))
 case atStart => exact ⟨(y485), (0), (by first | rfl | (simp; done) | (simp [*]; done)), H', ⟨Nat.le_refl _⟩, ⟨by (with_reducible repeat (first | apply Kd.R_alloc | apply Kd.R_drewN | apply Kd.R_drew)); exact HO487.out⟩, ⟨bv_ HB.out⟩⟩
 case round =>
  clear H'
  try clear c1
  try clear p2
  obtain ⟨x3_1, x4_1, rfl, HA, HK1, HO_3, HB⟩ := hrel
  cases gk with
  | zero => exact absurd HA.out (by simp [variorumref12_Words.l0])
  | succ k1 =>
   have H := HA.out
   clear HA
   simp only [variorumref12_Words.l0] at H
   by_cases c4 : x4_1 < (l0.length : Int)
   ·rw [if_pos c4] at H
    have c4b0 : decide (x4_1 < (l0.length : Int)) = true := decide_eq_true c4
    clear c4
    by_cases c5 : 0 ≤ x4_1
    ·rw [if_pos c5] at H
     have c5b0 : decide (0 ≤ x4_1) = true := decide_eq_true c5
     clear c5
     by_cases c6 : x3_1.length + ((rd_T44 l0 x4_1).f2).length < 4398046511104
     ·rw [if_pos c6] at H
      have LMc6 := a_ c6
      clear c6
      obtain ⟨y489, hy489⟩ : ∃ y_ : List (S42), y_ = (x3_1 ++ ((rd_T44 l0 x4_1).f2)) := ⟨_, rfl⟩
      replace H : (variorumref12_Words.l0 k1 l0 y489 (wrap64 (x4_1 + 1))) = some r := by first | (rw [hy489]; with_reducible exact H) | (have H2_ := (Option.bind_some _ _).symm.trans H; rw [hy489]; with_reducible exact H2_) | (have H2_ := (Option.bind_some _ _).symm.trans H; with_reducible exact H2_) | with_reducible exact H | (rw [hy489]; exact H) | exact H
      have Ny489 := a_ hy489
      clear hy489
      have H' := a_ H
      clear H
      have p488 : 0 ≤ (x4_1 : Int) := od_
      have q488 : x4_1 < (l0.length : Int) := od_
      obtain ⟨ad488, A488_2, c488_2, e488, hx488_0, hx488_1, hx488_2, hx488_3, hx488_4, hx488_5, hl488_2, hi488_2⟩ := at_T44 HR0.out x4_1 p488 q488
      cases e488
      try replace hx488_0 := up_ HB.out hx488_0
      try replace hx488_1 := up_ HB.out hx488_1
      try replace hx488_2 := up_ HB.out hx488_2
      try replace hx488_3 := up_ HB.out hx488_3
      try replace hx488_4 := up_ HB.out hx488_4
      try replace hx488_5 := up_ HB.out hx488_5
      have HR488_2 := a_ hi488_2
      have HC488_2 := a_ hl488_2
      clear hi488_2 hl488_2
      replace p488 := eq_true p488
      replace q488 := eq_true q488
      go_wp2_with (first | ((with_reducible refine gate_builtin (b := .append) (xs := #[.tmp 12, .tmp 17]) rfl ?_); at_builtin; refine Kd.R_append_rows k42 (w0 := w) w.heap.size rfl (.tmp 12) (.tmp 17) 33 42 (.agg #[(.int .i64 0), (.int .i64 0), (.int .i64 0), (.int .i64 0)]) 32 rfl Try.underlying33 info42 rfl (by decide) (by omega) u3 x3_1 ((rd_T44 l0 x4_1).f2) _ _ _ (fun _ => True) (fun _ => False) rfl rfl ?aO ?aR (fun _ _ h => h) (fun _ h => h.elim) ?aF ?aB ?aS ?aL ?_; (case aR => exact cw_ HR488_2.out HB.out); (case aB => exact (bv_ HB.out)); (case aF => exact (fun _ _ => trivial)); (case aO => exact (rv_ HO_3.out)); (case aS => exact (below_size (bv_ HB.out))); (case aL => have := LMc6.out; omega); intro v490 w7 ho hb hg hat; rw [← Ny489.out] at ho; have n0_ := a_ (hb); have n1_ := a_ (ho); clear HB; clear HO_3; have HB := n0_; have HO491 := n1_; clear n0_ n1_; clear ho hb hg hat))
      go_roundg k1
      case measure => have := HK1.out; omega
      case rel => exact ⟨(y489), (wrap64 (x4_1 + 1)), (by first | rfl | (simp; done) | (simp [*]; done)), H', ⟨by have := HK1.out; omega⟩, ⟨by (with_reducible repeat (first | apply Kd.R_alloc | apply Kd.R_drewN | apply Kd.R_drew)); exact HO491.out⟩, ⟨bv_ HB.out⟩⟩
     ·rw [if_neg c6] at H
      exact absurd H (by simp)
    ·rw [if_neg c5] at H
     exact absurd H (by simp)
   ·rw [if_neg c4] at H
    have c4b0 : decide (x4_1 < (l0.length : Int)) = false := decide_eq_false c4
    clear c4
    obtain rfl := Option.some.inj H
    go_wp2
    go_ret
    exact ⟨_, by first | rfl | (simp [errW_none, errW_some] <;> rfl) | (simp [*, errW_none, errW_some] <;> rfl), by (with_reducible repeat (first | apply Kd.R_alloc | apply Kd.R_drewN | apply Kd.R_drew)); exact HO_3.out, bv_ HB.out⟩

end Go.Proofs.Ytpfnfofaajpdmaa.PLn

/- Written by a program of this session: functions of the given program as plain Lean functions, the walks that show it, and the row of each law, for every input that its statement speaks of. -/
import Derived.Test.YtpfnfofaajpdmaaPWix0
import Derived.Test.YtpfnfofaajpdmaaPWix1
import Derived.Test.YtpfnfofaajpdmaaPWix3
import Derived.Test.YtpfnfofaajpdmaaPWix6
import Derived.Test.YtpfnfofaajpdmaaPWix11
namespace Go.Proofs.Ytpfnfofaajpdmaa.PWi
open Go.RowKit Go.Proofs.YtpfnfofaajpdmaaW.PrintWords Go.Proofs.YtpfnfofaajpdmaaW.PrintLast Go.Proofs.YtpfnfofaajpdmaaW.PrintMore
attribute [local go_sem] max2_int min2_int max_two min_two max_three min_three max_four min_four   -- for this text's walks alone
set_option linter.unusedVariables false
set_option linter.unusedSimpArgs false

attribute [local go_sem high] eqA28 eqA42
/-! ### setter_Lines: function 8 -/
def setter_Lines.l0 : Nat → List (S40) → List Int → Int → List (S44) → Int → List Int → Int → Int → Option ((List (S44)) × Int × Int)
 | 0, _, _, _, _, _, _, _, _ => none
 | k + 1, x0, x1, x2, x8, x9, x18, x19, x20 => if x20 < x19 then (if 0 ≤ x20 then (if x20 < (x18.length : Int) then ((setter_line.f k x0 x9 (rd x18 x20) x2).bind fun bt236 => (if bt236.2.2.2.2.2.2 = true then (if x8.length < 2199023255552 then (setter_Lines.l0 k x0 x1 x2 (x8 ++ [(⟨bt236.1, bt236.2.1, bt236.2.2.1, bt236.2.2.2.1, bt236.2.2.2.2.1, bt236.2.2.2.2.2.1⟩ : S44)]) (rd x18 x20) x18 x19 (wrap64 (x20 + 1))) else (none)) else (some (([] : List (S44)), 120, x20)))) else (none)) else (none)) else (if (x1.length : Int) = 0 then (some (([] : List (S44)), 120, (x1.length : Int))) else (if x9 = (wrap64 ((x0.length : Int) - 1)) then (some (x8, 0, 0)) else (some (([] : List (S44)), 120, (x1.length : Int)))))
def setter_Lines.f (k : Nat) (l0 : List (S40)) (l1 : List Int) (a2 : Int) : Option ((List (S44)) × Int × Int) := (item_May.f k l0).bind fun t234 => (if t234 = true then (setter_Lines.l0 k l0 l1 a2 ([] : List (S44)) (-1) l1 (l1.length : Int) 0) else (some (([] : List (S44)), 90, 0)))
theorem setter_Lines.mono_l : ∀ k, (∀ y0 y1 y2 y3 y4 y5 y6 y7, LeO (setter_Lines.l0 k y0 y1 y2 y3 y4 y5 y6 y7) (setter_Lines.l0 (k + 1) y0 y1 y2 y3 y4 y5 y6 y7))
 | 0 => fun _ _ _ _ _ _ _ _ r h => by simp [setter_Lines.l0] at h
 | k + 1 => by
  have ih0 := setter_Lines.mono_l k
  ·intro y0 y1 y2 y3 y4 y5 y6 y7
   unfold setter_Lines.l0
   repeat' first | (with_reducible first | exact ih0 _ _ _ _ _ _ _ _ | exact item_May.mono _ _ | exact setter_line.mono _ _ _ _ _ | exact LeO.refl _ | exact LeO.none _ | refine LeO.ite ?_ ?_ | refine LeO.bind ?_ (fun _ => ?_)) | exact LeO.none _ | refine LeO.ite ?_ ?_ | refine LeO.bind ?_ (fun _ => ?_)
theorem setter_Lines.mono : ∀ a0 a1 a2 k, LeO (setter_Lines.f k a0 a1 a2) (setter_Lines.f (k + 1) a0 a1 a2) := by
 intro a0 a1 a2 k
 have ih0 := setter_Lines.mono_l k
 unfold setter_Lines.f
 repeat' first
   | (with_reducible exact ih0 _ _ _ _ _ _ _ _)
   | (with_reducible exact item_May.mono _ _)
   | (with_reducible exact setter_line.mono _ _ _ _ _)
   | (with_reducible exact LeO.refl _)
   | (with_reducible exact LeO.none _)
   | (with_reducible refine LeO.ite ?_ ?_)
   | (with_reducible refine LeO.bind ?_ (fun _ => ?_))
   | exact ih0 _ _ _ _ _ _ _ _
   | exact item_May.mono _ _
   | exact setter_line.mono _ _ _ _ _
   | exact LeO.none _
   | refine LeO.ite ?_ ?_
   | refine LeO.bind ?_ (fun _ => ?_)
set_option maxHeartbeats 8000000 in
set_option maxRecDepth 100000 in
theorem setter_Lines.calls (k : Nat) (A0 : Option Addr) (c0 : Nat) (l0 : List (S40)) (A1 : Option Addr) (c1 : Nat) (l1 : List Int) (a2 : Int) (r1 : List (S44)) (r2 : Int) (r3 : Int) (w : World) (hr0 : Kd.C k40 w A0 l0.length l0) (hc0 : l0.length ≤ c0) (hr1 : Kd.C (Kd.int .i64) w A1 l1.length l1) (hc1 : l1.length ≤ c1) (h : setter_Lines.f k l0 l1 a2 = some (r1, r2, r3)) :
  Calls Try.prog 8 #[.slice A0 l0.length c0, .slice A1 l1.length c1, .int .i64 a2] w fun e w' => ∃ v0_ : Value, e = .returned (.tuple #[v0_, .agg #[.int .i64 r2, .int .i64 r3]]) ∧ Kd.S k44 44 w' w.heap.size (fun _ => True) v0_ r1 ∧ Below w.heap.size w w' := by
 have hu28 := Try.underlying28
 have hu44 := Try.underlying44
 have HR0 := a_ hr0
 have HC0 := a_ hc0
 clear hr0 hc0
 have HR1 := a_ hr1
 have HC1 := a_ hc1
 clear hr1 hc1
 have HB := a_ (Below.refl w.heap.size w)
 have H : ((item_May.f k l0).bind fun t234 => (if t234 = true then (setter_Lines.l0 k l0 l1 a2 ([] : List (S44)) (-1) l1 (l1.length : Int) 0) else (some (([] : List (S44)), 90, 0)))) = some (r1, r2, r3) := h
 clear h
 replace H := Option.bind_eq_some_iff.mp H
 obtain ⟨t234, A40, H⟩ := H
 replace H : (if t234 = true then (setter_Lines.l0 k l0 l1 a2 ([] : List (S44)) (-1) l1 (l1.length : Int) 0) else (some (([] : List (S44)), 90, 0))) = some (r1, r2, r3) := H
 have A4 := a_ A40
 clear A40
 by_cases c5 : t234 = true
 ·subst c5
  have H1 : (setter_Lines.l0 k l0 l1 a2 ([] : List (S44)) (-1) l1 (l1.length : Int) 0) = some (r1, r2, r3) := by rw [if_pos rfl] at H; exact H
  clear H
  have H := H1
  clear H1
  have H' := a_ H
  clear H
  go_enter Try.func8, Try.ntmps8
  go_wp2_with (first | ((with_reducible refine gate_dst (N := 7) rfl ?_); (try (refine gate_guard (by rfl) ?_; dsimp only)); refine box_event ?hg (N := 7) ?hd (cs := #[.int .i64 0, .int .i64 0]) (t := 28) ?hr ?_; (case hd => rfl); (case hg => rfl); (case hr => first | (go_simp; done) | (go_simp; rfl)); intro gb233 hg w6 hbox hb; have n0_ := a_ (bs_ HB.out hb); have n1_ := a_ (hbox); have n2_ := a_ ((by rw [hg]; exact (below_size (bv_ HB.out)) : w.heap.size ≤ gb233)); have n3_ := a_ ((by rw [hg]; exact (below_size (bv_ HB.out)) : w.heap.size ≤ gb233)); clear HB; have HB := n0_; have BK233 := n1_; have GW233 := n2_; have GE233 := n3_; clear n0_ n1_ n2_ n3_; clear hb hbox hg) | ((with_reducible refine gate_callee (f := 18) rfl ?_); refine gl_ (some 15) Try.func18 (by kernel_rfl) #[.slice A0 l0.length c0] ?_; (with_reducible refine (item_May.calls k _ _ l0 true _ ?side1 ?side2 A4.out).mono ?_); (case side1 => exact cw_ HR0.out HB.out); (case side2 => exact HC0.out); rintro e w7 ⟨rfl, hb⟩; refine ⟨_, rfl, ?_⟩; have n0_ := a_ (kb_ BK233.out hb); have n1_ := a_ (below_step (bS1_ HB.out GE233.out) hb); clear BK233; clear HB; have BK233 := n0_; have HB := n1_; clear n0_ n1_; (try clear hb); (try clear hb2); (try clear hk); (try clear hi)))
  go_loopg [8, 9, 20] k (fun kq v8 v9 v20 w' => ∃ (x8_1 : List (S44)) (x9_1 : Int) (x20_1 : Int) (x234000_1 : Int) (x234001_1 : Int), v9 = .int .i64 x9_1 ∧ v20 = .int .i64 x20_1 ∧ Aside0 (setter_Lines.l0 kq l0 l1 a2 x8_1 x9_1 l1 (l1.length : Int) x20_1 = some (r1, r2, r3)) ∧ Aside0 (kq ≤ k) ∧ Aside0 (Kd.S k44 44 w' w.heap.size (fun _ => True) v8 x8_1) ∧ Aside0 (w'.heap[gb233]? = some (.cells #[.int .i64 x234000_1, .int .i64 x234001_1] 28 (0, 0))) ∧ Aside0 (Below w.heap.size w w'))
  case atStart => exact ⟨(([] : List (S44))), ((-1)), (0), (0), (0), (by first | rfl | (simp; done) | (simp [*]; done)), (by first | rfl | (simp; done) | (simp [*]; done)), H', ⟨Nat.le_refl _⟩, ⟨by first | exact Kd.S_nil _ _ _ _ _ | exact Kd.N_nil _ _ _ _ _ | exact Kd.V_nil _ _ _ _ _ | exact Kd.Q_nil _ _ _ _ _ | exact Kd.R_nil _ _ _ _ _⟩, ⟨kv_ BK233.out⟩, ⟨bS1_ HB.out GE233.out⟩⟩
  case round =>
   clear H'
   try clear c1
   try clear p2
   try clear c5
   obtain ⟨x8_1, x9_1, x20_1, x234000_1, x234001_1, rfl, rfl, HA, HK1, HO_8, BK233, HB⟩ := hrel
   cases gk with
   | zero => exact absurd HA.out (by simp [setter_Lines.l0])
   | succ k1 =>
    have H := HA.out
    clear HA
    simp only [setter_Lines.l0] at H
    by_cases c8 : x20_1 < (l1.length : Int)
    ·rw [if_pos c8] at H
     have c8b0 : decide (x20_1 < (l1.length : Int)) = true := decide_eq_true c8
     clear c8
     by_cases c9 : 0 ≤ x20_1
     ·rw [if_pos c9] at H
      have c9b0 : decide (0 ≤ x20_1) = true := decide_eq_true c9
      clear c9
      by_cases c10 : x20_1 < (l1.length : Int)
      ·rw [if_pos c10] at H
       have c10b0 : decide (x20_1 < (l1.length : Int)) = true := decide_eq_true c10
       clear c10
       replace H := Option.bind_eq_some_iff.mp H
       obtain ⟨⟨t236, t237, t238, t241, t242, t243, t244⟩, A110, H⟩ := H
       replace H : (if t244 = true then (if x8_1.length < 2199023255552 then (setter_Lines.l0 k1 l0 l1 a2 (x8_1 ++ [(⟨t236, t237, t238, t241, t242, t243⟩ : S44)]) (rd l1 x20_1) l1 (l1.length : Int) (wrap64 (x20_1 + 1))) else (none)) else (some (([] : List (S44)), 120, x20_1))) = some (r1, r2, r3) := H
       have A11 := a_ A110
       clear A110
       by_cases c12 : t244 = true
       ·subst c12
        have H1 : (if x8_1.length < 2199023255552 then (setter_Lines.l0 k1 l0 l1 a2 (x8_1 ++ [(⟨t236, t237, t238, t241, t242, t243⟩ : S44)]) (rd l1 x20_1) l1 (l1.length : Int) (wrap64 (x20_1 + 1))) else (none)) = some (r1, r2, r3) := by rw [if_pos rfl] at H; exact H
        clear H
        have H := H1
        clear H1
        by_cases c13 : x8_1.length < 2199023255552
        ·rw [if_pos c13] at H
         have LMc13 := a_ c13
         clear c13
         obtain ⟨y246, hy246⟩ : ∃ y_ : List (S44), y_ = (x8_1 ++ [(⟨t236, t237, t238, t241, t242, t243⟩ : S44)]) := ⟨_, rfl⟩
         replace H : (setter_Lines.l0 k1 l0 l1 a2 y246 (rd l1 x20_1) l1 (l1.length : Int) (wrap64 (x20_1 + 1))) = some (r1, r2, r3) := by first | (rw [hy246]; with_reducible exact H) | (have H2_ := (Option.bind_some _ _).symm.trans H; rw [hy246]; with_reducible exact H2_) | (have H2_ := (Option.bind_some _ _).symm.trans H; with_reducible exact H2_) | with_reducible exact H | (rw [hy246]; exact H) | exact H
         have Ny246 := a_ hy246
         clear hy246
         have H' := a_ H
         clear H
         have p235 : 0 ≤ (x20_1 : Int) := od_
         have q235 : x20_1 < (l1.length : Int) := od_
         obtain ⟨ad235, e235, hx235_0⟩ := Kd.at_int HR1.out x20_1 p235 q235
         cases e235
         try replace hx235_0 := up_ HB.out hx235_0
         replace p235 := eq_true p235
         replace q235 := eq_true q235
         go_wp2_with (first | ((with_reducible refine gate_callee (f := 19) rfl ?_); refine gl_ (some 30) Try.func19 (by kernel_rfl) #[.slice A0 l0.length c0, .int .i64 x9_1, .int .i64 (rd l1 x20_1), .int .i64 a2] ?_; (with_reducible refine (setter_line.calls k1 _ _ l0 x9_1 (rd l1 x20_1) a2 t236 t237 t238 t241 t242 t243 true _ ?side1 ?side2 A11.out).mono ?_); (case side1 => exact cw_ HR0.out HB.out); (case side2 => exact HC0.out); rintro e w14 ⟨v239, rfl, ho0, hb⟩; refine ⟨_, rfl, ?_⟩; have n0_ := a_ (Kd.S_elder' (sv_ HO_8.out) (Kd.R_base ho0) hb); have n1_ := a_ (Kd.R_lower ho0 (below_size (bS1_ HB.out GE233.out))); have n2_ := a_ (kb_ BK233.out hb); have n3_ := a_ (below_step (bS1_ HB.out GE233.out) hb); clear HO_8; clear BK233; clear HB; have HO_8 := n0_; have HO240 := n1_; have BK233 := n2_; have HB := n3_; clear n0_ n1_ n2_ n3_; (try clear hb); (try clear hb2); (try clear hk); (try clear hi); (try clear ho0)) | ((with_reducible refine gate_dst (N := 12) rfl ?_); (try (refine gate_guard (by rfl) ?_; dsimp only)); refine box_event ?hg (N := 12) ?hd (cs := #[.int .i64 0, .int .i64 0, .slice none 0 0, .bool false, .int .i64 0, .int .i64 0]) (t := 44) ?hr ?_; (case hd => rfl); (case hg => rfl); (case hr => first | (go_simp; done) | (go_simp; rfl)); intro gb245 hg w15 hbox hb; have n0_ := a_ (Kd.S_below (Kd.S_elderB (sv_ HO_8.out) gb245 (Nat.le_of_eq hg.symm)) hb); have n1_ := a_ (Kd.R_below (rv_ HO240.out) hb); have n2_ := a_ (kb_ BK233.out hb); have n3_ := a_ (below_step (bS1_ HB.out GE233.out) hb); have n4_ := a_ (hbox); have n5_ := a_ ((by rw [hg]; exact (below_size (bS1_ HB.out GE233.out)) : w.heap.size ≤ gb245)); have n6_ := a_ ((by rw [hg]; exact (below_size (bS1_ HB.out GE233.out)) : w.heap.size ≤ gb245)); have n7_ := a_ ((by rw [hg]; exact Nat.ne_of_lt (blk_lt (kv_ BK233.out)) : gb233 ≠ gb245)); have n8_ := a_ ((by rw [hg]; exact Nat.ne_of_gt (blk_lt (kv_ BK233.out)) : gb245 ≠ gb233)); clear HO_8; clear HO240; clear BK233; clear HB; have HO_8 := n0_; have HO240 := n1_; have BK233 := n2_; have HB := n3_; have BK245 := n4_; have GW245 := n5_; have GE245 := n6_; have NB233_245 := n7_; have NB245_233 := n8_; clear n0_ n1_ n2_ n3_ n4_ n5_ n6_ n7_ n8_; clear hb hbox hg; have hnb16 := NB245_233.out; have hnc16 := NB233_245.out; obtain ⟨⟨Z17_0, Y17_0⟩, ⟨Z17_1, Y17_1⟩, ⟨Z17_2, Y17_2⟩, ⟨Z17_3, Y17_3⟩, ⟨Z17_4, Y17_4⟩, Z17_5, Y17_5⟩ := cs6_ BK245.out; obtain ⟨Ao18, co18, eo18⟩ := Kd.R_slice HO240.out; subst eo18) | ((with_reducible refine gate_store (t := 44) (p := 12) rfl ?_); refine store_event (t := 44) (p := 12) (v := ?vo_w19) (w1 := ((((((w15.setCell ⟨gb245, 0, none⟩ (.int .i64 t236)).setCell ⟨gb245, 1, none⟩ (.int .i64 t237)).setCell ⟨gb245, 2, none⟩ (.slice Ao18 t238.length co18)).setCell ⟨gb245, 3, none⟩ (.bool t241)).setCell ⟨gb245, 4, none⟩ (.int .i64 t242)).setCell ⟨gb245, 5, none⟩ (.int .i64 t243))) ?hg ?ho ?hn ?hr ?_; (case ho => rfl); (case hg => rfl); (case hn => rfl); (case hr => first | (go_simp; done) | (go_simp; rfl)); intro w19 hw; have n0_ : Aside0 (Kd.S k44 44 w19 w.heap.size (fun k_ => some k_ ≠ (.slice Ao18 t238.length co18 : Value).ownBlock ∧ k_ ≠ gb245) u8 x8_1) := ⟨(by rw [hw]; exact (by (with_reducible repeat (first | apply Kd.S_alloc | apply Kd.S_drewN | apply Kd.S_drew)); exact Kd.S_mono (Kd.S_far (p := ⟨gb245, 5, none⟩) (Kd.S_far (p := ⟨gb245, 4, none⟩) (Kd.S_far (p := ⟨gb245, 3, none⟩) (Kd.S_far (p := ⟨gb245, 2, none⟩) (Kd.S_far (p := ⟨gb245, 1, none⟩) (Kd.S_far (p := ⟨gb245, 0, none⟩) (Kd.S_mono HO_8.out (fun k_ hk => (⟨hk, hk.2⟩ : _ ∧ k_ ≠ gb245))) (fun _ hk => hk.2) (.int .i64 t236)) (fun _ hk => hk.2) (.int .i64 t237)) (fun _ hk => hk.2) (.slice Ao18 t238.length co18)) (fun _ hk => hk.2) (.bool t241)) (fun _ hk => hk.2) (.int .i64 t242)) (fun _ hk => hk.2) (.int .i64 t243)) (fun _ hk => ⟨hk.1.1.2, hk.1.2⟩)))⟩; have n1_ : Aside0 (Kd.R k42 42 w19 w.heap.size (fun _ => True) (.slice Ao18 t238.length co18) t238) := ⟨(by rw [hw]; exact (by (with_reducible repeat (first | apply Kd.R_alloc | apply Kd.R_drewN | apply Kd.R_drew)); exact Kd.R_mono (Kd.R_far (p := ⟨gb245, 5, none⟩) (Kd.R_far (p := ⟨gb245, 4, none⟩) (Kd.R_far (p := ⟨gb245, 3, none⟩) (Kd.R_far (p := ⟨gb245, 2, none⟩) (Kd.R_far (p := ⟨gb245, 1, none⟩) (Kd.R_far (p := ⟨gb245, 0, none⟩) (Kd.R_types HO240.out BK245.out (by decide)) (fun _ hk => hk.2) (.int .i64 t236)) (fun _ hk => hk.2) (.int .i64 t237)) (fun _ hk => hk.2) (.slice Ao18 t238.length co18)) (fun _ hk => hk.2) (.bool t241)) (fun _ hk => hk.2) (.int .i64 t242)) (fun _ hk => hk.2) (.int .i64 t243)) (fun _ hk => trivial)))⟩; have n2_ : Aside0 (w19.heap[gb233]? = some (.cells #[.int .i64 x234000_1, .int .i64 x234001_1] 28 (0, 0))) := ⟨(by rw [hw]; exact (kf1_ BK233.out NB233_245.out))⟩; have n3_ : Aside0 (w19.heap[gb245]? = some (.cells #[.int .i64 t236, .int .i64 t237, .slice Ao18 t238.length co18, .bool t241, .int .i64 t242, .int .i64 t243] 44 (0, 0))) := ⟨(by rw [hw]; exact (kp0_ BK245.out))⟩; have n4_ : Aside0 (Below w.heap.size w w19) := ⟨(by rw [hw]; exact (bS2_ HB.out GE233.out GE245.out))⟩; clear hw; clear HO_8; clear HO240; clear BK233; clear BK245; clear HB; have HO_8 := n0_; have HO240 := n1_; have BK233 := n2_; have BK245 := n3_; have HB := n4_; clear n0_ n1_ n2_ n3_ n4_; obtain ⟨⟨Z20_0, Y20_0⟩, ⟨Z20_1, Y20_1⟩, ⟨Z20_2, Y20_2⟩, ⟨Z20_3, Y20_3⟩, ⟨Z20_4, Y20_4⟩, Z20_5, Y20_5⟩ := cs6_ BK245.out) | ((with_reducible refine gate_builtin (b := .append) (xs := #[.tmp 37, .tmp 39]) rfl ?_); (try (refine gate_guard (by rfl) ?_; dsimp only)); at_builtin; refine Kd.S_append k44 (w0 := w) w.heap.size rfl (.tmp 37) (.tmp 39) 25 44 (.agg #[(.int .i64 0), (.int .i64 0), (.slice none 0 0), (.bool false), (.int .i64 0), (.int .i64 0)]) 64 rfl Try.underlying25 info44 rfl (by decide) (by omega) u8 x8_1 (⟨t236, t237, t238, t241, t242, t243⟩ : S44) [.int .i64 t236, .int .i64 t237, .slice Ao18 t238.length co18, .bool t241, .int .i64 t242, .int .i64 t243] (fun k_ => k_ ≠ gb245) (fun k_ => some k_ = (.slice Ao18 t238.length co18 : Value).ownBlock) rfl rfl ?aP (fun k_ hk_ => ((Kd.R_mono (ok' := fun k_ => ((fun k_ => k_ ≠ gb245)) k_ ∧ some k_ ≠ (u8 : Value).ownBlock) (Kd.R_types (Kd.R_apart' (HO240.out) (Kd.S_typed HO_8.out) (by decide)) BK245.out (by decide)) (fun k_ hk => ⟨hk.2, hk.1.2⟩))).1 k_ hk_.symm) ?aF ?aO ?aB ?aS ?aL ?_; (case aP => exact k44_mkM _ _ _ (⟨t236, t237, t238, t241, t242, t243⟩ : S44) (Kd.R_mono (Kd.R_tight rfl (Kd.R_mono (ok' := fun k_ => ((fun k_ => k_ ≠ gb245)) k_ ∧ some k_ ≠ (u8 : Value).ownBlock) (Kd.R_types (Kd.R_apart' (HO240.out) (Kd.S_typed HO_8.out) (by decide)) BK245.out (by decide)) (fun k_ hk => ⟨hk.2, hk.1.2⟩))) (fun _ h_ => h_))); (case aB => exact (bS2_ HB.out GE233.out GE245.out)); (case aF => exact (fun k_ hk => Kd.freshB (g := gb245) (o := .cells #[.int .i64 t236, .int .i64 t237, .slice Ao18 t238.length co18, .bool t241, .int .i64 t242, .int .i64 t243] 44 (0, 0)) (kv_ BK245.out) k_ hk)); (case aO => exact (by (with_reducible repeat (first | apply Kd.S_alloc | apply Kd.S_drewN | apply Kd.S_drew)); exact Kd.S_mono HO_8.out (fun k_ hk => ⟨hk.2, fun e_ => hk.1 e_⟩))); (case aS => exact (below_size (bS2_ HB.out GE233.out GE245.out))); (case aL => have := LMc13.out; omega); intro v247 w21 ho hb hg hat; rw [← Ny246.out] at ho; have n0_ := a_ (blk_grown (g := gb233) (o := .cells #[.int .i64 x234000_1, .int .i64 x234001_1] 28 (0, 0)) (kv_ BK233.out) hg (Kd.S_ne HO_8.out BK233.out (by decide))); have n1_ := a_ (blk_grown (g := gb245) (o := .cells #[.int .i64 t236, .int .i64 t237, .slice Ao18 t238.length co18, .bool t241, .int .i64 t242, .int .i64 t243] 44 (0, 0)) (kv_ BK245.out) hg (Kd.S_away HO_8.out (fun _ hk => hk.2))); have n2_ := a_ (hb); have n3_ := a_ (ho); clear BK233; clear BK245; clear HB; clear HO_8; clear HO240; have BK233 := n0_; have BK245 := n1_; have HB := n2_; have HO248 := n3_; clear n0_ n1_ n2_ n3_; clear ho hb hg hat))
         go_roundg k1
         case measure => have := HK1.out; omega
         case rel => exact ⟨(y246), (rd l1 x20_1), (wrap64 (x20_1 + 1)), (x234000_1), (x234001_1), (by first | rfl | (simp; done) | (simp [*]; done)), (by first | rfl | (simp; done) | (simp [*]; done)), H', ⟨by have := HK1.out; omega⟩, ⟨by (with_reducible repeat (first | apply Kd.S_alloc | apply Kd.S_drewN | apply Kd.S_drew)); exact Kd.S_mono HO248.out (fun _ hk => trivial)⟩, ⟨kv_ BK233.out⟩, ⟨bS2_ HB.out GE233.out GE245.out⟩⟩
        ·rw [if_neg c13] at H
         exact absurd H (by simp)
       ·replace c12 := Bool.eq_false_iff.mpr c12
        subst c12
        have H1 : (some (([] : List (S44)), 120, x20_1)) = some (r1, r2, r3) := by rw [if_neg (show ¬ (false = true) by decide)] at H; exact H
        clear H
        have H := H1
        clear H1
        simp only [Option.some.injEq, Prod.mk.injEq] at H
        obtain ⟨rfl, rfl, rfl⟩ := H
        have p235 : 0 ≤ (x20_1 : Int) := od_
        have q235 : x20_1 < (l1.length : Int) := od_
        obtain ⟨ad235, e235, hx235_0⟩ := Kd.at_int HR1.out x20_1 p235 q235
        cases e235
        try replace hx235_0 := up_ HB.out hx235_0
        replace p235 := eq_true p235
        replace q235 := eq_true q235
        go_wp2_with (first | ((with_reducible refine gate_callee (f := 19) rfl ?_); refine gl_ (some 30) Try.func19 (by kernel_rfl) #[.slice A0 l0.length c0, .int .i64 x9_1, .int .i64 (rd l1 x20_1), .int .i64 a2] ?_; (with_reducible refine (setter_line.calls k1 _ _ l0 x9_1 (rd l1 x20_1) a2 t236 t237 t238 t241 t242 t243 false _ ?side1 ?side2 A11.out).mono ?_); (case side1 => exact cw_ HR0.out HB.out); (case side2 => exact HC0.out); rintro e w22 ⟨v239, rfl, ho0, hb⟩; refine ⟨_, rfl, ?_⟩; have n0_ := a_ (Kd.S_elder' (sv_ HO_8.out) (Kd.R_base ho0) hb); have n1_ := a_ (Kd.R_lower ho0 (below_size (bS1_ HB.out GE233.out))); have n2_ := a_ (kb_ BK233.out hb); have n3_ := a_ (below_step (bS1_ HB.out GE233.out) hb); clear HO_8; clear BK233; clear HB; have HO_8 := n0_; have HO240 := n1_; have BK233 := n2_; have HB := n3_; clear n0_ n1_ n2_ n3_; (try clear hb); (try clear hb2); (try clear hk); (try clear hi); (try clear ho0)) | ((with_reducible refine gate_dst (N := 12) rfl ?_); (try (refine gate_guard (by rfl) ?_; dsimp only)); refine box_event ?hg (N := 12) ?hd (cs := #[.int .i64 0, .int .i64 0, .slice none 0 0, .bool false, .int .i64 0, .int .i64 0]) (t := 44) ?hr ?_; (case hd => rfl); (case hg => rfl); (case hr => first | (go_simp; done) | (go_simp; rfl)); intro gb245 hg w23 hbox hb; have n0_ := a_ (Kd.S_below (Kd.S_elderB (sv_ HO_8.out) gb245 (Nat.le_of_eq hg.symm)) hb); have n1_ := a_ (Kd.R_below (rv_ HO240.out) hb); have n2_ := a_ (kb_ BK233.out hb); have n3_ := a_ (below_step (bS1_ HB.out GE233.out) hb); have n4_ := a_ (hbox); have n5_ := a_ ((by rw [hg]; exact (below_size (bS1_ HB.out GE233.out)) : w.heap.size ≤ gb245)); have n6_ := a_ ((by rw [hg]; exact (below_size (bS1_ HB.out GE233.out)) : w.heap.size ≤ gb245)); have n7_ := a_ ((by rw [hg]; exact Nat.ne_of_lt (blk_lt (kv_ BK233.out)) : gb233 ≠ gb245)); have n8_ := a_ ((by rw [hg]; exact Nat.ne_of_gt (blk_lt (kv_ BK233.out)) : gb245 ≠ gb233)); clear HO_8; clear HO240; clear BK233; clear HB; have HO_8 := n0_; have HO240 := n1_; have BK233 := n2_; have HB := n3_; have BK245 := n4_; have GW245 := n5_; have GE245 := n6_; have NB233_245 := n7_; have NB245_233 := n8_; clear n0_ n1_ n2_ n3_ n4_ n5_ n6_ n7_ n8_; clear hb hbox hg; have hnb24 := NB245_233.out; have hnc24 := NB233_245.out; obtain ⟨⟨Z25_0, Y25_0⟩, ⟨Z25_1, Y25_1⟩, ⟨Z25_2, Y25_2⟩, ⟨Z25_3, Y25_3⟩, ⟨Z25_4, Y25_4⟩, Z25_5, Y25_5⟩ := cs6_ BK245.out; obtain ⟨Ao26, co26, eo26⟩ := Kd.R_slice HO240.out; subst eo26; obtain ⟨⟨Z27_0, Y27_0⟩, Z27_1, Y27_1⟩ := cs2_ BK233.out))
        refine bodyPost_ret (results_tc rfl _ _ gb233 28 #[.int .i64 120, .int .i64 x20_1] (0, 0) _ rfl (kp1_ BK233.out NB233_245.out) Try.underlying28 rfl (by kernel_rfl)) rfl ?_
        exact ⟨_, by first | rfl | (simp [errW_none, errW_some] <;> rfl) | (simp [*, errW_none, errW_some] <;> rfl), by first | exact Kd.S_nil _ _ _ _ _ | exact Kd.N_nil _ _ _ _ _ | exact Kd.V_nil _ _ _ _ _ | exact Kd.Q_nil _ _ _ _ _ | exact Kd.R_nil _ _ _ _ _, bS2_ HB.out GE233.out GE245.out⟩
      ·rw [if_neg c10] at H
       exact absurd H (by simp)
     ·rw [if_neg c9] at H
      exact absurd H (by simp)
    ·rw [if_neg c8] at H
     have c8b0 : decide (x20_1 < (l1.length : Int)) = false := decide_eq_false c8
     clear c8
     by_cases c28 : (l1.length : Int) = 0
     ·rw [if_pos c28] at H
      have c28b0 : ((l1.length : Int) == 0) = true := beq_iff_eq.mpr c28
      have c28b1 : ((l1.length : Int) != 0) = false := bne_eq_false_iff_eq.mpr c28
      clear c28
      simp only [Option.some.injEq, Prod.mk.injEq] at H
      obtain ⟨rfl, rfl, rfl⟩ := H
      obtain ⟨⟨Z29_0, Y29_0⟩, Z29_1, Y29_1⟩ := cs2_ BK233.out
      go_wp2
      refine bodyPost_ret (results_tc rfl _ _ gb233 28 #[.int .i64 120, .int .i64 (l1.length : Int)] (0, 0) _ rfl (kp0_ BK233.out) Try.underlying28 rfl (by kernel_rfl)) rfl ?_
      exact ⟨_, by first | rfl | (simp [errW_none, errW_some] <;> rfl) | (simp [*, errW_none, errW_some] <;> rfl), by first | exact Kd.S_nil _ _ _ _ _ | exact Kd.N_nil _ _ _ _ _ | exact Kd.V_nil _ _ _ _ _ | exact Kd.Q_nil _ _ _ _ _ | exact Kd.R_nil _ _ _ _ _, bS1_ HB.out GE233.out⟩
     ·rw [if_neg c28] at H
      have c28b0 : ((l1.length : Int) == 0) = false := beq_eq_false_iff_ne.mpr c28
      have c28b1 : ((l1.length : Int) != 0) = true := bne_iff_ne.mpr c28
      have c28b2 : ¬ (l1 = []) := fun h_ => c28 (by rw [h_]; rfl)
      by_cases c30 : x9_1 = (wrap64 ((l0.length : Int) - 1))
      ·rw [if_pos c30] at H
       have c30b0 : (x9_1 == (wrap64 ((l0.length : Int) - 1))) = true := beq_iff_eq.mpr c30
       have c30b1 : (x9_1 != (wrap64 ((l0.length : Int) - 1))) = false := bne_eq_false_iff_eq.mpr c30
       clear c30
       simp only [Option.some.injEq, Prod.mk.injEq] at H
       obtain ⟨rfl, rfl, rfl⟩ := H
       obtain ⟨⟨Z31_0, Y31_0⟩, Z31_1, Y31_1⟩ := cs2_ BK233.out
       go_wp2
       refine bodyPost_ret (results_tc rfl _ _ gb233 28 #[.int .i64 0, .int .i64 0] (0, 0) _ rfl (kp0_ BK233.out) Try.underlying28 rfl (by kernel_rfl)) rfl ?_
       exact ⟨_, by first | rfl | (simp [errW_none, errW_some] <;> rfl) | (simp [*, errW_none, errW_some] <;> rfl), by (with_reducible repeat (first | apply Kd.S_alloc | apply Kd.S_drewN | apply Kd.S_drew)); exact Kd.S_mono (Kd.S_far (p := ⟨gb233, 1, none⟩) (Kd.S_far (p := ⟨gb233, 0, none⟩) (Kd.S_types HO_8.out BK233.out (by decide)) (fun _ hk => hk.2) (.int .i64 0)) (fun _ hk => hk.2) (.int .i64 0)) (fun _ hk => trivial), bS1_ HB.out GE233.out⟩
      ·rw [if_neg c30] at H
       have c30b0 : (x9_1 == (wrap64 ((l0.length : Int) - 1))) = false := beq_eq_false_iff_ne.mpr c30
       have c30b1 : (x9_1 != (wrap64 ((l0.length : Int) - 1))) = true := bne_iff_ne.mpr c30
       simp only [Option.some.injEq, Prod.mk.injEq] at H
       obtain ⟨rfl, rfl, rfl⟩ := H
       obtain ⟨⟨Z32_0, Y32_0⟩, Z32_1, Y32_1⟩ := cs2_ BK233.out
       go_wp2
       refine bodyPost_ret (results_tc rfl _ _ gb233 28 #[.int .i64 120, .int .i64 (l1.length : Int)] (0, 0) _ rfl (kp0_ BK233.out) Try.underlying28 rfl (by kernel_rfl)) rfl ?_
       exact ⟨_, by first | rfl | (simp [errW_none, errW_some] <;> rfl) | (simp [*, errW_none, errW_some] <;> rfl), by first | exact Kd.S_nil _ _ _ _ _ | exact Kd.N_nil _ _ _ _ _ | exact Kd.V_nil _ _ _ _ _ | exact Kd.Q_nil _ _ _ _ _ | exact Kd.R_nil _ _ _ _ _, bS1_ HB.out GE233.out⟩
 ·replace c5 := Bool.eq_false_iff.mpr c5
  subst c5
  have H1 : (some (([] : List (S44)), 90, 0)) = some (r1, r2, r3) := by rw [if_neg (show ¬ (false = true) by decide)] at H; exact H
  clear H
  have H := H1
  clear H1
  simp only [Option.some.injEq, Prod.mk.injEq] at H
  obtain ⟨rfl, rfl, rfl⟩ := H
  go_enter Try.func8, Try.ntmps8
  go_wp2_with (first | ((with_reducible refine gate_dst (N := 7) rfl ?_); (try (refine gate_guard (by rfl) ?_; dsimp only)); refine box_event ?hg (N := 7) ?hd (cs := #[.int .i64 0, .int .i64 0]) (t := 28) ?hr ?_; (case hd => rfl); (case hg => rfl); (case hr => first | (go_simp; done) | (go_simp; rfl)); intro gb233 hg w33 hbox hb; have n0_ := a_ (bs_ HB.out hb); have n1_ := a_ (hbox); have n2_ := a_ ((by rw [hg]; exact (below_size (bv_ HB.out)) : w.heap.size ≤ gb233)); have n3_ := a_ ((by rw [hg]; exact (below_size (bv_ HB.out)) : w.heap.size ≤ gb233)); clear HB; have HB := n0_; have BK233 := n1_; have GW233 := n2_; have GE233 := n3_; clear n0_ n1_ n2_ n3_; clear hb hbox hg) | ((with_reducible refine gate_callee (f := 18) rfl ?_); refine gl_ (some 15) Try.func18 (by kernel_rfl) #[.slice A0 l0.length c0] ?_; (with_reducible refine (item_May.calls k _ _ l0 false _ ?side1 ?side2 A4.out).mono ?_); (case side1 => exact cw_ HR0.out HB.out); (case side2 => exact HC0.out); rintro e w34 ⟨rfl, hb⟩; refine ⟨_, rfl, ?_⟩; have n0_ := a_ (kb_ BK233.out hb); have n1_ := a_ (below_step (bS1_ HB.out GE233.out) hb); clear BK233; clear HB; have BK233 := n0_; have HB := n1_; clear n0_ n1_; (try clear hb); (try clear hb2); (try clear hk); (try clear hi); obtain ⟨⟨Z35_0, Y35_0⟩, Z35_1, Y35_1⟩ := cs2_ BK233.out))
  refine bodyPost_ret (results_tc rfl _ _ gb233 28 #[.int .i64 90, .int .i64 0] (0, 0) _ rfl (kp0_ BK233.out) Try.underlying28 rfl (by kernel_rfl)) rfl ?_
  exact ⟨_, by first | rfl | (simp [errW_none, errW_some] <;> rfl) | (simp [*, errW_none, errW_some] <;> rfl), by first | exact Kd.S_nil _ _ _ _ _ | exact Kd.N_nil _ _ _ _ _ | exact Kd.V_nil _ _ _ _ _ | exact Kd.Q_nil _ _ _ _ _ | exact Kd.R_nil _ _ _ _ _, bS1_ HB.out GE233.out⟩

/-! ### variorumref12_Placed: function 11 -/
def variorumref12_Placed.l0 : Nat → List (S42) → List (S42) → Int → Option (Bool)
 | 0, _, _, _ => none
 | k + 1, x0, x1, x5 => if x5 < (x0.length : Int) then (if 0 ≤ x5 then (if x5 < (x1.length : Int) then (if (!(((rd_T42 x0 x5).f0) == ((rd_T42 x1 x5).f0)) || (!(((rd_T42 x0 x5).f1) == ((rd_T42 x1 x5).f1)) || (!(((rd_T42 x0 x5).f2) == ((rd_T42 x1 x5).f2)) || (!(((rd_T42 x0 x5).f3) == ((rd_T42 x1 x5).f3)))))) = true then (none) else (variorumref12_Placed.l0 k x0 x1 (wrap64 (x5 + 1)))) else (none)) else (none)) else (some true)
def variorumref12_Placed.f (k : Nat) (l0 : List (S42)) (l1 : List (S42)) : Option (Bool) := if (l0.length : Int) = (l1.length : Int) then (variorumref12_Placed.l0 k l0 l1 0) else (none)
theorem variorumref12_Placed.mono_l : ∀ k, (∀ y0 y1 y2, LeO (variorumref12_Placed.l0 k y0 y1 y2) (variorumref12_Placed.l0 (k + 1) y0 y1 y2))
 | 0 => fun _ _ _ r h => by simp [variorumref12_Placed.l0] at h
 | k + 1 => by
  have ih0 := variorumref12_Placed.mono_l k
  ·intro y0 y1 y2
   unfold variorumref12_Placed.l0
   repeat' first | (with_reducible first | exact ih0 _ _ _ | exact LeO.refl _ | exact LeO.none _ | refine LeO.ite ?_ ?_ | refine LeO.bind ?_ (fun _ => ?_)) | exact LeO.none _ | refine LeO.ite ?_ ?_ | refine LeO.bind ?_ (fun _ => ?_)
theorem variorumref12_Placed.mono : ∀ a0 a1 k, LeO (variorumref12_Placed.f k a0 a1) (variorumref12_Placed.f (k + 1) a0 a1) := by
 intro a0 a1 k
 have ih0 := variorumref12_Placed.mono_l k
 unfold variorumref12_Placed.f
 repeat' first
   | (with_reducible exact ih0 _ _ _)
   | (with_reducible exact LeO.refl _)
   | (with_reducible exact LeO.none _)
   | (with_reducible refine LeO.ite ?_ ?_)
   | (with_reducible refine LeO.bind ?_ (fun _ => ?_))
   | exact ih0 _ _ _
   | exact LeO.none _
   | refine LeO.ite ?_ ?_
   | refine LeO.bind ?_ (fun _ => ?_)
set_option maxHeartbeats 8000000 in
set_option maxRecDepth 100000 in
theorem variorumref12_Placed.calls (k : Nat) (A0 : Option Addr) (c0 : Nat) (l0 : List (S42)) (A1 : Option Addr) (c1 : Nat) (l1 : List (S42)) (r : Bool) (w : World) (hr0 : Kd.C k42 w A0 l0.length l0) (hc0 : l0.length ≤ c0) (hr1 : Kd.C k42 w A1 l1.length l1) (hc1 : l1.length ≤ c1) (h : variorumref12_Placed.f k l0 l1 = some r) :
  Calls Try.prog 11 #[.slice A0 l0.length c0, .slice A1 l1.length c1] w fun e w' => e = .returned (.bool r) ∧ Drawn0 w w' := by
 have hu42 := Try.underlying42
 have HR0 := a_ hr0
 have HC0 := a_ hc0
 clear hr0 hc0
 have HR1 := a_ hr1
 have HC1 := a_ hc1
 clear hr1 hc1
 have H : (if (l0.length : Int) = (l1.length : Int) then (variorumref12_Placed.l0 k l0 l1 0) else (none)) = some r := h
 clear h
 by_cases c3 : (l0.length : Int) = (l1.length : Int)
 ·rw [if_pos c3] at H
  have c3b0 : ((l0.length : Int) == (l1.length : Int)) = true := beq_iff_eq.mpr c3
  have c3b1 : ((l0.length : Int) != (l1.length : Int)) = false := bne_eq_false_iff_eq.mpr c3
  have c3b2 : (l0.length == l1.length) = true := by first | simpa using c3 | (simp at c3 ⊢; omega)
  clear c3
  have H' := a_ H
  clear H
  go_enter Try.func11, Try.ntmps11
  go_wp2
  repeat (go_quiet (fail); try go_wp2)
  go_loopg [5] k (fun kq v5 w' => ∃ (x5_1 : Int), v5 = .int .i64 x5_1 ∧ Aside0 (variorumref12_Placed.l0 kq l0 l1 x5_1 = some r) ∧ Aside0 (kq ≤ k) ∧ Drawn0 w w')
  case atStart => exact ⟨(0), (by first | rfl | (simp; done) | (simp [*]; done)), H', ⟨Nat.le_refl _⟩, by repeat (first | exact Drawn0.refl _ | apply Drawn0.step)⟩
  case round =>
   clear H'
   try clear c1
   try clear p2
   try clear c3
   try clear c3b0
   try clear c3b1
   try clear c3b2
   obtain ⟨x5_1, rfl, HA, HK1, ⟨m1, rfl⟩⟩ := hrel
   cases gk with
   | zero => exact absurd HA.out (by simp [variorumref12_Placed.l0])
   | succ k1 =>
    have H := HA.out
    clear HA
    simp only [variorumref12_Placed.l0] at H
    by_cases c4 : x5_1 < (l0.length : Int)
    ·rw [if_pos c4] at H
     have c4b0 : decide (x5_1 < (l0.length : Int)) = true := decide_eq_true c4
     clear c4
     by_cases c5 : 0 ≤ x5_1
     ·rw [if_pos c5] at H
      have c5b0 : decide (0 ≤ x5_1) = true := decide_eq_true c5
      clear c5
      by_cases c6 : x5_1 < (l1.length : Int)
      ·rw [if_pos c6] at H
       have c6b0 : decide (x5_1 < (l1.length : Int)) = true := decide_eq_true c6
       clear c6
       by_cases c7 : (!(((rd_T42 l0 x5_1).f0) == ((rd_T42 l1 x5_1).f0)) || (!(((rd_T42 l0 x5_1).f1) == ((rd_T42 l1 x5_1).f1)) || (!(((rd_T42 l0 x5_1).f2) == ((rd_T42 l1 x5_1).f2)) || (!(((rd_T42 l0 x5_1).f3) == ((rd_T42 l1 x5_1).f3)))))) = true
       ·rw [if_pos c7] at H
        exact absurd H (by simp)
       ·rw [if_neg c7] at H
        have c7b0 : (!(((rd_T42 l0 x5_1).f0) == ((rd_T42 l1 x5_1).f0)) || (!(((rd_T42 l0 x5_1).f1) == ((rd_T42 l1 x5_1).f1)) || (!(((rd_T42 l0 x5_1).f2) == ((rd_T42 l1 x5_1).f2)) || (!(((rd_T42 l0 x5_1).f3) == ((rd_T42 l1 x5_1).f3)))))) = false := by simpa using c7
        clear c7
        have H' := a_ H
        clear H
        have p249 : 0 ≤ (x5_1 : Int) := od_
        have q249 : x5_1 < (l0.length : Int) := od_
        obtain ⟨ad249, e249, hx249_0, hx249_1, hx249_2, hx249_3⟩ := at_T42 HR0.out x5_1 p249 q249
        cases e249
        replace p249 := eq_true p249
        replace q249 := eq_true q249
        have p250 : 0 ≤ (x5_1 : Int) := od_
        have q250 : x5_1 < (l1.length : Int) := od_
        obtain ⟨ad250, e250, hx250_0, hx250_1, hx250_2, hx250_3⟩ := at_T42 HR1.out x5_1 p250 q250
        cases e250
        replace p250 := eq_true p250
        replace q250 := eq_true q250
        go_wp2
        repeat (go_quiet (fail); try go_wp2)
        go_roundg k1
        case measure => have := HK1.out; omega
        case rel => exact ⟨(wrap64 (x5_1 + 1)), (by first | rfl | (simp; done) | (simp [*]; done)), H', ⟨by have := HK1.out; omega⟩, by repeat (first | exact Drawn0.refl _ | apply Drawn0.step)⟩
      ·rw [if_neg c6] at H
       exact absurd H (by simp)
     ·rw [if_neg c5] at H
      exact absurd H (by simp)
    ·rw [if_neg c4] at H
     have c4b0 : decide (x5_1 < (l0.length : Int)) = false := decide_eq_false c4
     clear c4
     obtain rfl := Option.some.inj H
     go_wp2
     repeat (go_quiet (fail); try go_wp2)
     go_ret
     exact ⟨by first | rfl | (simp; done) | (simp [*]; done), by repeat (first | exact Drawn0.refl _ | apply Drawn0.step)⟩
 ·rw [if_neg c3] at H
  exact absurd H (by simp)

/-! ### setter_Words: function 12 -/
def setter_Words.l0 : Nat → List (S42) → List (S44) → Int → Int → Option ((List (S42)))
 | 0, _, _, _, _ => none
 | k + 1, x3, x6, x7, x8 => if x8 < x7 then (if 0 ≤ x8 then (if x8 < (x6.length : Int) then (if x3.length + ((rd_T44 x6 x8).f2).length < 4398046511104 then (setter_Words.l0 k (x3 ++ ((rd_T44 x6 x8).f2)) x6 x7 (wrap64 (x8 + 1))) else (none)) else (none)) else (none)) else (some x3)
def setter_Words.f (k : Nat) (l0 : List (S44)) : Option ((List (S42))) := setter_Words.l0 k ([] : List (S42)) l0 (l0.length : Int) 0
theorem setter_Words.mono_l : ∀ k, (∀ y0 y1 y2 y3, LeO (setter_Words.l0 k y0 y1 y2 y3) (setter_Words.l0 (k + 1) y0 y1 y2 y3))
 | 0 => fun _ _ _ _ r h => by simp [setter_Words.l0] at h
 | k + 1 => by
  have ih0 := setter_Words.mono_l k
  ·intro y0 y1 y2 y3
   unfold setter_Words.l0
   repeat' first | (with_reducible first | exact ih0 _ _ _ _ | exact LeO.refl _ | exact LeO.none _ | refine LeO.ite ?_ ?_ | refine LeO.bind ?_ (fun _ => ?_)) | exact LeO.none _ | refine LeO.ite ?_ ?_ | refine LeO.bind ?_ (fun _ => ?_)
theorem setter_Words.mono : ∀ a0 k, LeO (setter_Words.f k a0) (setter_Words.f (k + 1) a0) := by
 intro a0 k
 have ih0 := setter_Words.mono_l k
 unfold setter_Words.f
 repeat' first
   | (with_reducible exact ih0 _ _ _ _)
   | (with_reducible exact LeO.refl _)
   | (with_reducible exact LeO.none _)
   | (with_reducible refine LeO.ite ?_ ?_)
   | (with_reducible refine LeO.bind ?_ (fun _ => ?_))
   | exact ih0 _ _ _ _
   | exact LeO.none _
   | refine LeO.ite ?_ ?_
   | refine LeO.bind ?_ (fun _ => ?_)
set_option maxHeartbeats 8000000 in
set_option maxRecDepth 100000 in
theorem setter_Words.calls (k : Nat) (A0 : Option Addr) (c0 : Nat) (l0 : List (S44)) (r : List (S42)) (w : World) (hr0 : Kd.C k44 w A0 l0.length l0) (hc0 : l0.length ≤ c0) (h : setter_Words.f k l0 = some r) :
  Calls Try.prog 12 #[.slice A0 l0.length c0] w fun e w' => ∃ v0_ : Value, e = .returned (v0_) ∧ Kd.R k42 42 w' w.heap.size (fun _ => True) v0_ r ∧ Below w.heap.size w w' := by
 have hu44 := Try.underlying44
 have HR0 := a_ hr0
 have HC0 := a_ hc0
 clear hr0 hc0
 have HB := a_ (Below.refl w.heap.size w)
 have H : (setter_Words.l0 k ([] : List (S42)) l0 (l0.length : Int) 0) = some r := h
 clear h
 have H' := a_ H
 clear H
 go_enter Try.func12, Try.ntmps12
 go_wp2
 go_loopg [3, 8] k (fun kq v3 v8 w' => ∃ (x3_1 : List (S42)) (x8_1 : Int), v8 = .int .i64 x8_1 ∧ Aside0 (setter_Words.l0 kq x3_1 l0 (l0.length : Int) x8_1 = some r) ∧ Aside0 (kq ≤ k) ∧ Aside0 (Kd.R k42 42 w' w.heap.size (fun _ => True) v3 x3_1) ∧ Aside0 (Below w.heap.size w w'))
 case atStart => exact ⟨(([] : List (S42))), (0), (by first | rfl | (simp; done) | (simp [*]; done)), H', ⟨Nat.le_refl _⟩, ⟨by first | exact Kd.R_nil _ _ _ _ _ | exact Kd.N_nil _ _ _ _ _ | exact Kd.V_nil _ _ _ _ _ | exact Kd.Q_nil _ _ _ _ _ | exact Kd.S_nil _ _ _ _ _⟩, ⟨bv_ HB.out⟩⟩
 case round =>
  clear H'
  try clear c1
  obtain ⟨x3_1, x8_1, rfl, HA, HK1, HO_3, HB⟩ := hrel
  cases gk with
  | zero => exact absurd HA.out (by simp [setter_Words.l0])
  | succ k1 =>
   have H := HA.out
   clear HA
   simp only [setter_Words.l0] at H
   by_cases c2 : x8_1 < (l0.length : Int)
   ·rw [if_pos c2] at H
    have c2b0 : decide (x8_1 < (l0.length : Int)) = true := decide_eq_true c2
    clear c2
    by_cases c3 : 0 ≤ x8_1
    ·rw [if_pos c3] at H
     have c3b0 : decide (0 ≤ x8_1) = true := decide_eq_true c3
     clear c3
     by_cases c4 : x8_1 < (l0.length : Int)
     ·rw [if_pos c4] at H
      have c4b0 : decide (x8_1 < (l0.length : Int)) = true := decide_eq_true c4
      clear c4
      by_cases c5 : x3_1.length + ((rd_T44 l0 x8_1).f2).length < 4398046511104
      ·rw [if_pos c5] at H
       have LMc5 := a_ c5
       clear c5
       obtain ⟨y253, hy253⟩ : ∃ y_ : List (S42), y_ = (x3_1 ++ ((rd_T44 l0 x8_1).f2)) := ⟨_, rfl⟩
       replace H : (setter_Words.l0 k1 y253 l0 (l0.length : Int) (wrap64 (x8_1 + 1))) = some r := by first | (rw [hy253]; with_reducible exact H) | (have H2_ := (Option.bind_some _ _).symm.trans H; rw [hy253]; with_reducible exact H2_) | (have H2_ := (Option.bind_some _ _).symm.trans H; with_reducible exact H2_) | with_reducible exact H | (rw [hy253]; exact H) | exact H
       have Ny253 := a_ hy253
       clear hy253
       have H' := a_ H
       clear H
       have p251 : 0 ≤ (x8_1 : Int) := od_
       have q251 : x8_1 < (l0.length : Int) := od_
       obtain ⟨ad251, A251_2, c251_2, e251, hx251_0, hx251_1, hx251_2, hx251_3, hx251_4, hx251_5, hl251_2, hi251_2⟩ := at_T44 HR0.out x8_1 p251 q251
       cases e251
       try replace hx251_0 := up_ HB.out hx251_0
       try replace hx251_1 := up_ HB.out hx251_1
       try replace hx251_2 := up_ HB.out hx251_2
       try replace hx251_3 := up_ HB.out hx251_3
       try replace hx251_4 := up_ HB.out hx251_4
       try replace hx251_5 := up_ HB.out hx251_5
       have HR251_2 := a_ hi251_2
       have HC251_2 := a_ hl251_2
       clear hi251_2 hl251_2
       replace p251 := eq_true p251
       replace q251 := eq_true q251
       go_wp2_with (first | ((with_reducible refine gate_dst (N := 5) rfl ?_); refine box_event ?hg (N := 5) ?hd (cs := #[.int .i64 0, .int .i64 0, .slice none 0 0, .bool false, .int .i64 0, .int .i64 0]) (t := 44) ?hr ?_; (case hd => rfl); (case hg => rfl); (case hr => first | (go_simp; done) | (go_simp; rfl)); intro gb252 hg w6 hbox hb; have n0_ := a_ (Kd.R_below (rv_ HO_3.out) hb); have n1_ := a_ (bs_ HB.out hb); have n2_ := a_ (hbox); have n3_ := a_ ((by rw [hg]; exact (below_size (bv_ HB.out)) : w.heap.size ≤ gb252)); have n4_ := a_ ((by rw [hg]; exact (below_size (bv_ HB.out)) : w.heap.size ≤ gb252)); clear HO_3; clear HB; have HO_3 := n0_; have HB := n1_; have BK252 := n2_; have GW252 := n3_; have GE252 := n4_; clear n0_ n1_ n2_ n3_ n4_; clear hb hbox hg; obtain ⟨⟨Z7_0, Y7_0⟩, ⟨Z7_1, Y7_1⟩, ⟨Z7_2, Y7_2⟩, ⟨Z7_3, Y7_3⟩, ⟨Z7_4, Y7_4⟩, Z7_5, Y7_5⟩ := cs6_ BK252.out) | ((with_reducible refine gate_builtin (b := .append) (xs := #[.tmp 12, .tmp 14]) rfl ?_); at_builtin; refine Kd.R_append_rows k42 (w0 := w) w.heap.size rfl (.tmp 12) (.tmp 14) 33 42 (.agg #[(.int .i64 0), (.int .i64 0), (.int .i64 0), (.int .i64 0)]) 32 rfl Try.underlying33 info42 rfl (by decide) (by omega) u3 x3_1 ((rd_T44 l0 x8_1).f2) _ _ _ (fun _ => True) (fun _ => False) rfl rfl ?aO ?aR (fun _ _ h => h) (fun _ h => h.elim) ?aF ?aB ?aS ?aL ?_; (case aR => exact Kd.C_below HR251_2.out (bS1_ HB.out GE252.out)); (case aB => exact (bS1_ HB.out GE252.out)); (case aF => exact (fun _ _ => trivial)); (case aO => exact (by (with_reducible repeat (first | apply Kd.R_alloc | apply Kd.R_drewN | apply Kd.R_drew)); exact Kd.R_mono (Kd.R_far (p := ⟨gb252, 5, none⟩) (Kd.R_far (p := ⟨gb252, 4, none⟩) (Kd.R_far (p := ⟨gb252, 3, none⟩) (Kd.R_far (p := ⟨gb252, 2, none⟩) (Kd.R_far (p := ⟨gb252, 1, none⟩) (Kd.R_far (p := ⟨gb252, 0, none⟩) (Kd.R_types HO_3.out BK252.out (by decide)) (fun _ hk => hk.2) (.int .i64 ((rd_T44 l0 x8_1).f0))) (fun _ hk => hk.2) (.int .i64 ((rd_T44 l0 x8_1).f1))) (fun _ hk => hk.2) (.slice A251_2 ((rd_T44 l0 x8_1).f2).length c251_2)) (fun _ hk => hk.2) (.bool ((rd_T44 l0 x8_1).f3))) (fun _ hk => hk.2) (.int .i64 ((rd_T44 l0 x8_1).f4))) (fun _ hk => hk.2) (.int .i64 ((rd_T44 l0 x8_1).f5))) (fun _ hk => trivial))); (case aS => exact (below_size (bS1_ HB.out GE252.out))); (case aL => have := LMc5.out; omega); intro v254 w8 ho hb hg hat; rw [← Ny253.out] at ho; have n0_ := a_ (blk_grown (g := gb252) (o := .cells #[.int .i64 ((rd_T44 l0 x8_1).f0), .int .i64 ((rd_T44 l0 x8_1).f1), .slice A251_2 ((rd_T44 l0 x8_1).f2).length c251_2, .bool ((rd_T44 l0 x8_1).f3), .int .i64 ((rd_T44 l0 x8_1).f4), .int .i64 ((rd_T44 l0 x8_1).f5)] 44 (0, 0)) (kp0_ BK252.out) hg (Kd.R_ne HO_3.out BK252.out (by decide))); have n1_ := a_ (hb); have n2_ := a_ (ho); clear BK252; clear HB; clear HO_3; have BK252 := n0_; have HB := n1_; have HO255 := n2_; clear n0_ n1_ n2_; clear ho hb hg hat))
       go_roundg k1
       case measure => have := HK1.out; omega
       case rel => exact ⟨(y253), (wrap64 (x8_1 + 1)), (by first | rfl | (simp; done) | (simp [*]; done)), H', ⟨by have := HK1.out; omega⟩, ⟨by (with_reducible repeat (first | apply Kd.R_alloc | apply Kd.R_drewN | apply Kd.R_drew)); exact HO255.out⟩, ⟨bS1_ HB.out GE252.out⟩⟩
      ·rw [if_neg c5] at H
       exact absurd H (by simp)
     ·rw [if_neg c4] at H
      exact absurd H (by simp)
    ·rw [if_neg c3] at H
     exact absurd H (by simp)
   ·rw [if_neg c2] at H
    have c2b0 : decide (x8_1 < (l0.length : Int)) = false := decide_eq_false c2
    clear c2
    obtain rfl := Option.some.inj H
    go_wp2
    go_ret
    exact ⟨_, by first | rfl | (simp [errW_none, errW_some] <;> rfl) | (simp [*, errW_none, errW_some] <;> rfl), by (with_reducible repeat (first | apply Kd.R_alloc | apply Kd.R_drewN | apply Kd.R_drew)); exact HO_3.out, bv_ HB.out⟩

/-! ### variorumlaw12_two: function 17 -/
def variorumlaw12_two.f  : Option ((List (S40))) := some (([(⟨0, (⟨10, 0, 0, 0⟩ : S38), 0, false, 0, 0⟩ : S40), (⟨1, (⟨2, 1, 0, 0⟩ : S38), 0, false, 0, 0⟩ : S40), (⟨0, (⟨10, 0, 0, 0⟩ : S38), 0, false, 0, 0⟩ : S40), (⟨2, (⟨0, 0, 0, 0⟩ : S38), (-10000), false, 0, 0⟩ : S40)] : List (S40)))
set_option maxHeartbeats 8000000 in
set_option maxRecDepth 100000 in
theorem variorumlaw12_two.calls  (r : List (S40)) (w : World) (h : variorumlaw12_two.f  = some r) :
  Calls Try.prog 17 #[] w fun e w' => ∃ v0_ : Value, e = .returned (v0_) ∧ Kd.R k40 40 w' w.heap.size (fun _ => True) v0_ r ∧ Below w.heap.size w w' := by
 have hu38 := Try.underlying38
 have hu40 := Try.underlying40
 have HB := a_ (Below.refl w.heap.size w)
 have H : (some (([(⟨0, (⟨10, 0, 0, 0⟩ : S38), 0, false, 0, 0⟩ : S40), (⟨1, (⟨2, 1, 0, 0⟩ : S38), 0, false, 0, 0⟩ : S40), (⟨0, (⟨10, 0, 0, 0⟩ : S38), 0, false, 0, 0⟩ : S40), (⟨2, (⟨0, 0, 0, 0⟩ : S38), (-10000), false, 0, 0⟩ : S40)] : List (S40)))) = some r := h
 clear h
 obtain ⟨y257, hy257⟩ : ∃ y_ : List (S40), y_ = (([(⟨0, (⟨10, 0, 0, 0⟩ : S38), 0, false, 0, 0⟩ : S40), (⟨1, (⟨2, 1, 0, 0⟩ : S38), 0, false, 0, 0⟩ : S40), (⟨0, (⟨10, 0, 0, 0⟩ : S38), 0, false, 0, 0⟩ : S40), (⟨2, (⟨0, 0, 0, 0⟩ : S38), (-10000), false, 0, 0⟩ : S40)] : List (S40))) := ⟨_, rfl⟩
 replace H : (some y257) = some r := by first | (rw [hy257]; with_reducible exact H) | (have H2_ := (Option.bind_some _ _).symm.trans H; rw [hy257]; with_reducible exact H2_) | (have H2_ := (Option.bind_some _ _).symm.trans H; with_reducible exact H2_) | with_reducible exact H | (rw [hy257]; exact H) | exact H
 have Ny257 := a_ hy257
 clear hy257
 obtain rfl := Option.some.inj H
 go_enter Try.func17, Try.ntmps17
 go_wp2_with (first | ((with_reducible refine gate_dst (N := 1) rfl ?_); refine box_event ?hg (N := 1) ?hd (cs := #[.int .i64 0, .int .i64 0, .int .i64 0, .int .i64 0, .int .i64 0, .int .i64 0, .bool false, .int .i64 0, .int .i64 0]) (t := 40) ?hr ?_; (case hd => rfl); (case hg => rfl); (case hr => first | (go_simp; done) | (go_simp; rfl)); intro gb256 hg w1 hbox hb; have n0_ := a_ (bs_ HB.out hb); have n1_ := a_ (hbox); have n2_ := a_ ((by rw [hg]; exact (below_size (bv_ HB.out)) : w.heap.size ≤ gb256)); have n3_ := a_ ((by rw [hg]; exact (below_size (bv_ HB.out)) : w.heap.size ≤ gb256)); clear HB; have HB := n0_; have BK256 := n1_; have GW256 := n2_; have GE256 := n3_; clear n0_ n1_ n2_ n3_; clear hb hbox hg; obtain ⟨⟨Z2_0, Y2_0⟩, ⟨Z2_1, Y2_1⟩, ⟨Z2_2, Y2_2⟩, ⟨Z2_3, Y2_3⟩, ⟨Z2_4, Y2_4⟩, ⟨Z2_5, Y2_5⟩, ⟨Z2_6, Y2_6⟩, ⟨Z2_7, Y2_7⟩, Z2_8, Y2_8⟩ := cs9_ BK256.out) | ((with_reducible refine gate_dst (N := 9) rfl ?_); refine Kd.R_lit k40 _ 40 ?hg (N := 9) ?hd (xs := ([(⟨0, (⟨10, 0, 0, 0⟩ : S38), 0, false, 0, 0⟩ : S40), (⟨1, (⟨2, 1, 0, 0⟩ : S38), 0, false, 0, 0⟩ : S40), (⟨0, (⟨10, 0, 0, 0⟩ : S38), 0, false, 0, 0⟩ : S40), (⟨2, (⟨0, 0, 0, 0⟩ : S38), (-10000), false, 0, 0⟩ : S40)] : List (S40))) (inner := [.int .i64 0, .int .i64 10, .int .i64 0, .int .i64 0, .int .i64 0, .int .i64 0, .bool false, .int .i64 0, .int .i64 0, .int .i64 1, .int .i64 2, .int .i64 1, .int .i64 0, .int .i64 0, .int .i64 0, .bool false, .int .i64 0, .int .i64 0, .int .i64 0, .int .i64 10, .int .i64 0, .int .i64 0, .int .i64 0, .int .i64 0, .bool false, .int .i64 0, .int .i64 0, .int .i64 2, .int .i64 0, .int .i64 0, .int .i64 0, .int .i64 0, .int .i64 (-10000), .bool false, .int .i64 0, .int .i64 0]) (ok := fun _ => True) (okp := fun _ => True) ?hr ?hp (fun _ hk => hk) trivial (Below.refl _ _) (Nat.le_refl _) (by simp) ?_; (case hd => rfl); (case hg => rfl); (case hr => first | (go_simp; done) | (go_simp; rfl)); (case hp => exact (Reps.c9 (show Kd.M k40 _ _ _ (⟨0, (⟨10, 0, 0, 0⟩ : S38), 0, false, 0, 0⟩ : S40) [.int .i64 0, .int .i64 10, .int .i64 0, .int .i64 0, .int .i64 0, .int .i64 0, .bool false, .int .i64 0, .int .i64 0] from (k40_mkM _ _ _ (⟨0, (⟨10, 0, 0, 0⟩ : S38), 0, false, 0, 0⟩ : S40) )) (Reps.c9 (show Kd.M k40 _ _ _ (⟨1, (⟨2, 1, 0, 0⟩ : S38), 0, false, 0, 0⟩ : S40) [.int .i64 1, .int .i64 2, .int .i64 1, .int .i64 0, .int .i64 0, .int .i64 0, .bool false, .int .i64 0, .int .i64 0] from (k40_mkM _ _ _ (⟨1, (⟨2, 1, 0, 0⟩ : S38), 0, false, 0, 0⟩ : S40) )) (Reps.c9 (show Kd.M k40 _ _ _ (⟨0, (⟨10, 0, 0, 0⟩ : S38), 0, false, 0, 0⟩ : S40) [.int .i64 0, .int .i64 10, .int .i64 0, .int .i64 0, .int .i64 0, .int .i64 0, .bool false, .int .i64 0, .int .i64 0] from (k40_mkM _ _ _ (⟨0, (⟨10, 0, 0, 0⟩ : S38), 0, false, 0, 0⟩ : S40) )) (Reps.c9 (show Kd.M k40 _ _ _ (⟨2, (⟨0, 0, 0, 0⟩ : S38), (-10000), false, 0, 0⟩ : S40) [.int .i64 2, .int .i64 0, .int .i64 0, .int .i64 0, .int .i64 0, .int .i64 (-10000), .bool false, .int .i64 0, .int .i64 0] from (k40_mkM _ _ _ (⟨2, (⟨0, 0, 0, 0⟩ : S38), (-10000), false, 0, 0⟩ : S40) )) (Reps.none _ _)))))); intro v258 w3 ho4 hb hg_ hnew_; clear hg_ hnew_; (first | rw [← Ny257.out] at ho4 | (simp only [Int.reduceToNat] at ho4; rw [← Ny257.out] at ho4)); have n0_ := a_ (Kd.R_lower (Kd.R_newB ho4 (g := gb256) (o := .cells #[.int .i64 0, .int .i64 10, .int .i64 0, .int .i64 0, .int .i64 0, .int .i64 0, .bool false, .int .i64 0, .int .i64 0] 40 (0, 0)) (kp0_ BK256.out)) (below_size (bS1_ HB.out GE256.out))); have n1_ := a_ (blk_below (g := gb256) (o := .cells #[.int .i64 0, .int .i64 10, .int .i64 0, .int .i64 0, .int .i64 0, .int .i64 0, .bool false, .int .i64 0, .int .i64 0] 40 (0, 0)) (kp0_ BK256.out) hb); have n2_ := a_ (below_step (bS1_ HB.out GE256.out) hb); clear BK256; clear HB; have HO259 := n0_; have BK256 := n1_; have HB := n2_; clear n0_ n1_ n2_; clear hb ho4))
 go_ret
 exact ⟨_, by first | rfl | (simp [errW_none, errW_some] <;> rfl) | (simp [*, errW_none, errW_some] <;> rfl), by (with_reducible repeat (first | apply Kd.R_alloc | apply Kd.R_drewN | apply Kd.R_drew)); exact Kd.R_mono HO259.out (fun _ hk => trivial), bS1_ HB.out GE256.out⟩

/-! ### variorumlaw12_fixed: function 7 -/
def variorumlaw12_fixed.f (k : Nat)  : Option (Bool) := (variorumlaw12_two.f).bind fun t260 => ((setter_Lines.f k t260 (([3] : List Int)) 25).bind fun bt266 => ((variorumlaw12_two.f).bind fun t272 => ((setter_Lines.f k t272 ([] : List Int) 25).bind fun bt275 => ((variorumlaw12_two.f).bind fun t281 => ((setter_Lines.f k t281 (([1, 1] : List Int)) 25).bind fun bt287 => (if bt266.2.1 = 0 then (if (bt266.1.length : Int) = 1 then (if 0 < (bt266.1.length : Int) then ((variorumref12_Placed.f k ((rd_T44 bt266.1 0).f2) (([(⟨0, 0, 0, 10⟩ : S42), (⟨0, 0, 15, 10⟩ : S42)] : List (S42)))).bind fun t297 => (if t297 = true then (if ((rd_T44 bt266.1 0).f4) = 25 then ((setter_Words.f k bt266.1).bind fun t299 => (if (t299.length : Int) = 2 then (if (bt275.2.1 == 120 && (bt275.2.2 == 0)) = true then (some (bt287.2.1 == 120 && (bt287.2.2 == 1))) else (none)) else (none))) else (none)) else (none))) else (none)) else (none)) else (none)))))))
theorem variorumlaw12_fixed.mono : ∀ k, LeO (variorumlaw12_fixed.f k ) (variorumlaw12_fixed.f (k + 1) ) := by
 intro  k
 unfold variorumlaw12_fixed.f
 repeat' first
   | (with_reducible exact setter_Lines.mono _ _ _ _)
   | (with_reducible exact setter_Words.mono _ _)
   | (with_reducible exact variorumref12_Placed.mono _ _ _)
   | (with_reducible exact LeO.refl _)
   | (with_reducible exact LeO.none _)
   | (with_reducible refine LeO.ite ?_ ?_)
   | (with_reducible refine LeO.bind ?_ (fun _ => ?_))
   | exact setter_Lines.mono _ _ _ _
   | exact setter_Words.mono _ _
   | exact variorumref12_Placed.mono _ _ _
   | exact LeO.none _
   | refine LeO.ite ?_ ?_
   | refine LeO.bind ?_ (fun _ => ?_)
set_option maxHeartbeats 8000000 in
set_option maxRecDepth 100000 in
theorem variorumlaw12_fixed.calls (k : Nat)  (r : Bool) (w : World) (h : variorumlaw12_fixed.f k  = some r) :
  Calls Try.prog 7 #[] w fun e w' => e = .returned (.bool r) ∧ Below w.heap.size w w' := by
 have hu28 := Try.underlying28
 have hu42 := Try.underlying42
 have HB := a_ (Below.refl w.heap.size w)
 have H : ((variorumlaw12_two.f).bind fun t260 => ((setter_Lines.f k t260 (([3] : List Int)) 25).bind fun bt266 => ((variorumlaw12_two.f).bind fun t272 => ((setter_Lines.f k t272 ([] : List Int) 25).bind fun bt275 => ((variorumlaw12_two.f).bind fun t281 => ((setter_Lines.f k t281 (([1, 1] : List Int)) 25).bind fun bt287 => (if bt266.2.1 = 0 then (if (bt266.1.length : Int) = 1 then (if 0 < (bt266.1.length : Int) then ((variorumref12_Placed.f k ((rd_T44 bt266.1 0).f2) (([(⟨0, 0, 0, 10⟩ : S42), (⟨0, 0, 15, 10⟩ : S42)] : List (S42)))).bind fun t297 => (if t297 = true then (if ((rd_T44 bt266.1 0).f4) = 25 then ((setter_Words.f k bt266.1).bind fun t299 => (if (t299.length : Int) = 2 then (if (bt275.2.1 == 120 && (bt275.2.2 == 0)) = true then (some (bt287.2.1 == 120 && (bt287.2.2 == 1))) else (none)) else (none))) else (none)) else (none))) else (none)) else (none)) else (none)))))))) = some r := h
 clear h
 replace H := Option.bind_eq_some_iff.mp H
 obtain ⟨t260, A10, H⟩ := H
 replace H : ((setter_Lines.f k t260 (([3] : List Int)) 25).bind fun bt266 => ((variorumlaw12_two.f).bind fun t272 => ((setter_Lines.f k t272 ([] : List Int) 25).bind fun bt275 => ((variorumlaw12_two.f).bind fun t281 => ((setter_Lines.f k t281 (([1, 1] : List Int)) 25).bind fun bt287 => (if bt266.2.1 = 0 then (if (bt266.1.length : Int) = 1 then (if 0 < (bt266.1.length : Int) then ((variorumref12_Placed.f k ((rd_T44 bt266.1 0).f2) (([(⟨0, 0, 0, 10⟩ : S42), (⟨0, 0, 15, 10⟩ : S42)] : List (S42)))).bind fun t297 => (if t297 = true then (if ((rd_T44 bt266.1 0).f4) = 25 then ((setter_Words.f k bt266.1).bind fun t299 => (if (t299.length : Int) = 2 then (if (bt275.2.1 == 120 && (bt275.2.2 == 0)) = true then (some (bt287.2.1 == 120 && (bt287.2.2 == 1))) else (none)) else (none))) else (none)) else (none))) else (none)) else (none)) else (none))))))) = some r := H
 have A1 := a_ A10
 clear A10
 obtain ⟨y263, hy263⟩ : ∃ y_ : List Int, y_ = (([3] : List Int)) := ⟨_, rfl⟩
 replace H : ((setter_Lines.f k t260 y263 25).bind fun bt266 => ((variorumlaw12_two.f).bind fun t272 => ((setter_Lines.f k t272 ([] : List Int) 25).bind fun bt275 => ((variorumlaw12_two.f).bind fun t281 => ((setter_Lines.f k t281 (([1, 1] : List Int)) 25).bind fun bt287 => (if bt266.2.1 = 0 then (if (bt266.1.length : Int) = 1 then (if 0 < (bt266.1.length : Int) then ((variorumref12_Placed.f k ((rd_T44 bt266.1 0).f2) (([(⟨0, 0, 0, 10⟩ : S42), (⟨0, 0, 15, 10⟩ : S42)] : List (S42)))).bind fun t297 => (if t297 = true then (if ((rd_T44 bt266.1 0).f4) = 25 then ((setter_Words.f k bt266.1).bind fun t299 => (if (t299.length : Int) = 2 then (if (bt275.2.1 == 120 && (bt275.2.2 == 0)) = true then (some (bt287.2.1 == 120 && (bt287.2.2 == 1))) else (none)) else (none))) else (none)) else (none))) else (none)) else (none)) else (none))))))) = some r := by first | (rw [hy263]; with_reducible exact H) | (have H2_ := (Option.bind_some _ _).symm.trans H; rw [hy263]; with_reducible exact H2_) | (have H2_ := (Option.bind_some _ _).symm.trans H; with_reducible exact H2_) | with_reducible exact H | (rw [hy263]; exact H) | exact H
 have Ny263 := a_ hy263
 clear hy263
 replace H := Option.bind_eq_some_iff.mp H
 obtain ⟨⟨t266, t269, t270⟩, A20, H⟩ := H
 replace H : ((variorumlaw12_two.f).bind fun t272 => ((setter_Lines.f k t272 ([] : List Int) 25).bind fun bt275 => ((variorumlaw12_two.f).bind fun t281 => ((setter_Lines.f k t281 (([1, 1] : List Int)) 25).bind fun bt287 => (if t269 = 0 then (if (t266.length : Int) = 1 then (if 0 < (t266.length : Int) then ((variorumref12_Placed.f k ((rd_T44 t266 0).f2) (([(⟨0, 0, 0, 10⟩ : S42), (⟨0, 0, 15, 10⟩ : S42)] : List (S42)))).bind fun t297 => (if t297 = true then (if ((rd_T44 t266 0).f4) = 25 then ((setter_Words.f k t266).bind fun t299 => (if (t299.length : Int) = 2 then (if (bt275.2.1 == 120 && (bt275.2.2 == 0)) = true then (some (bt287.2.1 == 120 && (bt287.2.2 == 1))) else (none)) else (none))) else (none)) else (none))) else (none)) else (none)) else (none)))))) = some r := H
 have A2 := a_ A20
 clear A20
 replace H := Option.bind_eq_some_iff.mp H
 obtain ⟨t272, A30, H⟩ := H
 replace H : ((setter_Lines.f k t272 ([] : List Int) 25).bind fun bt275 => ((variorumlaw12_two.f).bind fun t281 => ((setter_Lines.f k t281 (([1, 1] : List Int)) 25).bind fun bt287 => (if t269 = 0 then (if (t266.length : Int) = 1 then (if 0 < (t266.length : Int) then ((variorumref12_Placed.f k ((rd_T44 t266 0).f2) (([(⟨0, 0, 0, 10⟩ : S42), (⟨0, 0, 15, 10⟩ : S42)] : List (S42)))).bind fun t297 => (if t297 = true then (if ((rd_T44 t266 0).f4) = 25 then ((setter_Words.f k t266).bind fun t299 => (if (t299.length : Int) = 2 then (if (bt275.2.1 == 120 && (bt275.2.2 == 0)) = true then (some (bt287.2.1 == 120 && (bt287.2.2 == 1))) else (none)) else (none))) else (none)) else (none))) else (none)) else (none)) else (none))))) = some r := H
 have A3 := a_ A30
 clear A30
 replace H := Option.bind_eq_some_iff.mp H
 obtain ⟨⟨t275, t278, t279⟩, A40, H⟩ := H
 replace H : ((variorumlaw12_two.f).bind fun t281 => ((setter_Lines.f k t281 (([1, 1] : List Int)) 25).bind fun bt287 => (if t269 = 0 then (if (t266.length : Int) = 1 then (if 0 < (t266.length : Int) then ((variorumref12_Placed.f k ((rd_T44 t266 0).f2) (([(⟨0, 0, 0, 10⟩ : S42), (⟨0, 0, 15, 10⟩ : S42)] : List (S42)))).bind fun t297 => (if t297 = true then (if ((rd_T44 t266 0).f4) = 25 then ((setter_Words.f k t266).bind fun t299 => (if (t299.length : Int) = 2 then (if (t278 == 120 && (t279 == 0)) = true then (some (bt287.2.1 == 120 && (bt287.2.2 == 1))) else (none)) else (none))) else (none)) else (none))) else (none)) else (none)) else (none)))) = some r := H
 have A4 := a_ A40
 clear A40
 replace H := Option.bind_eq_some_iff.mp H
 obtain ⟨t281, A50, H⟩ := H
 replace H : ((setter_Lines.f k t281 (([1, 1] : List Int)) 25).bind fun bt287 => (if t269 = 0 then (if (t266.length : Int) = 1 then (if 0 < (t266.length : Int) then ((variorumref12_Placed.f k ((rd_T44 t266 0).f2) (([(⟨0, 0, 0, 10⟩ : S42), (⟨0, 0, 15, 10⟩ : S42)] : List (S42)))).bind fun t297 => (if t297 = true then (if ((rd_T44 t266 0).f4) = 25 then ((setter_Words.f k t266).bind fun t299 => (if (t299.length : Int) = 2 then (if (t278 == 120 && (t279 == 0)) = true then (some (bt287.2.1 == 120 && (bt287.2.2 == 1))) else (none)) else (none))) else (none)) else (none))) else (none)) else (none)) else (none))) = some r := H
 have A5 := a_ A50
 clear A50
 obtain ⟨y284, hy284⟩ : ∃ y_ : List Int, y_ = (([1, 1] : List Int)) := ⟨_, rfl⟩
 replace H : ((setter_Lines.f k t281 y284 25).bind fun bt287 => (if t269 = 0 then (if (t266.length : Int) = 1 then (if 0 < (t266.length : Int) then ((variorumref12_Placed.f k ((rd_T44 t266 0).f2) (([(⟨0, 0, 0, 10⟩ : S42), (⟨0, 0, 15, 10⟩ : S42)] : List (S42)))).bind fun t297 => (if t297 = true then (if ((rd_T44 t266 0).f4) = 25 then ((setter_Words.f k t266).bind fun t299 => (if (t299.length : Int) = 2 then (if (t278 == 120 && (t279 == 0)) = true then (some (bt287.2.1 == 120 && (bt287.2.2 == 1))) else (none)) else (none))) else (none)) else (none))) else (none)) else (none)) else (none))) = some r := by first | (rw [hy284]; with_reducible exact H) | (have H2_ := (Option.bind_some _ _).symm.trans H; rw [hy284]; with_reducible exact H2_) | (have H2_ := (Option.bind_some _ _).symm.trans H; with_reducible exact H2_) | with_reducible exact H | (rw [hy284]; exact H) | exact H
 have Ny284 := a_ hy284
 clear hy284
 replace H := Option.bind_eq_some_iff.mp H
 obtain ⟨⟨t287, t290, t291⟩, A60, H⟩ := H
 replace H : (if t269 = 0 then (if (t266.length : Int) = 1 then (if 0 < (t266.length : Int) then ((variorumref12_Placed.f k ((rd_T44 t266 0).f2) (([(⟨0, 0, 0, 10⟩ : S42), (⟨0, 0, 15, 10⟩ : S42)] : List (S42)))).bind fun t297 => (if t297 = true then (if ((rd_T44 t266 0).f4) = 25 then ((setter_Words.f k t266).bind fun t299 => (if (t299.length : Int) = 2 then (if (t278 == 120 && (t279 == 0)) = true then (some (t290 == 120 && (t291 == 1))) else (none)) else (none))) else (none)) else (none))) else (none)) else (none)) else (none)) = some r := H
 have A6 := a_ A60
 clear A60
 by_cases c7 : t269 = 0
 ·rw [if_pos c7] at H
  have c7b0 : (t269 == 0) = true := beq_iff_eq.mpr c7
  have c7b1 : (t269 != 0) = false := bne_eq_false_iff_eq.mpr c7
  clear c7
  by_cases c8 : (t266.length : Int) = 1
  ·rw [if_pos c8] at H
   have c8b0 : ((t266.length : Int) == 1) = true := beq_iff_eq.mpr c8
   have c8b1 : ((t266.length : Int) != 1) = false := bne_eq_false_iff_eq.mpr c8
   clear c8
   by_cases c9 : 0 < (t266.length : Int)
   ·rw [if_pos c9] at H
    have c9b0 : decide (0 < (t266.length : Int)) = true := decide_eq_true c9
    have c9b1 : decide (0 < t266.length) = true := decide_eq_true (by omega)
    clear c9
    obtain ⟨y294, hy294⟩ : ∃ y_ : List (S42), y_ = (([(⟨0, 0, 0, 10⟩ : S42), (⟨0, 0, 15, 10⟩ : S42)] : List (S42))) := ⟨_, rfl⟩
    replace H : ((variorumref12_Placed.f k ((rd_T44 t266 0).f2) y294).bind fun t297 => (if t297 = true then (if ((rd_T44 t266 0).f4) = 25 then ((setter_Words.f k t266).bind fun t299 => (if (t299.length : Int) = 2 then (if (t278 == 120 && (t279 == 0)) = true then (some (t290 == 120 && (t291 == 1))) else (none)) else (none))) else (none)) else (none))) = some r := by first | (rw [hy294]; with_reducible exact H) | (have H2_ := (Option.bind_some _ _).symm.trans H; rw [hy294]; with_reducible exact H2_) | (have H2_ := (Option.bind_some _ _).symm.trans H; with_reducible exact H2_) | with_reducible exact H | (rw [hy294]; exact H) | exact H
    have Ny294 := a_ hy294
    clear hy294
    replace H := Option.bind_eq_some_iff.mp H
    obtain ⟨t297, A100, H⟩ := H
    replace H : (if t297 = true then (if ((rd_T44 t266 0).f4) = 25 then ((setter_Words.f k t266).bind fun t299 => (if (t299.length : Int) = 2 then (if (t278 == 120 && (t279 == 0)) = true then (some (t290 == 120 && (t291 == 1))) else (none)) else (none))) else (none)) else (none)) = some r := H
    have A10 := a_ A100
    clear A100
    by_cases c11 : t297 = true
    ·subst c11
     have H1 : (if ((rd_T44 t266 0).f4) = 25 then ((setter_Words.f k t266).bind fun t299 => (if (t299.length : Int) = 2 then (if (t278 == 120 && (t279 == 0)) = true then (some (t290 == 120 && (t291 == 1))) else (none)) else (none))) else (none)) = some r := by rw [if_pos rfl] at H; exact H
     clear H
     have H := H1
     clear H1
     by_cases c12 : ((rd_T44 t266 0).f4) = 25
     ·rw [if_pos c12] at H
      have c12b0 : (((rd_T44 t266 0).f4) == 25) = true := beq_iff_eq.mpr c12
      have c12b1 : (((rd_T44 t266 0).f4) != 25) = false := bne_eq_false_iff_eq.mpr c12
      clear c12
      replace H := Option.bind_eq_some_iff.mp H
      obtain ⟨t299, A130, H⟩ := H
      replace H : (if (t299.length : Int) = 2 then (if (t278 == 120 && (t279 == 0)) = true then (some (t290 == 120 && (t291 == 1))) else (none)) else (none)) = some r := H
      have A13 := a_ A130
      clear A130
      by_cases c14 : (t299.length : Int) = 2
      ·rw [if_pos c14] at H
       have c14b0 : ((t299.length : Int) == 2) = true := beq_iff_eq.mpr c14
       have c14b1 : ((t299.length : Int) != 2) = false := bne_eq_false_iff_eq.mpr c14
       clear c14
       by_cases c15 : (t278 == 120 && (t279 == 0)) = true
       ·rw [if_pos c15] at H
        have c15b0 : (t278 == 120 && (t279 == 0)) = true := c15
        (try (have c15b1 : decide (t278 = 120 && (t279 == 0)) = true := by simpa using c15))
        (try (have c15b2 : (t278 == 120 && (t279 == 0)) = true := by simpa using c15))
        clear c15
        obtain rfl := Option.some.inj H
        go_enter Try.func7, Try.ntmps7
        go_wp2_with (first | ((with_reducible refine gate_callee (f := 17) rfl ?_); refine gl_ (some 8) Try.func17 (by kernel_rfl) #[] ?_; (with_reducible refine (variorumlaw12_two.calls  t260 _ A1.out).mono ?_); rintro e w16 ⟨v261, rfl, ho0, hb⟩; refine ⟨_, rfl, ?_⟩; have n0_ := a_ (Kd.R_lower ho0 (below_size (bv_ HB.out))); have n1_ := a_ (bs_ HB.out hb); clear HB; have HO262 := n0_; have HB := n1_; clear n0_ n1_; (try clear hb); (try clear hb2); (try clear hk); (try clear hi); (try clear ho0)) | ((with_reducible refine gate_dst (N := 9) rfl ?_); (try (refine gate_guard (by rfl) ?_; dsimp only)); refine Kd.R_lit (Kd.int .i64) _ 3 ?hg (N := 9) ?hd (xs := ([3] : List Int)) (inner := [.int .i64 3]) (ok := fun _ => True) (okp := fun _ => True) ?hr ?hp (fun _ hk => hk) trivial (Below.refl _ _) (Nat.le_refl _) (by simp) ?_; (case hd => rfl); (case hg => rfl); (case hr => first | (go_simp; done) | (go_simp; rfl)); (case hp => exact (Reps.one (show Kd.M (Kd.int .i64) _ _ _ 3 [.int .i64 3] from rfl) (Reps.none _ _))); intro v264 w17 ho18 hb hg_ hnew_; clear hg_ hnew_; (first | rw [← Ny263.out] at ho18 | (simp only [Int.reduceToNat] at ho18; rw [← Ny263.out] at ho18)); have n0_ := a_ (Kd.R_below (rv_ HO262.out) hb); have n1_ := a_ (Kd.R_lower ho18 (below_size (bv_ HB.out))); have n2_ := a_ (bs_ HB.out hb); clear HO262; clear HB; have HO262 := n0_; have HO265 := n1_; have HB := n2_; clear n0_ n1_ n2_; clear hb ho18; obtain ⟨Ao19, co19, eo19⟩ := Kd.R_slice HO262.out; subst eo19; obtain ⟨Ao20, co20, eo20⟩ := Kd.R_slice HO265.out; subst eo20) | ((with_reducible refine gate_callee (f := 8) rfl ?_); refine gl_ (some 10) Try.func8 (by kernel_rfl) #[.slice Ao19 t260.length co19, .slice Ao20 y263.length co20, .int .i64 25] ?_; (with_reducible refine (setter_Lines.calls k _ _ t260 _ _ y263 25 t266 t269 t270 _ ?side1 ?side2 ?side3 ?side4 A2.out).mono ?_); (case side1 => exact cr_ (Kd.R_reads' HO262.out).2.2); (case side2 => exact (Kd.R_reads' HO262.out).2.1); (case side3 => exact cr_ (Kd.R_reads' HO265.out).2.2); (case side4 => exact (Kd.R_reads' HO265.out).2.1); rintro e w21 ⟨v267, rfl, ho0, hb⟩; refine ⟨_, rfl, ?_⟩; have n0_ := a_ (Kd.R_below (rv_ HO262.out) hb); have n1_ := a_ (Kd.R_below (rv_ HO265.out) hb); have n2_ := a_ (Kd.S_lower ho0 (below_size (bv_ HB.out))); have n3_ := a_ (bs_ HB.out hb); clear HO262; clear HO265; clear HB; have HO262 := n0_; have HO265 := n1_; have HO268 := n2_; have HB := n3_; clear n0_ n1_ n2_ n3_; (try clear hb); (try clear hb2); (try clear hk); (try clear hi); (try clear ho0)) | ((with_reducible refine gate_dst (N := 2) rfl ?_); (try (refine gate_guard (by rfl) ?_; dsimp only)); refine box_event ?hg (N := 2) ?hd (cs := #[.int .i64 0, .int .i64 0]) (t := 28) ?hr ?_; (case hd => rfl); (case hg => rfl); (case hr => first | (go_simp; done) | (go_simp; rfl)); intro gb271 hg w22 hbox hb; have n0_ := a_ (Kd.R_below (rv_ HO262.out) hb); have n1_ := a_ (Kd.R_below (rv_ HO265.out) hb); have n2_ := a_ (Kd.S_below (sv_ HO268.out) hb); have n3_ := a_ (bs_ HB.out hb); have n4_ := a_ (hbox); have n5_ := a_ ((by rw [hg]; exact (below_size (bv_ HB.out)) : w.heap.size ≤ gb271)); have n6_ := a_ ((by rw [hg]; exact (below_size (bv_ HB.out)) : w.heap.size ≤ gb271)); clear HO262; clear HO265; clear HO268; clear HB; have HO262 := n0_; have HO265 := n1_; have HO268 := n2_; have HB := n3_; have BK271 := n4_; have GW271 := n5_; have GE271 := n6_; clear n0_ n1_ n2_ n3_ n4_ n5_ n6_; clear hb hbox hg; obtain ⟨⟨Z23_0, Y23_0⟩, Z23_1, Y23_1⟩ := cs2_ BK271.out) | ((with_reducible refine gate_callee (f := 17) rfl ?_); refine gl_ (some 14) Try.func17 (by kernel_rfl) #[] ?_; (with_reducible refine (variorumlaw12_two.calls  t272 _ A3.out).mono ?_); rintro e w24 ⟨v273, rfl, ho0, hb⟩; refine ⟨_, rfl, ?_⟩; have n0_ := a_ (Kd.R_elder' (by (with_reducible repeat (first | apply Kd.R_alloc | apply Kd.R_drewN | apply Kd.R_drew)); exact (Kd.R_mono (Kd.R_far (p := ⟨gb271, 1, none⟩) (Kd.R_far (p := ⟨gb271, 0, none⟩) (Kd.R_types HO262.out BK271.out (by decide)) (fun _ hk => hk.2) (.int .i64 t269)) (fun _ hk => hk.2) (.int .i64 t270)) (fun _ h_ => h_.1))) (Kd.R_base ho0) hb); have n1_ := a_ (Kd.R_below (by (with_reducible repeat (first | apply Kd.R_alloc | apply Kd.R_drewN | apply Kd.R_drew)); exact (Kd.R_mono (Kd.R_far (p := ⟨gb271, 1, none⟩) (Kd.R_far (p := ⟨gb271, 0, none⟩) (Kd.R_types HO265.out BK271.out (by decide)) (fun _ hk => hk.2) (.int .i64 t269)) (fun _ hk => hk.2) (.int .i64 t270)) (fun _ h_ => h_.1))) hb); have n2_ := a_ (Kd.S_below (by (with_reducible repeat (first | apply Kd.S_alloc | apply Kd.S_drewN | apply Kd.S_drew)); exact (Kd.S_mono (Kd.S_far (p := ⟨gb271, 1, none⟩) (Kd.S_far (p := ⟨gb271, 0, none⟩) (Kd.S_types HO268.out BK271.out (by decide)) (fun _ hk => hk.2) (.int .i64 t269)) (fun _ hk => hk.2) (.int .i64 t270)) (fun _ h_ => h_.1))) hb); have n3_ := a_ (Kd.R_lower (Kd.R_new' ho0 (Kd.R_lt (by (with_reducible repeat (first | apply Kd.R_alloc | apply Kd.R_drewN | apply Kd.R_drew)); exact (Kd.R_mono (Kd.R_far (p := ⟨gb271, 1, none⟩) (Kd.R_far (p := ⟨gb271, 0, none⟩) (Kd.R_types HO262.out BK271.out (by decide)) (fun _ hk => hk.2) (.int .i64 t269)) (fun _ hk => hk.2) (.int .i64 t270)) (fun _ h_ => h_.1))))) (below_size (bS1_ HB.out GE271.out))); have n4_ := a_ (blk_below (g := gb271) (o := .cells #[.int .i64 t269, .int .i64 t270] 28 (0, 0)) (kp0_ BK271.out) hb); have n5_ := a_ (below_step (bS1_ HB.out GE271.out) hb); clear HO262; clear HO265; clear HO268; clear BK271; clear HB; have HO262 := n0_; have HO265 := n1_; have HO268 := n2_; have HO274 := n3_; have BK271 := n4_; have HB := n5_; clear n0_ n1_ n2_ n3_ n4_ n5_; (try clear hb); (try clear hb2); (try clear hk); (try clear hi); (try clear ho0); obtain ⟨Ao25, co25, eo25⟩ := Kd.R_slice HO274.out; subst eo25) | ((with_reducible refine gate_callee (f := 8) rfl ?_); refine gl_ (some 15) Try.func8 (by kernel_rfl) #[.slice Ao25 t272.length co25, .slice none 0 0, .int .i64 25] ?_; (refine (setter_Lines.calls k _ _ t272 _ _ ([] : List Int) 25 t275 t278 t279 _ ?side1 ?side2 ?side3 ?side4 A4.out).mono ?_); (case side1 => exact cr_ (Kd.R_reads' HO274.out).2.2); (case side2 => exact (Kd.R_reads' HO274.out).2.1); (case side3 => exact Kd.C_nil _ _); (case side4 => exact Nat.le_refl _); rintro e w26 ⟨v276, rfl, ho0, hb⟩; refine ⟨_, rfl, ?_⟩; have n0_ := a_ (Kd.R_below (rv_ HO262.out) hb); have n1_ := a_ (Kd.R_below (rv_ HO265.out) hb); have n2_ := a_ (Kd.S_elder' (sv_ HO268.out) (Kd.S_base ho0) hb); have n3_ := a_ (Kd.R_below (rv_ HO274.out) hb); have n4_ := a_ (Kd.S_lower (Kd.S_new' ho0 (Kd.S_lt (sv_ HO268.out))) (below_size (bS1_ HB.out GE271.out))); have n5_ := a_ (kb_ BK271.out hb); have n6_ := a_ (below_step (bS1_ HB.out GE271.out) hb); clear HO262; clear HO265; clear HO268; clear HO274; clear BK271; clear HB; have HO262 := n0_; have HO265 := n1_; have HO268 := n2_; have HO274 := n3_; have HO277 := n4_; have BK271 := n5_; have HB := n6_; clear n0_ n1_ n2_ n3_ n4_ n5_ n6_; (try clear hb); (try clear hb2); (try clear hk); (try clear hi); (try clear ho0)) | ((with_reducible refine gate_dst (N := 4) rfl ?_); (try (refine gate_guard (by rfl) ?_; dsimp only)); refine box_event ?hg (N := 4) ?hd (cs := #[.int .i64 0, .int .i64 0]) (t := 28) ?hr ?_; (case hd => rfl); (case hg => rfl); (case hr => first | (go_simp; done) | (go_simp; rfl)); intro gb280 hg w27 hbox hb; have n0_ := a_ (Kd.R_below (rv_ HO262.out) hb); have n1_ := a_ (Kd.R_below (rv_ HO265.out) hb); have n2_ := a_ (Kd.S_below (sv_ HO268.out) hb); have n3_ := a_ (Kd.R_below (rv_ HO274.out) hb); have n4_ := a_ (Kd.S_below (sv_ HO277.out) hb); have n5_ := a_ (kb_ BK271.out hb); have n6_ := a_ (below_step (bS1_ HB.out GE271.out) hb); have n7_ := a_ (hbox); have n8_ := a_ ((by rw [hg]; exact (below_size (bS1_ HB.out GE271.out)) : w.heap.size ≤ gb280)); have n9_ := a_ ((by rw [hg]; exact (below_size (bS1_ HB.out GE271.out)) : w.heap.size ≤ gb280)); have n10_ := a_ ((by rw [hg]; exact Nat.ne_of_lt (blk_lt (kv_ BK271.out)) : gb271 ≠ gb280)); have n11_ := a_ ((by rw [hg]; exact Nat.ne_of_gt (blk_lt (kv_ BK271.out)) : gb280 ≠ gb271)); clear HO262; clear HO265; clear HO268; clear HO274; clear HO277; clear BK271; clear HB; have HO262 := n0_; have HO265 := n1_; have HO268 := n2_; have HO274 := n3_; have HO277 := n4_; have BK271 := n5_; have HB := n6_; have BK280 := n7_; have GW280 := n8_; have GE280 := n9_; have NB271_280 := n10_; have NB280_271 := n11_; clear n0_ n1_ n2_ n3_ n4_ n5_ n6_ n7_ n8_ n9_ n10_ n11_; clear hb hbox hg; have hnb28 := NB280_271.out; have hnc28 := NB271_280.out; obtain ⟨⟨Z29_0, Y29_0⟩, Z29_1, Y29_1⟩ := cs2_ BK280.out) | ((with_reducible refine gate_callee (f := 17) rfl ?_); refine gl_ (some 19) Try.func17 (by kernel_rfl) #[] ?_; (with_reducible refine (variorumlaw12_two.calls  t281 _ A5.out).mono ?_); rintro e w30 ⟨v282, rfl, ho0, hb⟩; refine ⟨_, rfl, ?_⟩; have n0_ := a_ (Kd.R_elder' (by (with_reducible repeat (first | apply Kd.R_alloc | apply Kd.R_drewN | apply Kd.R_drew)); exact (Kd.R_mono (Kd.R_far (p := ⟨gb280, 1, none⟩) (Kd.R_far (p := ⟨gb280, 0, none⟩) (Kd.R_types HO262.out BK280.out (by decide)) (fun _ hk => hk.2) (.int .i64 t278)) (fun _ hk => hk.2) (.int .i64 t279)) (fun _ h_ => h_.1))) (Kd.R_base ho0) hb); have n1_ := a_ (Kd.R_below (by (with_reducible repeat (first | apply Kd.R_alloc | apply Kd.R_drewN | apply Kd.R_drew)); exact (Kd.R_mono (Kd.R_far (p := ⟨gb280, 1, none⟩) (Kd.R_far (p := ⟨gb280, 0, none⟩) (Kd.R_types HO265.out BK280.out (by decide)) (fun _ hk => hk.2) (.int .i64 t278)) (fun _ hk => hk.2) (.int .i64 t279)) (fun _ h_ => h_.1))) hb); have n2_ := a_ (Kd.S_below (by (with_reducible repeat (first | apply Kd.S_alloc | apply Kd.S_drewN | apply Kd.S_drew)); exact (Kd.S_mono (Kd.S_far (p := ⟨gb280, 1, none⟩) (Kd.S_far (p := ⟨gb280, 0, none⟩) (Kd.S_types HO268.out BK280.out (by decide)) (fun _ hk => hk.2) (.int .i64 t278)) (fun _ hk => hk.2) (.int .i64 t279)) (fun _ h_ => h_.1))) hb); have n3_ := a_ (Kd.R_elder' (by (with_reducible repeat (first | apply Kd.R_alloc | apply Kd.R_drewN | apply Kd.R_drew)); exact (Kd.R_mono (Kd.R_far (p := ⟨gb280, 1, none⟩) (Kd.R_far (p := ⟨gb280, 0, none⟩) (Kd.R_types HO274.out BK280.out (by decide)) (fun _ hk => hk.2) (.int .i64 t278)) (fun _ hk => hk.2) (.int .i64 t279)) (fun _ h_ => h_.1))) (Kd.R_base ho0) hb); have n4_ := a_ (Kd.S_below (by (with_reducible repeat (first | apply Kd.S_alloc | apply Kd.S_drewN | apply Kd.S_drew)); exact (Kd.S_mono (Kd.S_far (p := ⟨gb280, 1, none⟩) (Kd.S_far (p := ⟨gb280, 0, none⟩) (Kd.S_types HO277.out BK280.out (by decide)) (fun _ hk => hk.2) (.int .i64 t278)) (fun _ hk => hk.2) (.int .i64 t279)) (fun _ h_ => h_.1))) hb); have n5_ := a_ (Kd.R_lower (Kd.R_new' (Kd.R_new' ho0 (Kd.R_lt (by (with_reducible repeat (first | apply Kd.R_alloc | apply Kd.R_drewN | apply Kd.R_drew)); exact (Kd.R_mono (Kd.R_far (p := ⟨gb280, 1, none⟩) (Kd.R_far (p := ⟨gb280, 0, none⟩) (Kd.R_types HO262.out BK280.out (by decide)) (fun _ hk => hk.2) (.int .i64 t278)) (fun _ hk => hk.2) (.int .i64 t279)) (fun _ h_ => h_.1))))) (Kd.R_lt (by (with_reducible repeat (first | apply Kd.R_alloc | apply Kd.R_drewN | apply Kd.R_drew)); exact (Kd.R_mono (Kd.R_far (p := ⟨gb280, 1, none⟩) (Kd.R_far (p := ⟨gb280, 0, none⟩) (Kd.R_types HO274.out BK280.out (by decide)) (fun _ hk => hk.2) (.int .i64 t278)) (fun _ hk => hk.2) (.int .i64 t279)) (fun _ h_ => h_.1))))) (below_size (bS2_ HB.out GE271.out GE280.out))); have n6_ := a_ (blk_below (kf1_ BK271.out NB271_280.out) hb); have n7_ := a_ (blk_below (g := gb280) (o := .cells #[.int .i64 t278, .int .i64 t279] 28 (0, 0)) (kp0_ BK280.out) hb); have n8_ := a_ (below_step (bS2_ HB.out GE271.out GE280.out) hb); clear HO262; clear HO265; clear HO268; clear HO274; clear HO277; clear BK271; clear BK280; clear HB; have HO262 := n0_; have HO265 := n1_; have HO268 := n2_; have HO274 := n3_; have HO277 := n4_; have HO283 := n5_; have BK271 := n6_; have BK280 := n7_; have HB := n8_; clear n0_ n1_ n2_ n3_ n4_ n5_ n6_ n7_ n8_; (try clear hb); (try clear hb2); (try clear hk); (try clear hi); (try clear ho0)) | ((with_reducible refine gate_dst (N := 20) rfl ?_); (try (refine gate_guard (by rfl) ?_; dsimp only)); refine Kd.R_lit (Kd.int .i64) _ 3 ?hg (N := 20) ?hd (xs := ([1, 1] : List Int)) (inner := [.int .i64 1, .int .i64 1]) (ok := fun _ => True) (okp := fun _ => True) ?hr ?hp (fun _ hk => hk) trivial (Below.refl _ _) (Nat.le_refl _) (by simp) ?_; (case hd => rfl); (case hg => rfl); (case hr => first | (go_simp; done) | (go_simp; rfl)); (case hp => exact (Reps.one (show Kd.M (Kd.int .i64) _ _ _ 1 [.int .i64 1] from rfl) (Reps.one (show Kd.M (Kd.int .i64) _ _ _ 1 [.int .i64 1] from rfl) (Reps.none _ _)))); intro v285 w31 ho32 hb hg_ hnew_; clear hg_ hnew_; (first | rw [← Ny284.out] at ho32 | (simp only [Int.reduceToNat] at ho32; rw [← Ny284.out] at ho32)); have n0_ := a_ (Kd.R_below (rv_ HO262.out) hb); have n1_ := a_ (Kd.R_elder' (rv_ HO265.out) (Kd.R_base ho32) hb); have n2_ := a_ (Kd.S_below (sv_ HO268.out) hb); have n3_ := a_ (Kd.R_below (rv_ HO274.out) hb); have n4_ := a_ (Kd.S_below (sv_ HO277.out) hb); have n5_ := a_ (Kd.R_below (rv_ HO283.out) hb); have n6_ := a_ (Kd.R_lower (Kd.R_new' ho32 (Kd.R_lt (rv_ HO265.out))) (below_size (bS2_ HB.out GE271.out GE280.out))); have n7_ := a_ (kb_ BK271.out hb); have n8_ := a_ (kb_ BK280.out hb); have n9_ := a_ (below_step (bS2_ HB.out GE271.out GE280.out) hb); clear HO262; clear HO265; clear HO268; clear HO274; clear HO277; clear HO283; clear BK271; clear BK280; clear HB; have HO262 := n0_; have HO265 := n1_; have HO268 := n2_; have HO274 := n3_; have HO277 := n4_; have HO283 := n5_; have HO286 := n6_; have BK271 := n7_; have BK280 := n8_; have HB := n9_; clear n0_ n1_ n2_ n3_ n4_ n5_ n6_ n7_ n8_ n9_; clear hb ho32; obtain ⟨Ao33, co33, eo33⟩ := Kd.R_slice HO283.out; subst eo33; obtain ⟨Ao34, co34, eo34⟩ := Kd.R_slice HO286.out; subst eo34) | ((with_reducible refine gate_callee (f := 8) rfl ?_); refine gl_ (some 21) Try.func8 (by kernel_rfl) #[.slice Ao33 t281.length co33, .slice Ao34 y284.length co34, .int .i64 25] ?_; (with_reducible refine (setter_Lines.calls k _ _ t281 _ _ y284 25 t287 t290 t291 _ ?side1 ?side2 ?side3 ?side4 A6.out).mono ?_); (case side1 => exact cr_ (Kd.R_reads' HO283.out).2.2); (case side2 => exact (Kd.R_reads' HO283.out).2.1); (case side3 => exact cr_ (Kd.R_reads' HO286.out).2.2); (case side4 => exact (Kd.R_reads' HO286.out).2.1); rintro e w35 ⟨v288, rfl, ho0, hb⟩; refine ⟨_, rfl, ?_⟩; have n0_ := a_ (Kd.R_below (rv_ HO262.out) hb); have n1_ := a_ (Kd.R_below (rv_ HO265.out) hb); have n2_ := a_ (Kd.S_elder' (sv_ HO268.out) (Kd.S_base ho0) hb); have n3_ := a_ (Kd.R_below (rv_ HO274.out) hb); have n4_ := a_ (Kd.S_elder' (sv_ HO277.out) (Kd.S_base ho0) hb); have n5_ := a_ (Kd.R_below (rv_ HO283.out) hb); have n6_ := a_ (Kd.R_below (rv_ HO286.out) hb); have n7_ := a_ (Kd.S_lower (Kd.S_new' (Kd.S_new' ho0 (Kd.S_lt (sv_ HO268.out))) (Kd.S_lt (sv_ HO277.out))) (below_size (bS2_ HB.out GE271.out GE280.out))); have n8_ := a_ (kb_ BK271.out hb); have n9_ := a_ (kb_ BK280.out hb); have n10_ := a_ (below_step (bS2_ HB.out GE271.out GE280.out) hb); clear HO262; clear HO265; clear HO268; clear HO274; clear HO277; clear HO283; clear HO286; clear BK271; clear BK280; clear HB; have HO262 := n0_; have HO265 := n1_; have HO268 := n2_; have HO274 := n3_; have HO277 := n4_; have HO283 := n5_; have HO286 := n6_; have HO289 := n7_; have BK271 := n8_; have BK280 := n9_; have HB := n10_; clear n0_ n1_ n2_ n3_ n4_ n5_ n6_ n7_ n8_ n9_ n10_; (try clear hb); (try clear hb2); (try clear hk); (try clear hi); (try clear ho0)) | ((with_reducible refine gate_dst (N := 6) rfl ?_); (try (refine gate_guard (by rfl) ?_; dsimp only)); refine box_event ?hg (N := 6) ?hd (cs := #[.int .i64 0, .int .i64 0]) (t := 28) ?hr ?_; (case hd => rfl); (case hg => rfl); (case hr => first | (go_simp; done) | (go_simp; rfl)); intro gb292 hg w36 hbox hb; have n0_ := a_ (Kd.R_below (rv_ HO262.out) hb); have n1_ := a_ (Kd.R_below (rv_ HO265.out) hb); have n2_ := a_ (Kd.S_below (sv_ HO268.out) hb); have n3_ := a_ (Kd.R_below (rv_ HO274.out) hb); have n4_ := a_ (Kd.S_below (sv_ HO277.out) hb); have n5_ := a_ (Kd.R_below (rv_ HO283.out) hb); have n6_ := a_ (Kd.R_below (rv_ HO286.out) hb); have n7_ := a_ (Kd.S_below (sv_ HO289.out) hb); have n8_ := a_ (kb_ BK271.out hb); have n9_ := a_ (kb_ BK280.out hb); have n10_ := a_ (below_step (bS2_ HB.out GE271.out GE280.out) hb); have n11_ := a_ (hbox); have n12_ := a_ ((by rw [hg]; exact (below_size (bS2_ HB.out GE271.out GE280.out)) : w.heap.size ≤ gb292)); have n13_ := a_ ((by rw [hg]; exact (below_size (bS2_ HB.out GE271.out GE280.out)) : w.heap.size ≤ gb292)); have n14_ := a_ ((by rw [hg]; exact Nat.ne_of_lt (blk_lt (kv_ BK271.out)) : gb271 ≠ gb292)); have n15_ := a_ ((by rw [hg]; exact Nat.ne_of_gt (blk_lt (kv_ BK271.out)) : gb292 ≠ gb271)); have n16_ := a_ ((by rw [hg]; exact Nat.ne_of_lt (blk_lt (kv_ BK280.out)) : gb280 ≠ gb292)); have n17_ := a_ ((by rw [hg]; exact Nat.ne_of_gt (blk_lt (kv_ BK280.out)) : gb292 ≠ gb280)); clear HO262; clear HO265; clear HO268; clear HO274; clear HO277; clear HO283; clear HO286; clear HO289; clear BK271; clear BK280; clear HB; have HO262 := n0_; have HO265 := n1_; have HO268 := n2_; have HO274 := n3_; have HO277 := n4_; have HO283 := n5_; have HO286 := n6_; have HO289 := n7_; have BK271 := n8_; have BK280 := n9_; have HB := n10_; have BK292 := n11_; have GW292 := n12_; have GE292 := n13_; have NB271_292 := n14_; have NB292_271 := n15_; have NB280_292 := n16_; have NB292_280 := n17_; clear n0_ n1_ n2_ n3_ n4_ n5_ n6_ n7_ n8_ n9_ n10_ n11_ n12_ n13_ n14_ n15_ n16_ n17_; clear hb hbox hg; have hnb37 := NB292_271.out; have hnc37 := NB271_292.out; have hnb38 := NB292_280.out; have hnc38 := NB280_292.out; obtain ⟨⟨Z39_0, Y39_0⟩, Z39_1, Y39_1⟩ := cs2_ BK292.out) | ((with_reducible refine gate_store (t := 28) (p := 6) rfl ?_); refine store_event (t := 28) (p := 6) (v := ?vo_w40) (w1 := ((w36.setCell ⟨gb292, 0, none⟩ (.int .i64 t290)).setCell ⟨gb292, 1, none⟩ (.int .i64 t291))) ?hg ?ho ?hn ?hr ?_; (case ho => rfl); (case hg => rfl); (case hn => rfl); (case hr => first | (go_simp; done) | (go_simp; rfl)); intro w40 hw; have n0_ : Aside0 (Kd.R k40 40 w40 w.heap.size (fun k_ => some k_ ≠ (.slice Ao25 t272.length co25 : Value).ownBlock ∧ some k_ ≠ (.slice Ao33 t281.length co33 : Value).ownBlock) (.slice Ao19 t260.length co19) t260) := ⟨(by rw [hw]; exact (by (with_reducible repeat (first | apply Kd.R_alloc | apply Kd.R_drewN | apply Kd.R_drew)); exact Kd.R_mono (Kd.R_far (p := ⟨gb292, 1, none⟩) (Kd.R_far (p := ⟨gb292, 0, none⟩) (Kd.R_types HO262.out BK292.out (by decide)) (fun _ hk => hk.2) (.int .i64 t290)) (fun _ hk => hk.2) (.int .i64 t291)) (fun _ hk => ⟨hk.1.1.2, hk.1.2⟩)))⟩; have n1_ : Aside0 (Kd.R (Kd.int .i64) 3 w40 w.heap.size (fun k_ => some k_ ≠ (.slice Ao34 y284.length co34 : Value).ownBlock) (.slice Ao20 y263.length co20) y263) := ⟨(by rw [hw]; exact (by (with_reducible repeat (first | apply Kd.R_alloc | apply Kd.R_drewN | apply Kd.R_drew)); exact Kd.R_mono (Kd.R_far (p := ⟨gb292, 1, none⟩) (Kd.R_far (p := ⟨gb292, 0, none⟩) (Kd.R_types HO265.out BK292.out (by decide)) (fun _ hk => hk.2) (.int .i64 t290)) (fun _ hk => hk.2) (.int .i64 t291)) (fun _ hk => hk.1.2)))⟩; have n2_ : Aside0 (Kd.S k44 44 w40 w.heap.size (fun k_ => some k_ ≠ (v276 : Value).ownBlock ∧ some k_ ≠ (v288 : Value).ownBlock) v267 t266) := ⟨(by rw [hw]; exact (by (with_reducible repeat (first | apply Kd.S_alloc | apply Kd.S_drewN | apply Kd.S_drew)); exact Kd.S_mono (Kd.S_far (p := ⟨gb292, 1, none⟩) (Kd.S_far (p := ⟨gb292, 0, none⟩) (Kd.S_types HO268.out BK292.out (by decide)) (fun _ hk => hk.2) (.int .i64 t290)) (fun _ hk => hk.2) (.int .i64 t291)) (fun _ hk => ⟨hk.1.1.2, hk.1.2⟩)))⟩; have n3_ : Aside0 (Kd.R k40 40 w40 w.heap.size (fun k_ => some k_ ≠ (.slice Ao19 t260.length co19 : Value).ownBlock ∧ some k_ ≠ (.slice Ao33 t281.length co33 : Value).ownBlock) (.slice Ao25 t272.length co25) t272) := ⟨(by rw [hw]; exact (by (with_reducible repeat (first | apply Kd.R_alloc | apply Kd.R_drewN | apply Kd.R_drew)); exact Kd.R_mono (Kd.R_far (p := ⟨gb292, 1, none⟩) (Kd.R_far (p := ⟨gb292, 0, none⟩) (Kd.R_types HO274.out BK292.out (by decide)) (fun _ hk => hk.2) (.int .i64 t290)) (fun _ hk => hk.2) (.int .i64 t291)) (fun _ hk => ⟨hk.1.1.2, hk.1.2⟩)))⟩; have n4_ : Aside0 (Kd.S k44 44 w40 w.heap.size (fun k_ => some k_ ≠ (v267 : Value).ownBlock ∧ some k_ ≠ (v288 : Value).ownBlock) v276 t275) := ⟨(by rw [hw]; exact (by (with_reducible repeat (first | apply Kd.S_alloc | apply Kd.S_drewN | apply Kd.S_drew)); exact Kd.S_mono (Kd.S_far (p := ⟨gb292, 1, none⟩) (Kd.S_far (p := ⟨gb292, 0, none⟩) (Kd.S_types HO277.out BK292.out (by decide)) (fun _ hk => hk.2) (.int .i64 t290)) (fun _ hk => hk.2) (.int .i64 t291)) (fun _ hk => ⟨hk.1.1.2, hk.1.2⟩)))⟩; have n5_ : Aside0 (Kd.R k40 40 w40 w.heap.size (fun k_ => some k_ ≠ (.slice Ao19 t260.length co19 : Value).ownBlock ∧ some k_ ≠ (.slice Ao25 t272.length co25 : Value).ownBlock) (.slice Ao33 t281.length co33) t281) := ⟨(by rw [hw]; exact (by (with_reducible repeat (first | apply Kd.R_alloc | apply Kd.R_drewN | apply Kd.R_drew)); exact Kd.R_mono (Kd.R_far (p := ⟨gb292, 1, none⟩) (Kd.R_far (p := ⟨gb292, 0, none⟩) (Kd.R_types HO283.out BK292.out (by decide)) (fun _ hk => hk.2) (.int .i64 t290)) (fun _ hk => hk.2) (.int .i64 t291)) (fun _ hk => ⟨hk.1.1.2, hk.1.2⟩)))⟩; have n6_ : Aside0 (Kd.R (Kd.int .i64) 3 w40 w.heap.size (fun k_ => some k_ ≠ (.slice Ao20 y263.length co20 : Value).ownBlock) (.slice Ao34 y284.length co34) y284) := ⟨(by rw [hw]; exact (by (with_reducible repeat (first | apply Kd.R_alloc | apply Kd.R_drewN | apply Kd.R_drew)); exact Kd.R_mono (Kd.R_far (p := ⟨gb292, 1, none⟩) (Kd.R_far (p := ⟨gb292, 0, none⟩) (Kd.R_types HO286.out BK292.out (by decide)) (fun _ hk => hk.2) (.int .i64 t290)) (fun _ hk => hk.2) (.int .i64 t291)) (fun _ hk => hk.1.2)))⟩; have n7_ : Aside0 (Kd.S k44 44 w40 w.heap.size (fun k_ => some k_ ≠ (v267 : Value).ownBlock ∧ some k_ ≠ (v276 : Value).ownBlock) v288 t287) := ⟨(by rw [hw]; exact (by (with_reducible repeat (first | apply Kd.S_alloc | apply Kd.S_drewN | apply Kd.S_drew)); exact Kd.S_mono (Kd.S_far (p := ⟨gb292, 1, none⟩) (Kd.S_far (p := ⟨gb292, 0, none⟩) (Kd.S_types HO289.out BK292.out (by decide)) (fun _ hk => hk.2) (.int .i64 t290)) (fun _ hk => hk.2) (.int .i64 t291)) (fun _ hk => ⟨hk.1.1.2, hk.1.2⟩)))⟩; have n8_ : Aside0 (w40.heap[gb271]? = some (.cells #[.int .i64 t269, .int .i64 t270] 28 (0, 0))) := ⟨(by rw [hw]; exact (kf1_ BK271.out NB271_292.out))⟩; have n9_ : Aside0 (w40.heap[gb280]? = some (.cells #[.int .i64 t278, .int .i64 t279] 28 (0, 0))) := ⟨(by rw [hw]; exact (kf1_ BK280.out NB280_292.out))⟩; have n10_ : Aside0 (w40.heap[gb292]? = some (.cells #[.int .i64 t290, .int .i64 t291] 28 (0, 0))) := ⟨(by rw [hw]; exact (kp0_ BK292.out))⟩; have n11_ : Aside0 (Below w.heap.size w w40) := ⟨(by rw [hw]; exact (bS3_ HB.out GE271.out GE280.out GE292.out))⟩; clear hw; clear HO262; clear HO265; clear HO268; clear HO274; clear HO277; clear HO283; clear HO286; clear HO289; clear BK271; clear BK280; clear BK292; clear HB; have HO262 := n0_; have HO265 := n1_; have HO268 := n2_; have HO274 := n3_; have HO277 := n4_; have HO283 := n5_; have HO286 := n6_; have HO289 := n7_; have BK271 := n8_; have BK280 := n9_; have BK292 := n10_; have HB := n11_; clear n0_ n1_ n2_ n3_ n4_ n5_ n6_ n7_ n8_ n9_ n10_ n11_; obtain ⟨⟨Z41_0, Y41_0⟩, Z41_1, Y41_1⟩ := cs2_ BK271.out; obtain ⟨Ao42, co42, eo42⟩ := Kd.S_slice HO268.out; subst eo42; have p293 : 0 ≤ (0 : Int) := (by omega); have q293 : 0 < (t266.length : Int) := od_; obtain ⟨ad293, A293_2, c293_2, e293, hx293_0, hx293_1, hx293_2, hx293_3, hx293_4, hx293_5, hl293_2, hi293_2⟩ := at_T44 (Kd.S_reads' HO268.out).2.2 0 p293 q293; cases e293; obtain ⟨ce293, hce293, hMe293, hcc293⟩ := Kd.S_get HO268.out z44 0 p293 (by first | exact q293 | exact od_ | (have e_ := (Kd.S_reads' HO268.out).1; omega)); obtain ⟨ve293_2, rfl, ge293_2⟩ := k44_openM hMe293; have hv293_2 := hcc293 2 _ rfl; rw [add_field _ _ 2 (by omega)] at hv293_2; replace hv293_2 := Option.some.inj (hv293_2.symm.trans hx293_2); rw [hv293_2] at ge293_2; have HL293_2 := a_ (show Kd.R k42 42 _ _ _ _ ((rd_T44 t266 0).f2) from ge293_2); clear hv293_2 ge293_2; clear hcc293 hce293; have qi293 : (0 < t266.length) = True := eq_true (by omega); (try rw [show ((0 : Int)).toNat = 0 from rfl] at hx293_0); (try rw [show 0 * 6 = 0 from rfl] at hx293_0); (try rw [Addr.add_zero'] at hx293_0); (try rw [show ((0 : Int)).toNat = 0 from rfl] at hx293_1); (try rw [show 0 * 6 = 0 from rfl] at hx293_1); (try rw [Addr.add_zero'] at hx293_1); (try rw [show ((0 : Int)).toNat = 0 from rfl] at hx293_2); (try rw [show 0 * 6 = 0 from rfl] at hx293_2); (try rw [Addr.add_zero'] at hx293_2); (try rw [show ((0 : Int)).toNat = 0 from rfl] at hx293_3); (try rw [show 0 * 6 = 0 from rfl] at hx293_3); (try rw [Addr.add_zero'] at hx293_3); (try rw [show ((0 : Int)).toNat = 0 from rfl] at hx293_4); (try rw [show 0 * 6 = 0 from rfl] at hx293_4); (try rw [Addr.add_zero'] at hx293_4); (try rw [show ((0 : Int)).toNat = 0 from rfl] at hx293_5); (try rw [show 0 * 6 = 0 from rfl] at hx293_5); (try rw [Addr.add_zero'] at hx293_5); have HR293_2 := a_ hi293_2; have HC293_2 := a_ hl293_2; clear hi293_2 hl293_2; replace p293 := eq_true p293; replace q293 := eq_true q293) | ((with_reducible refine gate_dst (N := 39) rfl ?_); (try (refine gate_guard (by rfl) ?_; dsimp only)); refine Kd.R_lit k42 _ 42 ?hg (N := 39) ?hd (xs := ([(⟨0, 0, 0, 10⟩ : S42), (⟨0, 0, 15, 10⟩ : S42)] : List (S42))) (inner := [.int .i64 0, .int .i64 0, .int .i64 0, .int .i64 10, .int .i64 0, .int .i64 0, .int .i64 15, .int .i64 10]) (ok := fun _ => True) (okp := fun _ => True) ?hr ?hp (fun _ hk => hk) trivial (Below.refl _ _) (Nat.le_refl _) (by simp) ?_; (case hd => rfl); (case hg => rfl); (case hr => first | (go_simp; done) | (go_simp; rfl)); (case hp => exact (Reps.c4 (show Kd.M k42 _ _ _ (⟨0, 0, 0, 10⟩ : S42) [.int .i64 0, .int .i64 0, .int .i64 0, .int .i64 10] from (k42_mkM _ _ _ (⟨0, 0, 0, 10⟩ : S42) )) (Reps.c4 (show Kd.M k42 _ _ _ (⟨0, 0, 15, 10⟩ : S42) [.int .i64 0, .int .i64 0, .int .i64 15, .int .i64 10] from (k42_mkM _ _ _ (⟨0, 0, 15, 10⟩ : S42) )) (Reps.none _ _)))); intro v295 w43 ho44 hb hg_ hnew_; clear hg_ hnew_; (first | rw [← Ny294.out] at ho44 | (simp only [Int.reduceToNat] at ho44; rw [← Ny294.out] at ho44)); have n0_ := a_ (Kd.R_below (rv_ HO262.out) hb); have n1_ := a_ (Kd.R_below (rv_ HO265.out) hb); have n2_ := a_ (Kd.S_elder' (sv_ HO268.out) (Kd.R_base ho44) hb); have n3_ := a_ (Kd.R_below (rv_ HO274.out) hb); have n4_ := a_ (Kd.S_elder' (sv_ HO277.out) (Kd.R_base ho44) hb); have n5_ := a_ (Kd.R_below (rv_ HO283.out) hb); have n6_ := a_ (Kd.R_below (rv_ HO286.out) hb); have n7_ := a_ (Kd.S_elder' (sv_ HO289.out) (Kd.R_base ho44) hb); have n8_ := a_ (Kd.R_elder' (rv_ HL293_2.out) (Kd.R_base ho44) hb); have n9_ := a_ (Kd.R_lower (Kd.R_new' ho44 (Kd.R_lt (rv_ HL293_2.out))) (below_size (bS3_ HB.out GE271.out GE280.out GE292.out))); have n10_ := a_ (kb_ BK271.out hb); have n11_ := a_ (kb_ BK280.out hb); have n12_ := a_ (kb_ BK292.out hb); have n13_ := a_ (Kd.C_below (by repeat (first | (with_reducible exact HR293_2.out) | (with_reducible refine Kd.C_alloc ?_ _) | (with_reducible refine Kd.C_drewN ?_ _) | (with_reducible refine Kd.C_drew ?_) | exact HR293_2.out)) hb); have n14_ := a_ (below_step (bS3_ HB.out GE271.out GE280.out GE292.out) hb); clear HO262; clear HO265; clear HO268; clear HO274; clear HO277; clear HO283; clear HO286; clear HO289; clear HL293_2; clear BK271; clear BK280; clear BK292; clear HR293_2; clear HB; have HO262 := n0_; have HO265 := n1_; have HO268 := n2_; have HO274 := n3_; have HO277 := n4_; have HO283 := n5_; have HO286 := n6_; have HO289 := n7_; have HL293_2 := n8_; have HO296 := n9_; have BK271 := n10_; have BK280 := n11_; have BK292 := n12_; have HR293_2 := n13_; have HB := n14_; clear n0_ n1_ n2_ n3_ n4_ n5_ n6_ n7_ n8_ n9_ n10_ n11_ n12_ n13_ n14_; clear hb ho44; obtain ⟨Ao45, co45, eo45⟩ := Kd.R_slice HO296.out; subst eo45) | (go_at_call 11; (with_reducible refine (variorumref12_Placed.calls k _ _ ((rd_T44 t266 0).f2) _ _ y294 true _ ?side1 ?side2 ?side3 ?side4 A10.out).mono ?_); (case side1 => repeat (first | exact (by repeat (first | (with_reducible exact HR293_2.out) | (with_reducible refine Kd.C_alloc ?_ _) | (with_reducible refine Kd.C_drewN ?_ _) | (with_reducible refine Kd.C_drew ?_) | exact HR293_2.out)) | (with_reducible refine Kd.C_alloc ?_ _) | (with_reducible refine Kd.C_drewN ?_ _) | (with_reducible refine Kd.C_drew ?_))); (case side2 => exact HC293_2.out); (case side3 => exact cr_ (Kd.R_reads' HO296.out).2.2); (case side4 => exact (Kd.R_reads' HO296.out).2.1); rintro e w' ⟨rfl, ⟨nd, rfl⟩⟩; have p298 : 0 ≤ (0 : Int) := (by omega); have q298 : 0 < (t266.length : Int) := od_; obtain ⟨ad298, A298_2, c298_2, e298, hx298_0, hx298_1, hx298_2, hx298_3, hx298_4, hx298_5, hl298_2, hi298_2⟩ := at_T44 (Kd.S_reads' HO268.out).2.2 0 p298 q298; obtain rfl : ad293 = ad298 := (by injection e298); obtain ⟨ce298, hce298, hMe298, hcc298⟩ := Kd.S_get HO268.out z44 0 p298 (by first | exact q298 | exact od_ | (have e_ := (Kd.S_reads' HO268.out).1; omega)); obtain ⟨ve298_2, rfl, ge298_2⟩ := k44_openM hMe298; have hv298_2 := hcc298 2 _ rfl; rw [add_field _ _ 2 (by omega)] at hv298_2; replace hv298_2 := Option.some.inj (hv298_2.symm.trans hx298_2); rw [hv298_2] at ge298_2; have HL298_2 := a_ (show Kd.R k42 42 _ _ _ _ ((rd_T44 t266 0).f2) from ge298_2); clear hv298_2 ge298_2; clear hcc298 hce298; have qi298 : (0 < t266.length) = True := eq_true (by omega); (try rw [show ((0 : Int)).toNat = 0 from rfl] at hx298_0); (try rw [show 0 * 6 = 0 from rfl] at hx298_0); (try rw [Addr.add_zero'] at hx298_0); (try rw [show ((0 : Int)).toNat = 0 from rfl] at hx298_1); (try rw [show 0 * 6 = 0 from rfl] at hx298_1); (try rw [Addr.add_zero'] at hx298_1); (try rw [show ((0 : Int)).toNat = 0 from rfl] at hx298_2); (try rw [show 0 * 6 = 0 from rfl] at hx298_2); (try rw [Addr.add_zero'] at hx298_2); (try rw [show ((0 : Int)).toNat = 0 from rfl] at hx298_3); (try rw [show 0 * 6 = 0 from rfl] at hx298_3); (try rw [Addr.add_zero'] at hx298_3); (try rw [show ((0 : Int)).toNat = 0 from rfl] at hx298_4); (try rw [show 0 * 6 = 0 from rfl] at hx298_4); (try rw [Addr.add_zero'] at hx298_4); (try rw [show ((0 : Int)).toNat = 0 from rfl] at hx298_5); (try rw [show 0 * 6 = 0 from rfl] at hx298_5); (try rw [Addr.add_zero'] at hx298_5); have HR298_2 := a_ hi298_2; have HC298_2 := a_ hl298_2; clear hi298_2 hl298_2; replace p298 := eq_true p298; replace q298 := eq_true q298; clear A10) | (go_at_call 12; (with_reducible refine (setter_Words.calls k _ _ t266 t299 _ ?side1 ?side2 A13.out).mono ?_); (case side1 => repeat (first | exact (Kd.S_reads' HO268.out).2.2 | (with_reducible refine Kd.C_alloc ?_ _) | (with_reducible refine Kd.C_drewN ?_ _) | (with_reducible refine Kd.C_drew ?_))); (case side2 => exact (Kd.S_reads' HO268.out).2.1); rintro e w46 ⟨v300, rfl, ho0, hb⟩; have n0_ := a_ (Kd.R_below (rv_ HO262.out) hb); have n1_ := a_ (Kd.R_below (rv_ HO265.out) hb); have n2_ := a_ (Kd.S_elder' (sv_ HO268.out) (Kd.R_base ho0) hb); have n3_ := a_ (Kd.R_below (rv_ HO274.out) hb); have n4_ := a_ (Kd.S_elder' (sv_ HO277.out) (Kd.R_base ho0) hb); have n5_ := a_ (Kd.R_below (rv_ HO283.out) hb); have n6_ := a_ (Kd.R_below (rv_ HO286.out) hb); have n7_ := a_ (Kd.S_elder' (sv_ HO289.out) (Kd.R_base ho0) hb); have n8_ := a_ (Kd.R_elder' (rv_ HL293_2.out) (Kd.R_base ho0) hb); have n9_ := a_ (Kd.R_elder' (rv_ HO296.out) (Kd.R_base ho0) hb); have n10_ := a_ (Kd.R_elder' (rv_ HL298_2.out) (Kd.R_base ho0) hb); have n11_ := a_ (Kd.R_lower (Kd.R_new' (Kd.R_new' (Kd.R_new' ho0 (Kd.R_lt (rv_ HL293_2.out))) (Kd.R_lt (rv_ HO296.out))) (Kd.R_lt (rv_ HL298_2.out))) (below_size (bS3_ HB.out GE271.out GE280.out GE292.out))); have n12_ := a_ (kb_ BK271.out hb); have n13_ := a_ (kb_ BK280.out hb); have n14_ := a_ (kb_ BK292.out hb); have n15_ := a_ (Kd.C_below (by repeat (first | (with_reducible exact HR293_2.out) | (with_reducible refine Kd.C_alloc ?_ _) | (with_reducible refine Kd.C_drewN ?_ _) | (with_reducible refine Kd.C_drew ?_) | exact HR293_2.out)) hb); have n16_ := a_ (Kd.C_below (by repeat (first | (with_reducible exact HR298_2.out) | (with_reducible refine Kd.C_alloc ?_ _) | (with_reducible refine Kd.C_drewN ?_ _) | (with_reducible refine Kd.C_drew ?_) | exact HR298_2.out)) hb); have n17_ := a_ (below_step (bS3_ HB.out GE271.out GE280.out GE292.out) hb); clear HO262; clear HO265; clear HO268; clear HO274; clear HO277; clear HO283; clear HO286; clear HO289; clear HL293_2; clear HO296; clear HL298_2; clear BK271; clear BK280; clear BK292; clear HR293_2; clear HR298_2; clear HB; have HO262 := n0_; have HO265 := n1_; have HO268 := n2_; have HO274 := n3_; have HO277 := n4_; have HO283 := n5_; have HO286 := n6_; have HO289 := n7_; have HL293_2 := n8_; have HO296 := n9_; have HL298_2 := n10_; have HO301 := n11_; have BK271 := n12_; have BK280 := n13_; have BK292 := n14_; have HR293_2 := n15_; have HR298_2 := n16_; have HB := n17_; clear n0_ n1_ n2_ n3_ n4_ n5_ n6_ n7_ n8_ n9_ n10_ n11_ n12_ n13_ n14_ n15_ n16_ n17_; (try clear hb); (try clear hb2); (try clear hk); (try clear hi); (try clear ho0); obtain ⟨Ao47, co47, eo47⟩ := Kd.R_slice HO301.out; subst eo47; obtain ⟨⟨Z48_0, Y48_0⟩, Z48_1, Y48_1⟩ := cs2_ BK280.out; obtain ⟨⟨Z49_0, Y49_0⟩, Z49_1, Y49_1⟩ := cs2_ BK292.out; clear A13))
        go_ret
        exact ⟨by first | rfl | (simp [errW_none, errW_some] <;> rfl) | (simp [*, errW_none, errW_some] <;> rfl), bS3_ HB.out GE271.out GE280.out GE292.out⟩
       ·rw [if_neg c15] at H
        exact absurd H (by simp)
      ·rw [if_neg c14] at H
       exact absurd H (by simp)
     ·rw [if_neg c12] at H
      exact absurd H (by simp)
    ·replace c11 := Bool.eq_false_iff.mpr c11
     subst c11
     have H1 : (none) = some r := by rw [if_neg (show ¬ (false = true) by decide)] at H; exact H
     clear H
     have H := H1
     clear H1
     exact absurd H (by simp)
   ·rw [if_neg c9] at H
    exact absurd H (by simp)
  ·rw [if_neg c8] at H
   exact absurd H (by simp)
 ·rw [if_neg c7] at H
  exact absurd H (by simp)

/-! ### variorumref02_Most: function 51 -/
def variorumref02_Most.f  : Option (Int) := some 1073741823
set_option maxHeartbeats 8000000 in
set_option maxRecDepth 100000 in
theorem variorumref02_Most.calls  (r : Int) (w : World) (h : variorumref02_Most.f  = some r) :
  Calls Try.prog 51 #[] w fun e w' => e = .returned (.int .i64 r) ∧ Drawn0 w w' := by
 have H : (some 1073741823) = some r := h
 clear h
 obtain rfl := Option.some.inj H
 go_enter Try.func51, Try.ntmps51
 go_wp2
 go_ret
 exact ⟨by first | rfl | (simp; done) | (simp [*]; done), by repeat (first | exact Drawn0.refl _ | apply Drawn0.step)⟩

/-! ### variorumref02_Fits: function 38 -/
def variorumref02_Fits.f (a0 : Int) : Option (Bool) := (variorumref02_Most.f).bind fun t302 => (if a0 ≥ (wrap64 (-t302)) then ((variorumref02_Most.f).bind fun t303 => (some (decide (a0 ≤ t303)))) else (some false))
set_option maxHeartbeats 8000000 in
set_option maxRecDepth 100000 in
theorem variorumref02_Fits.calls (a0 : Int) (r : Bool) (w : World) (h : variorumref02_Fits.f a0 = some r) :
  Calls Try.prog 38 #[.int .i64 a0] w fun e w' => e = .returned (.bool r) ∧ Drawn0 w w' := by
 have H : ((variorumref02_Most.f).bind fun t302 => (if a0 ≥ (wrap64 (-t302)) then ((variorumref02_Most.f).bind fun t303 => (some (decide (a0 ≤ t303)))) else (some false))) = some r := h
 clear h
 replace H := Option.bind_eq_some_iff.mp H
 obtain ⟨t302, A20, H⟩ := H
 replace H : (if a0 ≥ (wrap64 (-t302)) then ((variorumref02_Most.f).bind fun t303 => (some (decide (a0 ≤ t303)))) else (some false)) = some r := H
 have A2 := a_ A20
 clear A20
 by_cases c3 : a0 ≥ (wrap64 (-t302))
 ·rw [if_pos c3] at H
  have c3b0 : decide ((wrap64 (-t302)) ≤ a0) = true := decide_eq_true c3
  clear c3
  replace H := Option.bind_eq_some_iff.mp H
  obtain ⟨t303, A40, H⟩ := H
  replace H : (some (decide (a0 ≤ t303))) = some r := H
  have A4 := a_ A40
  clear A40
  obtain rfl := Option.some.inj H
  go_enter Try.func38, Try.ntmps38
  go_wp2_with (first | ((with_reducible refine gate_callee (f := 51) rfl ?_); refine gl_ (some 4) Try.func51 (by kernel_rfl) #[] ?_; (with_reducible refine (variorumref02_Most.calls  t302 _ A2.out).mono ?_); rintro e w' ⟨rfl, ⟨nd, rfl⟩⟩; refine ⟨_, rfl, ?_⟩) | (go_at_call 51; (with_reducible refine (variorumref02_Most.calls  t303 _ A4.out).mono ?_); rintro e w' ⟨rfl, ⟨nd, rfl⟩⟩))
  go_ret
  exact ⟨by first | rfl | (simp; done) | (simp [*]; done), by repeat (first | exact Drawn0.refl _ | apply Drawn0.step)⟩
 ·rw [if_neg c3] at H
  have c3b0 : decide ((wrap64 (-t302)) ≤ a0) = false := decide_eq_false c3
  clear c3
  obtain rfl := Option.some.inj H
  go_enter Try.func38, Try.ntmps38
  go_wp2_with (first | ((with_reducible refine gate_callee (f := 51) rfl ?_); refine gl_ (some 4) Try.func51 (by kernel_rfl) #[] ?_; (with_reducible refine (variorumref02_Most.calls  t302 _ A2.out).mono ?_); rintro e w' ⟨rfl, ⟨nd, rfl⟩⟩; refine ⟨_, rfl, ?_⟩))
  go_ret
  exact ⟨by first | rfl | (simp; done) | (simp [*]; done), by repeat (first | exact Drawn0.refl _ | apply Drawn0.step)⟩

end Go.Proofs.Ytpfnfofaajpdmaa.PWi

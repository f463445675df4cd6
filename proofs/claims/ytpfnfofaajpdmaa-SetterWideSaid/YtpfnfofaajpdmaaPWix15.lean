/- Written by a program of this session: functions of the given program as plain Lean functions, the walks that show it, and the row of each law, for every input that its statement speaks of. -/
import Derived.Test.YtpfnfofaajpdmaaPWix0
import Derived.Test.YtpfnfofaajpdmaaPWix13
import Derived.Test.YtpfnfofaajpdmaaPWix14
namespace Go.Proofs.Ytpfnfofaajpdmaa.PWi
open Go.RowKit Go.Proofs.YtpfnfofaajpdmaaW.PrintWords Go.Proofs.YtpfnfofaajpdmaaW.PrintLast Go.Proofs.YtpfnfofaajpdmaaW.PrintMore
attribute [local go_sem] max2_int min2_int max_two min_two max_three min_three max_four min_four   -- for this text's walks alone
set_option linter.unusedVariables false
set_option linter.unusedSimpArgs false

/-! ### variorumref09_Glues: function 24 -/
def variorumref09_Glues.l0 : Nat → List (S40) → List (S38) → Int → Option ((List (S38)))
 | 0, _, _, _ => none
 | k + 1, x0, x3, x4 => if x4 < (x0.length : Int) then (if 0 ≤ x4 then (if x3.length < 4398046511104 then (variorumref09_Glues.l0 k x0 (x3 ++ [(⟨(rd_T40 x0 x4).f1.f0, (rd_T40 x0 x4).f1.f1, (rd_T40 x0 x4).f1.f2, (rd_T40 x0 x4).f1.f3⟩ : S38)]) (wrap64 (x4 + 1))) else (none)) else (none)) else (some x3)
def variorumref09_Glues.f (k : Nat) (l0 : List (S40)) : Option ((List (S38))) := variorumref09_Glues.l0 k l0 (([] : List (S38))) 0
theorem variorumref09_Glues.mono_l : ∀ k, (∀ y0 y1 y2, LeO (variorumref09_Glues.l0 k y0 y1 y2) (variorumref09_Glues.l0 (k + 1) y0 y1 y2))
 | 0 => fun _ _ _ r h => by simp [variorumref09_Glues.l0] at h
 | k + 1 => by
  have ih0 := variorumref09_Glues.mono_l k
  ·intro y0 y1 y2
   unfold variorumref09_Glues.l0
   repeat' first | (with_reducible first | exact ih0 _ _ _ | exact LeO.refl _ | exact LeO.none _ | refine LeO.ite ?_ ?_ | refine LeO.bind ?_ (fun _ => ?_)) | exact LeO.none _ | refine LeO.ite ?_ ?_ | refine LeO.bind ?_ (fun _ => ?_)
theorem variorumref09_Glues.mono : ∀ a0 k, LeO (variorumref09_Glues.f k a0) (variorumref09_Glues.f (k + 1) a0) := by
 intro a0 k
 have ih0 := variorumref09_Glues.mono_l k
 unfold variorumref09_Glues.f
 repeat' first
   | (with_reducible exact ih0 _ _ _)
   | (with_reducible exact LeO.refl _)
   | (with_reducible exact LeO.none _)
   | (with_reducible refine LeO.ite ?_ ?_)
   | (with_reducible refine LeO.bind ?_ (fun _ => ?_))
   | exact ih0 _ _ _
   | exact LeO.none _
   | refine LeO.ite ?_ ?_
   | refine LeO.bind ?_ (fun _ => ?_)
set_option maxHeartbeats 8000000 in
set_option maxRecDepth 100000 in
theorem variorumref09_Glues.calls (k : Nat) (A0 : Option Addr) (c0 : Nat) (l0 : List (S40)) (r : List (S38)) (w : World) (hr0 : Kd.C k40 w A0 l0.length l0) (hc0 : l0.length ≤ c0) (h : variorumref09_Glues.f k l0 = some r) :
  Calls Try.prog 24 #[.slice A0 l0.length c0] w fun e w' => ∃ v0_ : Value, e = .returned (v0_) ∧ Kd.R k38 38 w' w.heap.size (fun _ => True) v0_ r ∧ Below w.heap.size w w' := by
 have hu38 := Try.underlying38
 have HR0 := a_ hr0
 have HC0 := a_ hc0
 clear hr0 hc0
 have HB := a_ (Below.refl w.heap.size w)
 have H : (variorumref09_Glues.l0 k l0 (([] : List (S38))) 0) = some r := h
 clear h
 obtain ⟨y319, hy319⟩ : ∃ y_ : List (S38), y_ = (([] : List (S38))) := ⟨_, rfl⟩
 replace H : (variorumref09_Glues.l0 k l0 y319 0) = some r := by first | (rw [hy319]; with_reducible exact H) | (have H2_ := (Option.bind_some _ _).symm.trans H; rw [hy319]; with_reducible exact H2_) | (have H2_ := (Option.bind_some _ _).symm.trans H; with_reducible exact H2_) | with_reducible exact H | (rw [hy319]; exact H) | exact H
 have Ny319 := a_ hy319
 clear hy319
 have H' := a_ H
 clear H
 go_enter Try.func24, Try.ntmps24
 go_wp2_with (first | ((with_reducible refine gate_dst (N := 5) rfl ?_); refine Kd.R_lit k38 _ 38 ?hg (N := 5) ?hd (xs := ([] : List (S38))) (inner := []) (ok := fun _ => True) (okp := fun _ => True) ?hr ?hp (fun _ hk => hk) trivial (Below.refl _ _) (Nat.le_refl _) (by simp) ?_; (case hd => rfl); (case hg => rfl); (case hr => first | (go_simp; done) | (go_simp; rfl)); (case hp => exact (Reps.none _ _)); intro v320 w2 ho3 hb hg_ hnew_; clear hg_ hnew_; (first | rw [← Ny319.out] at ho3 | (simp only [Int.reduceToNat] at ho3; rw [← Ny319.out] at ho3)); have n0_ := a_ (Kd.R_lower ho3 (below_size (bv_ HB.out))); have n1_ := a_ (bs_ HB.out hb); clear HB; have HO321 := n0_; have HB := n1_; clear n0_ n1_; clear hb ho3))
 go_loopg [3, 4] k (fun kq v3 v4 w' => ∃ (x3_1 : List (S38)) (x4_1 : Int), v4 = .int .i64 x4_1 ∧ Aside0 (variorumref09_Glues.l0 kq l0 x3_1 x4_1 = some r) ∧ Aside0 (kq ≤ k) ∧ Aside0 (Kd.R k38 38 w' w.heap.size (fun _ => True) v3 x3_1) ∧ Aside0 (Below w.heap.size w w'))
 case atStart => exact ⟨(y319), (0), (by first | rfl | (simp; done) | (simp [*]; done)), H', ⟨Nat.le_refl _⟩, ⟨by (with_reducible repeat (first | apply Kd.R_alloc | apply Kd.R_drewN | apply Kd.R_drew)); exact HO321.out⟩, ⟨bv_ HB.out⟩⟩
 case round =>
  clear H'
  try clear c2
  try clear p2
  obtain ⟨x3_1, x4_1, rfl, HA, HK1, HO_3, HB⟩ := hrel
  cases gk with
  | zero => exact absurd HA.out (by simp [variorumref09_Glues.l0])
  | succ k1 =>
   have H := HA.out
   clear HA
   simp only [variorumref09_Glues.l0] at H
   by_cases c4 : x4_1 < (l0.length : Int)
   ·rw [if_pos c4] at H
    have c4b0 : decide (x4_1 < (l0.length : Int)) = true := decide_eq_true c4
    clear c4
    by_cases c5 : 0 ≤ x4_1
    ·rw [if_pos c5] at H
     have c5b0 : decide (0 ≤ x4_1) = true := decide_eq_true c5
     clear c5
     by_cases c6 : x3_1.length < 4398046511104
     ·rw [if_pos c6] at H
      have LMc6 := a_ c6
      clear c6
      obtain ⟨y323, hy323⟩ : ∃ y_ : List (S38), y_ = (x3_1 ++ [(⟨(rd_T40 l0 x4_1).f1.f0, (rd_T40 l0 x4_1).f1.f1, (rd_T40 l0 x4_1).f1.f2, (rd_T40 l0 x4_1).f1.f3⟩ : S38)]) := ⟨_, rfl⟩
      replace H : (variorumref09_Glues.l0 k1 l0 y323 (wrap64 (x4_1 + 1))) = some r := by first | (rw [hy323]; with_reducible exact H) | (have H2_ := (Option.bind_some _ _).symm.trans H; rw [hy323]; with_reducible exact H2_) | (have H2_ := (Option.bind_some _ _).symm.trans H; with_reducible exact H2_) | with_reducible exact H | (rw [hy323]; exact H) | exact H
      have Ny323 := a_ hy323
      clear hy323
      have H' := a_ H
      clear H
      have p322 : 0 ≤ (x4_1 : Int) := od_
      have q322 : x4_1 < (l0.length : Int) := od_
      obtain ⟨ad322, e322, hx322_0, hx322_1, hx322_2, hx322_3, hx322_4, hx322_5, hx322_6, hx322_7, hx322_8⟩ := at_T40 (Kd.C_below HR0.out HB.out) x4_1 p322 q322
      cases e322
      replace p322 := eq_true p322
      replace q322 := eq_true q322
      go_wp2_with (first | ((with_reducible refine gate_builtin (b := .append) (xs := #[.tmp 12, .tmp 18]) rfl ?_); at_builtin; refine Kd.R_append k38 (w0 := w) w.heap.size rfl (.tmp 12) (.tmp 18) 62 38 (.agg #[(.int .i64 0), (.int .i64 0), (.int .i64 0), (.int .i64 0)]) 32 rfl Try.underlying62 info38 rfl (by decide) (by omega) u3 x3_1 (⟨(rd_T40 l0 x4_1).f1.f0, (rd_T40 l0 x4_1).f1.f1, (rd_T40 l0 x4_1).f1.f2, (rd_T40 l0 x4_1).f1.f3⟩ : S38) [.int .i64 ((rd_T40 l0 x4_1).f1.f0), .int .i64 ((rd_T40 l0 x4_1).f1.f1), .int .i64 ((rd_T40 l0 x4_1).f1.f2), .int .i64 ((rd_T40 l0 x4_1).f1.f3)] (fun _ => True) (fun _ => False) rfl rfl ?aP (fun _ hk => hk.elim) ?aF ?aO ?aB ?aS ?aL ?_; (case aP => exact k38_mkM _ _ _ (⟨(rd_T40 l0 x4_1).f1.f0, (rd_T40 l0 x4_1).f1.f1, (rd_T40 l0 x4_1).f1.f2, (rd_T40 l0 x4_1).f1.f3⟩ : S38)); (case aB => exact (bv_ HB.out)); (case aF => exact (fun _ _ => trivial)); (case aO => exact (rv_ HO_3.out)); (case aS => exact (below_size (bv_ HB.out))); (case aL => have := LMc6.out; omega); intro v324 w7 ho hb hg hat; rw [← Ny323.out] at ho; have n0_ := a_ (hb); have n1_ := a_ (ho); clear HB; clear HO_3; have HB := n0_; have HO325 := n1_; clear n0_ n1_; clear ho hb hg hat))
      go_roundg k1
      case measure => have := HK1.out; omega
      case rel => exact ⟨(y323), (wrap64 (x4_1 + 1)), (by first | rfl | (simp; done) | (simp [*]; done)), H', ⟨by have := HK1.out; omega⟩, ⟨by (with_reducible repeat (first | apply Kd.R_alloc | apply Kd.R_drewN | apply Kd.R_drew)); exact HO325.out⟩, ⟨bv_ HB.out⟩⟩
     ·rw [if_neg c6] at H
      exact absurd H (by simp)
    ·rw [if_neg c5] at H
     exact absurd H (by simp)
   ·rw [if_neg c4] at H
    have c4b0 : decide (x4_1 < (l0.length : Int)) = false := decide_eq_false c4
    clear c4
    obtain rfl := Option.some.inj H
    go_wp2
    go_ret
    exact ⟨_, by first | rfl | (simp [errW_none, errW_some] <;> rfl) | (simp [*, errW_none, errW_some] <;> rfl), by (with_reducible repeat (first | apply Kd.R_alloc | apply Kd.R_drewN | apply Kd.R_drew)); exact HO_3.out, bv_ HB.out⟩

/-! ### variorumref09_May: function 15 -/
def variorumref09_May.l0 : Nat → List (S40) → Int → Option (Bool)
 | 0, _, _ => none
 | k + 1, x0, x3 => if x3 < (x0.length : Int) then (if 0 ≤ x3 then ((variorumref09_Right.f k ((rd_T40 x0 x3).f0) ((rd_T40 x0 x3).f1.f0) ((rd_T40 x0 x3).f1.f1) ((rd_T40 x0 x3).f1.f2) ((rd_T40 x0 x3).f1.f3) ((rd_T40 x0 x3).f2) ((rd_T40 x0 x3).f3) ((rd_T40 x0 x3).f4) ((rd_T40 x0 x3).f5)).bind fun t327 => (if t327 = true then (variorumref09_May.l0 k x0 (wrap64 (x3 + 1))) else (some false))) else (none)) else (if (x0.length : Int) ≤ 2000 then ((variorumref09_Glues.f k x0).bind fun t328 => ((variorumref03_May.f k t328).bind fun t331 => (some t331))) else (some false))
def variorumref09_May.f (k : Nat) (l0 : List (S40)) : Option (Bool) := variorumref09_May.l0 k l0 0
theorem variorumref09_May.mono_l : ∀ k, (∀ y0 y1, LeO (variorumref09_May.l0 k y0 y1) (variorumref09_May.l0 (k + 1) y0 y1))
 | 0 => fun _ _ r h => by simp [variorumref09_May.l0] at h
 | k + 1 => by
  have ih0 := variorumref09_May.mono_l k
  ·intro y0 y1
   unfold variorumref09_May.l0
   repeat' first | (with_reducible first | exact ih0 _ _ | exact variorumref03_May.mono _ _ | exact variorumref09_Glues.mono _ _ | exact variorumref09_Right.mono _ _ _ _ _ _ _ _ _ _ | exact LeO.refl _ | exact LeO.none _ | refine LeO.ite ?_ ?_ | refine LeO.bind ?_ (fun _ => ?_)) | exact LeO.none _ | refine LeO.ite ?_ ?_ | refine LeO.bind ?_ (fun _ => ?_)
theorem variorumref09_May.mono : ∀ a0 k, LeO (variorumref09_May.f k a0) (variorumref09_May.f (k + 1) a0) := by
 intro a0 k
 have ih0 := variorumref09_May.mono_l k
 unfold variorumref09_May.f
 repeat' first
   | (with_reducible exact ih0 _ _)
   | (with_reducible exact variorumref03_May.mono _ _)
   | (with_reducible exact variorumref09_Glues.mono _ _)
   | (with_reducible exact variorumref09_Right.mono _ _ _ _ _ _ _ _ _ _)
   | (with_reducible exact LeO.refl _)
   | (with_reducible exact LeO.none _)
   | (with_reducible refine LeO.ite ?_ ?_)
   | (with_reducible refine LeO.bind ?_ (fun _ => ?_))
   | exact ih0 _ _
   | exact variorumref03_May.mono _ _
   | exact variorumref09_Glues.mono _ _
   | exact variorumref09_Right.mono _ _ _ _ _ _ _ _ _ _
   | exact LeO.none _
   | refine LeO.ite ?_ ?_
   | refine LeO.bind ?_ (fun _ => ?_)
set_option maxHeartbeats 8000000 in
set_option maxRecDepth 100000 in
theorem variorumref09_May.calls (k : Nat) (A0 : Option Addr) (c0 : Nat) (l0 : List (S40)) (r : Bool) (w : World) (hr0 : Kd.C k40 w A0 l0.length l0) (hc0 : l0.length ≤ c0) (h : variorumref09_May.f k l0 = some r) :
  Calls Try.prog 15 #[.slice A0 l0.length c0] w fun e w' => e = .returned (.bool r) ∧ Below w.heap.size w w' := by
 have hu40 := Try.underlying40
 have HR0 := a_ hr0
 have HC0 := a_ hc0
 clear hr0 hc0
 have HB := a_ (Below.refl w.heap.size w)
 have H : (variorumref09_May.l0 k l0 0) = some r := h
 clear h
 have H' := a_ H
 clear H
 go_enter Try.func15, Try.ntmps15
 go_wp2
 go_loopg [3] k (fun kq v3 w' => ∃ (x3_1 : Int), v3 = .int .i64 x3_1 ∧ Aside0 (variorumref09_May.l0 kq l0 x3_1 = some r) ∧ Aside0 (kq ≤ k) ∧ Aside0 (Below w.heap.size w w'))
 case atStart => exact ⟨(0), (by first | rfl | (simp; done) | (simp [*]; done)), H', ⟨Nat.le_refl _⟩, ⟨bv_ HB.out⟩⟩
 case round =>
  clear H'
  try clear c1
  obtain ⟨x3_1, rfl, HA, HK1, HB⟩ := hrel
  cases gk with
  | zero => exact absurd HA.out (by simp [variorumref09_May.l0])
  | succ k1 =>
   have H := HA.out
   clear HA
   simp only [variorumref09_May.l0] at H
   by_cases c2 : x3_1 < (l0.length : Int)
   ·rw [if_pos c2] at H
    have c2b0 : decide (x3_1 < (l0.length : Int)) = true := decide_eq_true c2
    clear c2
    by_cases c3 : 0 ≤ x3_1
    ·rw [if_pos c3] at H
     have c3b0 : decide (0 ≤ x3_1) = true := decide_eq_true c3
     clear c3
     replace H := Option.bind_eq_some_iff.mp H
     obtain ⟨t327, A40, H⟩ := H
     replace H : (if t327 = true then (variorumref09_May.l0 k1 l0 (wrap64 (x3_1 + 1))) else (some false)) = some r := H
     have A4 := a_ A40
     clear A40
     by_cases c5 : t327 = true
     ·subst c5
      have H1 : (variorumref09_May.l0 k1 l0 (wrap64 (x3_1 + 1))) = some r := by rw [if_pos rfl] at H; exact H
      clear H
      have H := H1
      clear H1
      have H' := a_ H
      clear H
      have p326 : 0 ≤ (x3_1 : Int) := od_
      have q326 : x3_1 < (l0.length : Int) := od_
      obtain ⟨ad326, e326, hx326_0, hx326_1, hx326_2, hx326_3, hx326_4, hx326_5, hx326_6, hx326_7, hx326_8⟩ := at_T40 (Kd.C_below HR0.out HB.out) x3_1 p326 q326
      cases e326
      replace p326 := eq_true p326
      replace q326 := eq_true q326
      go_wp2_with (first | ((with_reducible refine gate_callee (f := 22) rfl ?_); refine gl_ (some 14) Try.func22 (by kernel_rfl) #[.agg #[.int .i64 ((rd_T40 l0 x3_1).f0), .int .i64 ((rd_T40 l0 x3_1).f1.f0), .int .i64 ((rd_T40 l0 x3_1).f1.f1), .int .i64 ((rd_T40 l0 x3_1).f1.f2), .int .i64 ((rd_T40 l0 x3_1).f1.f3), .int .i64 ((rd_T40 l0 x3_1).f2), .bool ((rd_T40 l0 x3_1).f3), .int .i64 ((rd_T40 l0 x3_1).f4), .int .i64 ((rd_T40 l0 x3_1).f5)]] ?_; (with_reducible refine (variorumref09_Right.calls k1 ((rd_T40 l0 x3_1).f0) ((rd_T40 l0 x3_1).f1.f0) ((rd_T40 l0 x3_1).f1.f1) ((rd_T40 l0 x3_1).f1.f2) ((rd_T40 l0 x3_1).f1.f3) ((rd_T40 l0 x3_1).f2) ((rd_T40 l0 x3_1).f3) ((rd_T40 l0 x3_1).f4) ((rd_T40 l0 x3_1).f5) true _ A4.out).mono ?_); rintro e w6 ⟨rfl, hb⟩; refine ⟨_, rfl, ?_⟩; have n0_ := a_ (bs_ HB.out hb); clear HB; have HB := n0_; clear n0_; (try clear hb); (try clear hb2); (try clear hk); (try clear hi)))
      go_roundg k1
      case measure => have := HK1.out; omega
      case rel => exact ⟨(wrap64 (x3_1 + 1)), (by first | rfl | (simp; done) | (simp [*]; done)), H', ⟨by have := HK1.out; omega⟩, ⟨bv_ HB.out⟩⟩
     ·replace c5 := Bool.eq_false_iff.mpr c5
      subst c5
      have H1 : (some false) = some r := by rw [if_neg (show ¬ (false = true) by decide)] at H; exact H
      clear H
      have H := H1
      clear H1
      obtain rfl := Option.some.inj H
      have p326 : 0 ≤ (x3_1 : Int) := od_
      have q326 : x3_1 < (l0.length : Int) := od_
      obtain ⟨ad326, e326, hx326_0, hx326_1, hx326_2, hx326_3, hx326_4, hx326_5, hx326_6, hx326_7, hx326_8⟩ := at_T40 (Kd.C_below HR0.out HB.out) x3_1 p326 q326
      cases e326
      replace p326 := eq_true p326
      replace q326 := eq_true q326
      go_wp2_with (first | ((with_reducible refine gate_callee (f := 22) rfl ?_); refine gl_ (some 14) Try.func22 (by kernel_rfl) #[.agg #[.int .i64 ((rd_T40 l0 x3_1).f0), .int .i64 ((rd_T40 l0 x3_1).f1.f0), .int .i64 ((rd_T40 l0 x3_1).f1.f1), .int .i64 ((rd_T40 l0 x3_1).f1.f2), .int .i64 ((rd_T40 l0 x3_1).f1.f3), .int .i64 ((rd_T40 l0 x3_1).f2), .bool ((rd_T40 l0 x3_1).f3), .int .i64 ((rd_T40 l0 x3_1).f4), .int .i64 ((rd_T40 l0 x3_1).f5)]] ?_; (with_reducible refine (variorumref09_Right.calls k1 ((rd_T40 l0 x3_1).f0) ((rd_T40 l0 x3_1).f1.f0) ((rd_T40 l0 x3_1).f1.f1) ((rd_T40 l0 x3_1).f1.f2) ((rd_T40 l0 x3_1).f1.f3) ((rd_T40 l0 x3_1).f2) ((rd_T40 l0 x3_1).f3) ((rd_T40 l0 x3_1).f4) ((rd_T40 l0 x3_1).f5) false _ A4.out).mono ?_); rintro e w7 ⟨rfl, hb⟩; refine ⟨_, rfl, ?_⟩; have n0_ := a_ (bs_ HB.out hb); clear HB; have HB := n0_; clear n0_; (try clear hb); (try clear hb2); (try clear hk); (try clear hi)))
      go_ret
      exact ⟨by first | rfl | (simp [errW_none, errW_some] <;> rfl) | (simp [*, errW_none, errW_some] <;> rfl), bv_ HB.out⟩
    ·rw [if_neg c3] at H
     exact absurd H (by simp)
   ·rw [if_neg c2] at H
    have c2b0 : decide (x3_1 < (l0.length : Int)) = false := decide_eq_false c2
    clear c2
    by_cases c8 : (l0.length : Int) ≤ 2000
    ·rw [if_pos c8] at H
     have c8b0 : decide ((l0.length : Int) ≤ 2000) = true := decide_eq_true c8
     have c8b1 : decide (l0.length ≤ 2000) = true := decide_eq_true (by omega)
     clear c8
     replace H := Option.bind_eq_some_iff.mp H
     obtain ⟨t328, A90, H⟩ := H
     replace H : ((variorumref03_May.f k1 t328).bind fun t331 => (some t331)) = some r := H
     have A9 := a_ A90
     clear A90
     replace H := Option.bind_eq_some_iff.mp H
     obtain ⟨t331, A100, H⟩ := H
     replace H : (some t331) = some r := H
     have A10 := a_ A100
     clear A100
     obtain rfl := Option.some.inj H
     go_wp2_with (first | (go_at_call 24; (with_reducible refine (variorumref09_Glues.calls k1 _ _ l0 t328 _ ?side1 ?side2 A9.out).mono ?_); (case side1 => exact cw_ HR0.out HB.out); (case side2 => exact HC0.out); rintro e w11 ⟨v329, rfl, ho0, hb⟩; have n0_ := a_ (Kd.R_lower ho0 (below_size (bv_ HB.out))); have n1_ := a_ (bs_ HB.out hb); clear HB; have HO330 := n0_; have HB := n1_; clear n0_ n1_; (try clear hb); (try clear hb2); (try clear hk); (try clear hi); (try clear ho0); obtain ⟨Ao12, co12, eo12⟩ := Kd.R_slice HO330.out; subst eo12) | (go_at_call 23; (with_reducible refine (variorumref03_May.calls k1 _ _ t328 t331 _ ?side1 ?side2 A10.out).mono ?_); (case side1 => exact cr_ (Kd.R_reads' HO330.out).2.2); (case side2 => exact (Kd.R_reads' HO330.out).2.1); rintro e w13 ⟨rfl, hb⟩; have n0_ := a_ (Kd.R_below (rv_ HO330.out) hb); have n1_ := a_ (bs_ HB.out hb); clear HO330; clear HB; have HO330 := n0_; have HB := n1_; clear n0_ n1_; (try clear hb); (try clear hb2); (try clear hk); (try clear hi)))
     go_ret
     exact ⟨by first | rfl | (simp [errW_none, errW_some] <;> rfl) | (simp [*, errW_none, errW_some] <;> rfl), bv_ HB.out⟩
    ·rw [if_neg c8] at H
     have c8b0 : decide ((l0.length : Int) ≤ 2000) = false := decide_eq_false c8
     have c8b1 : decide (l0.length ≤ 2000) = false := decide_eq_false (by omega)
     clear c8
     obtain rfl := Option.some.inj H
     go_wp2
     go_ret
     exact ⟨by first | rfl | (simp [errW_none, errW_some] <;> rfl) | (simp [*, errW_none, errW_some] <;> rfl), bv_ HB.out⟩

/-! ### variorumref10_Legal: function 32 -/
def variorumref10_Legal.j0 : Nat → List (S40) → Int → Bool → Option (Bool)
 | 0, _, _, _ => none
 | k + 1, x0, x1, x12 => if x12 = true then (some false) else (if 0 ≤ x1 then (if x1 < (x0.length : Int) then (if ((rd_T40 x0 x1).f0) = 2 then (some (decide (((rd_T40 x0 x1).f2) < 10000))) else (if ((rd_T40 x0 x1).f0) = 1 then (if x1 > 0 then (if 0 ≤ (wrap64 (x1 - 1)) then (if (wrap64 (x1 - 1)) < (x0.length : Int) then (some (((rd_T40 x0 (wrap64 (x1 - 1))).f0) == 0)) else (none)) else (none)) else (some false)) else (some false))) else (none)) else (none))
def variorumref10_Legal.f (k : Nat) (l0 : List (S40)) (a1 : Int) : Option (Bool) := if a1 < 0 then (variorumref10_Legal.j0 k l0 a1 true) else (variorumref10_Legal.j0 k l0 a1 (decide (a1 ≥ (l0.length : Int))))
theorem variorumref10_Legal.mono_l : ∀ k, (∀ y0 y1 y2, LeO (variorumref10_Legal.j0 k y0 y1 y2) (variorumref10_Legal.j0 (k + 1) y0 y1 y2))
 | 0 => fun _ _ _ r h => by simp [variorumref10_Legal.j0] at h
 | k + 1 => by
  have ih0 := variorumref10_Legal.mono_l k
  ·intro y0 y1 y2
   unfold variorumref10_Legal.j0
   repeat' first | (with_reducible first | exact ih0 _ _ _ | exact LeO.refl _ | exact LeO.none _ | refine LeO.ite ?_ ?_ | refine LeO.bind ?_ (fun _ => ?_)) | exact LeO.none _ | refine LeO.ite ?_ ?_ | refine LeO.bind ?_ (fun _ => ?_)
theorem variorumref10_Legal.mono : ∀ a0 a1 k, LeO (variorumref10_Legal.f k a0 a1) (variorumref10_Legal.f (k + 1) a0 a1) := by
 intro a0 a1 k
 have ih0 := variorumref10_Legal.mono_l k
 unfold variorumref10_Legal.f
 repeat' first
   | (with_reducible exact ih0 _ _ _)
   | (with_reducible exact LeO.refl _)
   | (with_reducible exact LeO.none _)
   | (with_reducible refine LeO.ite ?_ ?_)
   | (with_reducible refine LeO.bind ?_ (fun _ => ?_))
   | exact ih0 _ _ _
   | exact LeO.none _
   | refine LeO.ite ?_ ?_
   | refine LeO.bind ?_ (fun _ => ?_)
set_option maxHeartbeats 8000000 in
set_option maxRecDepth 100000 in
theorem variorumref10_Legal.calls (k : Nat) (A0 : Option Addr) (c0 : Nat) (l0 : List (S40)) (a1 : Int) (r : Bool) (w : World) (hr0 : Kd.C k40 w A0 l0.length l0) (hc0 : l0.length ≤ c0) (h : variorumref10_Legal.f k l0 a1 = some r) :
  Calls Try.prog 32 #[.slice A0 l0.length c0, .int .i64 a1] w fun e w' => e = .returned (.bool r) ∧ Drawn0 w w' := by
 have HR0 := a_ hr0
 have HC0 := a_ hc0
 clear hr0 hc0
 have H : (if a1 < 0 then (variorumref10_Legal.j0 k l0 a1 true) else (variorumref10_Legal.j0 k l0 a1 (decide (a1 ≥ (l0.length : Int))))) = some r := h
 clear h
 have HC3 := a_ H
 clear H
 go_enter Try.func32, Try.ntmps32
 go_upto_region 1 with (fail)
 go_cut [12] (fun v12 wc => ∃ (kq : Nat) (x12_2 : Bool), v12 = .bool x12_2 ∧ Aside0 (variorumref10_Legal.j0 kq l0 a1 x12_2 = some r) ∧ Aside0 (kq ≤ k) ∧ Drawn0 w wc)
 case first =>
  have H := HC3.out
  clear HC3
  by_cases c4 : a1 < 0
  ·rw [if_pos c4] at H
   have c4b0 : decide (a1 < 0) = true := decide_eq_true c4
   clear c4
   (first | rw [c4b0] | (simp only [i64_w, i32_w]; rw [c4b0]) | skip)
   have H' := a_ H
   clear H
   go_wp2
   go_meet
   case rel => exact ⟨_, (true), (by first | rfl | (simp; done) | (simp [*]; done)), H', ⟨by first | omega | exact Nat.le_refl _⟩, by repeat (first | exact Drawn0.refl _ | apply Drawn0.step)⟩
  ·rw [if_neg c4] at H
   have c4b0 : decide (a1 < 0) = false := decide_eq_false c4
   clear c4
   (first | rw [c4b0] | (simp only [i64_w, i32_w]; rw [c4b0]) | skip)
   have H' := a_ H
   clear H
   go_wp2
   go_meet
   case rel => exact ⟨_, (decide (a1 ≥ (l0.length : Int))), (by first | rfl | (simp; done) | (simp [*]; done)), H', ⟨by first | omega | exact Nat.le_refl _⟩, by repeat (first | exact Drawn0.refl _ | apply Drawn0.step)⟩
 case rest =>
  clear HC3
  try clear p2
  try clear c3
  try clear c4
  try clear c4b0
  obtain ⟨kq, x12_2, rfl, HA, HJ2, ⟨mc2, rfl⟩⟩ := hcut
  cases kq with
  | zero => exact absurd HA.out (by simp [variorumref10_Legal.j0])
  | succ kj2 =>
   have H := HA.out
   clear HA
   simp only [variorumref10_Legal.j0] at H
   by_cases c5 : x12_2 = true
   ·subst c5
    have H1 : (some false) = some r := by rw [if_pos rfl] at H; exact H
    clear H
    have H := H1
    clear H1
    obtain rfl := Option.some.inj H
    go_wp2
    go_ret
    exact ⟨by first | rfl | (simp; done) | (simp [*]; done), by repeat (first | exact Drawn0.refl _ | apply Drawn0.step)⟩
   ·replace c5 := Bool.eq_false_iff.mpr c5
    subst c5
    have H1 : (if 0 ≤ a1 then (if a1 < (l0.length : Int) then (if ((rd_T40 l0 a1).f0) = 2 then (some (decide (((rd_T40 l0 a1).f2) < 10000))) else (if ((rd_T40 l0 a1).f0) = 1 then (if a1 > 0 then (if 0 ≤ (wrap64 (a1 - 1)) then (if (wrap64 (a1 - 1)) < (l0.length : Int) then (some (((rd_T40 l0 (wrap64 (a1 - 1))).f0) == 0)) else (none)) else (none)) else (some false)) else (some false))) else (none)) else (none)) = some r := by rw [if_neg (show ¬ (false = true) by decide)] at H; exact H
    clear H
    have H := H1
    clear H1
    by_cases c6 : 0 ≤ a1
    ·rw [if_pos c6] at H
     have c6b0 : decide (0 ≤ a1) = true := decide_eq_true c6
     clear c6
     by_cases c7 : a1 < (l0.length : Int)
     ·rw [if_pos c7] at H
      have c7b0 : decide (a1 < (l0.length : Int)) = true := decide_eq_true c7
      clear c7
      by_cases c8 : ((rd_T40 l0 a1).f0) = 2
      ·rw [if_pos c8] at H
       have c8b0 : (((rd_T40 l0 a1).f0) == 2) = true := beq_iff_eq.mpr c8
       have c8b1 : (((rd_T40 l0 a1).f0) != 2) = false := bne_eq_false_iff_eq.mpr c8
       clear c8
       obtain rfl := Option.some.inj H
       have p332 : 0 ≤ (a1 : Int) := od_
       have q332 : a1 < (l0.length : Int) := od_
       obtain ⟨ad332, e332, hx332_0, hx332_1, hx332_2, hx332_3, hx332_4, hx332_5, hx332_6, hx332_7, hx332_8⟩ := at_T40 HR0.out a1 p332 q332
       cases e332
       replace p332 := eq_true p332
       replace q332 := eq_true q332
       have p333 : 0 ≤ (a1 : Int) := od_
       have q333 : a1 < (l0.length : Int) := od_
       obtain ⟨ad333, e333, hx333_0, hx333_1, hx333_2, hx333_3, hx333_4, hx333_5, hx333_6, hx333_7, hx333_8⟩ := at_T40 HR0.out a1 p333 q333
       obtain rfl : ad332 = ad333 := (by injection e333)
       replace p333 := eq_true p333
       replace q333 := eq_true q333
       go_wp2
       go_ret
       exact ⟨by first | rfl | (simp; done) | (simp [*]; done), by repeat (first | exact Drawn0.refl _ | apply Drawn0.step)⟩
      ·rw [if_neg c8] at H
       have c8b0 : (((rd_T40 l0 a1).f0) == 2) = false := beq_eq_false_iff_ne.mpr c8
       have c8b1 : (((rd_T40 l0 a1).f0) != 2) = true := bne_iff_ne.mpr c8
       by_cases c9 : ((rd_T40 l0 a1).f0) = 1
       ·rw [if_pos c9] at H
        have c9b0 : (((rd_T40 l0 a1).f0) == 1) = true := beq_iff_eq.mpr c9
        have c9b1 : (((rd_T40 l0 a1).f0) != 1) = false := bne_eq_false_iff_eq.mpr c9
        clear c9
        by_cases c10 : a1 > 0
        ·rw [if_pos c10] at H
         have c10b0 : decide (0 < a1) = true := decide_eq_true c10
         clear c10
         obtain ⟨ji11, hji11⟩ : ∃ j_ : Int, (wrap64 (a1 - 1)) = j_ := ⟨_, rfl⟩
         replace H : (if 0 ≤ (ji11) then (if (ji11) < (l0.length : Int) then (some (((rd_T40 l0 (ji11)).f0) == 0)) else (none)) else (none)) = some r := by first | (rw [hji11] at H; exact H) | (simp only [hji11] at H ⊢; exact H)
         have hji11w : (IntKind.i64.wrap (a1 - 1)) = ji11 := (i64_w _).trans hji11
         by_cases c12 : 0 ≤ (ji11)
         ·rw [if_pos c12] at H
          have c12b0 : decide (0 ≤ (ji11)) = true := decide_eq_true c12
          clear c12
          by_cases c13 : (ji11) < (l0.length : Int)
          ·rw [if_pos c13] at H
           have c13b0 : decide ((ji11) < (l0.length : Int)) = true := decide_eq_true c13
           clear c13
           obtain rfl := Option.some.inj H
           have p332 : 0 ≤ (a1 : Int) := od_
           have q332 : a1 < (l0.length : Int) := od_
           obtain ⟨ad332, e332, hx332_0, hx332_1, hx332_2, hx332_3, hx332_4, hx332_5, hx332_6, hx332_7, hx332_8⟩ := at_T40 HR0.out a1 p332 q332
           cases e332
           replace p332 := eq_true p332
           replace q332 := eq_true q332
           have p334 : 0 ≤ (a1 : Int) := od_
           have q334 : a1 < (l0.length : Int) := od_
           obtain ⟨ad334, e334, hx334_0, hx334_1, hx334_2, hx334_3, hx334_4, hx334_5, hx334_6, hx334_7, hx334_8⟩ := at_T40 HR0.out a1 p334 q334
           obtain rfl : ad332 = ad334 := (by injection e334)
           replace p334 := eq_true p334
           replace q334 := eq_true q334
           have p335 : 0 ≤ ((ji11) : Int) := od_
           have q335 : (ji11) < (l0.length : Int) := od_
           obtain ⟨ad335, e335, hx335_0, hx335_1, hx335_2, hx335_3, hx335_4, hx335_5, hx335_6, hx335_7, hx335_8⟩ := at_T40 HR0.out (ji11) p335 q335
           obtain rfl : ad332 = ad335 := (by injection e335)
           replace p335 := eq_true p335
           replace q335 := eq_true q335
           go_wp2
           go_ret
           exact ⟨by first | rfl | (simp; done) | (simp only [← hji11] <;> (first | rfl | simp)) | (simp [*]; done), by repeat (first | exact Drawn0.refl _ | apply Drawn0.step)⟩
          ·rw [if_neg c13] at H
           exact absurd H (by simp)
         ·rw [if_neg c12] at H
          exact absurd H (by simp)
        ·rw [if_neg c10] at H
         have c10b0 : decide (0 < a1) = false := decide_eq_false c10
         clear c10
         obtain rfl := Option.some.inj H
         have p332 : 0 ≤ (a1 : Int) := od_
         have q332 : a1 < (l0.length : Int) := od_
         obtain ⟨ad332, e332, hx332_0, hx332_1, hx332_2, hx332_3, hx332_4, hx332_5, hx332_6, hx332_7, hx332_8⟩ := at_T40 HR0.out a1 p332 q332
         cases e332
         replace p332 := eq_true p332
         replace q332 := eq_true q332
         have p334 : 0 ≤ (a1 : Int) := od_
         have q334 : a1 < (l0.length : Int) := od_
         obtain ⟨ad334, e334, hx334_0, hx334_1, hx334_2, hx334_3, hx334_4, hx334_5, hx334_6, hx334_7, hx334_8⟩ := at_T40 HR0.out a1 p334 q334
         obtain rfl : ad332 = ad334 := (by injection e334)
         replace p334 := eq_true p334
         replace q334 := eq_true q334
         go_wp2
         go_ret
         exact ⟨by first | rfl | (simp; done) | (simp [*]; done), by repeat (first | exact Drawn0.refl _ | apply Drawn0.step)⟩
       ·rw [if_neg c9] at H
        have c9b0 : (((rd_T40 l0 a1).f0) == 1) = false := beq_eq_false_iff_ne.mpr c9
        have c9b1 : (((rd_T40 l0 a1).f0) != 1) = true := bne_iff_ne.mpr c9
        obtain rfl := Option.some.inj H
        have p332 : 0 ≤ (a1 : Int) := od_
        have q332 : a1 < (l0.length : Int) := od_
        obtain ⟨ad332, e332, hx332_0, hx332_1, hx332_2, hx332_3, hx332_4, hx332_5, hx332_6, hx332_7, hx332_8⟩ := at_T40 HR0.out a1 p332 q332
        cases e332
        replace p332 := eq_true p332
        replace q332 := eq_true q332
        have p334 : 0 ≤ (a1 : Int) := od_
        have q334 : a1 < (l0.length : Int) := od_
        obtain ⟨ad334, e334, hx334_0, hx334_1, hx334_2, hx334_3, hx334_4, hx334_5, hx334_6, hx334_7, hx334_8⟩ := at_T40 HR0.out a1 p334 q334
        obtain rfl : ad332 = ad334 := (by injection e334)
        replace p334 := eq_true p334
        replace q334 := eq_true q334
        go_wp2
        go_ret
        exact ⟨by first | rfl | (simp; done) | (simp [*]; done), by repeat (first | exact Drawn0.refl _ | apply Drawn0.step)⟩
     ·rw [if_neg c7] at H
      exact absurd H (by simp)
    ·rw [if_neg c6] at H
     exact absurd H (by simp)

/-! ### variorumref10_Forced: function 34 -/
def variorumref10_Forced.f (a0_0 : Int) (a0_1 : Int) (a0_2 : Int) (a0_3 : Int) (a0_4 : Int) (a0_5 : Int) (a0_6 : Bool) (a0_7 : Int) (a0_8 : Int) : Option (Bool) := if a0_0 = 2 then (some (a0_5 == (-10000))) else (some false)
set_option maxHeartbeats 8000000 in
set_option maxRecDepth 100000 in
theorem variorumref10_Forced.calls (a0_0 : Int) (a0_1 : Int) (a0_2 : Int) (a0_3 : Int) (a0_4 : Int) (a0_5 : Int) (a0_6 : Bool) (a0_7 : Int) (a0_8 : Int) (r : Bool) (w : World) (h : variorumref10_Forced.f a0_0 a0_1 a0_2 a0_3 a0_4 a0_5 a0_6 a0_7 a0_8 = some r) :
  Calls Try.prog 34 #[.agg #[.int .i64 a0_0, .int .i64 a0_1, .int .i64 a0_2, .int .i64 a0_3, .int .i64 a0_4, .int .i64 a0_5, .bool a0_6, .int .i64 a0_7, .int .i64 a0_8]] w fun e w' => e = .returned (.bool r) ∧ Below w.heap.size w w' := by
 have hu40 := Try.underlying40
 have HB := a_ (Below.refl w.heap.size w)
 have H : (if a0_0 = 2 then (some (a0_5 == (-10000))) else (some false)) = some r := h
 clear h
 by_cases c2 : a0_0 = 2
 ·rw [if_pos c2] at H
  have c2b0 : (a0_0 == 2) = true := beq_iff_eq.mpr c2
  have c2b1 : (a0_0 != 2) = false := bne_eq_false_iff_eq.mpr c2
  clear c2
  obtain rfl := Option.some.inj H
  go_enter Try.func34, Try.ntmps34
  go_wp2_with (first | ((with_reducible refine gate_dst (N := 1) rfl ?_); refine box_event ?hg (N := 1) ?hd (cs := #[.int .i64 a0_0, .int .i64 a0_1, .int .i64 a0_2, .int .i64 a0_3, .int .i64 a0_4, .int .i64 a0_5, .bool a0_6, .int .i64 a0_7, .int .i64 a0_8]) (t := 40) ?hr ?_; (case hd => rfl); (case hg => rfl); (case hr => first | (go_simp; done) | (go_simp; rfl)); intro gb336 hg w3 hbox hb; have n0_ := a_ (bs_ HB.out hb); have n1_ := a_ (hbox); have n2_ := a_ ((by rw [hg]; exact (below_size (bv_ HB.out)) : w.heap.size ≤ gb336)); have n3_ := a_ ((by rw [hg]; exact (below_size (bv_ HB.out)) : w.heap.size ≤ gb336)); clear HB; have HB := n0_; have BK336 := n1_; have GW336 := n2_; have GE336 := n3_; clear n0_ n1_ n2_ n3_; clear hb hbox hg; obtain ⟨⟨Z4_0, Y4_0⟩, ⟨Z4_1, Y4_1⟩, ⟨Z4_2, Y4_2⟩, ⟨Z4_3, Y4_3⟩, ⟨Z4_4, Y4_4⟩, ⟨Z4_5, Y4_5⟩, ⟨Z4_6, Y4_6⟩, ⟨Z4_7, Y4_7⟩, Z4_8, Y4_8⟩ := cs9_ BK336.out))
  go_ret
  exact ⟨by first | rfl | (simp [errW_none, errW_some] <;> rfl) | (simp [*, errW_none, errW_some] <;> rfl), bS1_ HB.out GE336.out⟩
 ·rw [if_neg c2] at H
  have c2b0 : (a0_0 == 2) = false := beq_eq_false_iff_ne.mpr c2
  have c2b1 : (a0_0 != 2) = true := bne_iff_ne.mpr c2
  obtain rfl := Option.some.inj H
  go_enter Try.func34, Try.ntmps34
  go_wp2_with (first | ((with_reducible refine gate_dst (N := 1) rfl ?_); refine box_event ?hg (N := 1) ?hd (cs := #[.int .i64 a0_0, .int .i64 a0_1, .int .i64 a0_2, .int .i64 a0_3, .int .i64 a0_4, .int .i64 a0_5, .bool a0_6, .int .i64 a0_7, .int .i64 a0_8]) (t := 40) ?hr ?_; (case hd => rfl); (case hg => rfl); (case hr => first | (go_simp; done) | (go_simp; rfl)); intro gb336 hg w5 hbox hb; have n0_ := a_ (bs_ HB.out hb); have n1_ := a_ (hbox); have n2_ := a_ ((by rw [hg]; exact (below_size (bv_ HB.out)) : w.heap.size ≤ gb336)); have n3_ := a_ ((by rw [hg]; exact (below_size (bv_ HB.out)) : w.heap.size ≤ gb336)); clear HB; have HB := n0_; have BK336 := n1_; have GW336 := n2_; have GE336 := n3_; clear n0_ n1_ n2_ n3_; clear hb hbox hg; obtain ⟨⟨Z6_0, Y6_0⟩, ⟨Z6_1, Y6_1⟩, ⟨Z6_2, Y6_2⟩, ⟨Z6_3, Y6_3⟩, ⟨Z6_4, Y6_4⟩, ⟨Z6_5, Y6_5⟩, ⟨Z6_6, Y6_6⟩, ⟨Z6_7, Y6_7⟩, Z6_8, Y6_8⟩ := cs9_ BK336.out))
  go_ret
  exact ⟨by first | rfl | (simp [errW_none, errW_some] <;> rfl) | (simp [*, errW_none, errW_some] <;> rfl), bS1_ HB.out GE336.out⟩

/-! ### variorumref10_Start: function 33 -/
def variorumref10_Start.l0 : Nat → List (S40) → Int → Int → Option (Int)
 | 0, _, _, _ => none
 | k + 1, x0, x1, x5 => if x5 < (x0.length : Int) then (if x5 > x1 then (if 0 ≤ x5 then (if ((rd_T40 x0 x5).f0) = 0 then (some x5) else ((variorumref10_Forced.f ((rd_T40 x0 x5).f0) ((rd_T40 x0 x5).f1.f0) ((rd_T40 x0 x5).f1.f1) ((rd_T40 x0 x5).f1.f2) ((rd_T40 x0 x5).f1.f3) ((rd_T40 x0 x5).f2) ((rd_T40 x0 x5).f3) ((rd_T40 x0 x5).f4) ((rd_T40 x0 x5).f5)).bind fun t339 => (if t339 = true then (some x5) else (variorumref10_Start.l0 k x0 x1 (wrap64 (x5 + 1)))))) else (none)) else (variorumref10_Start.l0 k x0 x1 (wrap64 (x5 + 1)))) else (some (x0.length : Int))
def variorumref10_Start.f (k : Nat) (l0 : List (S40)) (a1 : Int) : Option (Int) := variorumref10_Start.l0 k l0 a1 0
theorem variorumref10_Start.mono_l : ∀ k, (∀ y0 y1 y2, LeO (variorumref10_Start.l0 k y0 y1 y2) (variorumref10_Start.l0 (k + 1) y0 y1 y2))
 | 0 => fun _ _ _ r h => by simp [variorumref10_Start.l0] at h
 | k + 1 => by
  have ih0 := variorumref10_Start.mono_l k
  ·intro y0 y1 y2
   unfold variorumref10_Start.l0
   repeat' first | (with_reducible first | exact ih0 _ _ _ | exact LeO.refl _ | exact LeO.none _ | refine LeO.ite ?_ ?_ | refine LeO.bind ?_ (fun _ => ?_)) | exact LeO.none _ | refine LeO.ite ?_ ?_ | refine LeO.bind ?_ (fun _ => ?_)
theorem variorumref10_Start.mono : ∀ a0 a1 k, LeO (variorumref10_Start.f k a0 a1) (variorumref10_Start.f (k + 1) a0 a1) := by
 intro a0 a1 k
 have ih0 := variorumref10_Start.mono_l k
 unfold variorumref10_Start.f
 repeat' first
   | (with_reducible exact ih0 _ _ _)
   | (with_reducible exact LeO.refl _)
   | (with_reducible exact LeO.none _)
   | (with_reducible refine LeO.ite ?_ ?_)
   | (with_reducible refine LeO.bind ?_ (fun _ => ?_))
   | exact ih0 _ _ _
   | exact LeO.none _
   | refine LeO.ite ?_ ?_
   | refine LeO.bind ?_ (fun _ => ?_)
set_option maxHeartbeats 8000000 in
set_option maxRecDepth 100000 in
theorem variorumref10_Start.calls (k : Nat) (A0 : Option Addr) (c0 : Nat) (l0 : List (S40)) (a1 : Int) (r : Int) (w : World) (hr0 : Kd.C k40 w A0 l0.length l0) (hc0 : l0.length ≤ c0) (h : variorumref10_Start.f k l0 a1 = some r) :
  Calls Try.prog 33 #[.slice A0 l0.length c0, .int .i64 a1] w fun e w' => e = .returned (.int .i64 r) ∧ Below w.heap.size w w' := by
 have hu40 := Try.underlying40
 have HR0 := a_ hr0
 have HC0 := a_ hc0
 clear hr0 hc0
 have HB := a_ (Below.refl w.heap.size w)
 have H : (variorumref10_Start.l0 k l0 a1 0) = some r := h
 clear h
 have H' := a_ H
 clear H
 go_enter Try.func33, Try.ntmps33
 go_wp2
 go_loopg [5] k (fun kq v5 w' => ∃ (x5_1 : Int), v5 = .int .i64 x5_1 ∧ Aside0 (variorumref10_Start.l0 kq l0 a1 x5_1 = some r) ∧ Aside0 (kq ≤ k) ∧ Aside0 (Below w.heap.size w w'))
 case atStart => exact ⟨(0), (by first | rfl | (simp; done) | (simp [*]; done)), H', ⟨Nat.le_refl _⟩, ⟨bv_ HB.out⟩⟩
 case round =>
  clear H'
  try clear p2
  obtain ⟨x5_1, rfl, HA, HK1, HB⟩ := hrel
  cases gk with
  | zero => exact absurd HA.out (by simp [variorumref10_Start.l0])
  | succ k1 =>
   have H := HA.out
   clear HA
   simp only [variorumref10_Start.l0] at H
   by_cases c3 : x5_1 < (l0.length : Int)
   ·rw [if_pos c3] at H
    have c3b0 : decide (x5_1 < (l0.length : Int)) = true := decide_eq_true c3
    clear c3
    by_cases c4 : x5_1 > a1
    ·rw [if_pos c4] at H
     have c4b0 : decide (a1 < x5_1) = true := decide_eq_true c4
     clear c4
     by_cases c5 : 0 ≤ x5_1
     ·rw [if_pos c5] at H
      have c5b0 : decide (0 ≤ x5_1) = true := decide_eq_true c5
      clear c5
      by_cases c6 : ((rd_T40 l0 x5_1).f0) = 0
      ·rw [if_pos c6] at H
       have c6b0 : (((rd_T40 l0 x5_1).f0) == 0) = true := beq_iff_eq.mpr c6
       have c6b1 : (((rd_T40 l0 x5_1).f0) != 0) = false := bne_eq_false_iff_eq.mpr c6
       clear c6
       obtain rfl := Option.some.inj H
       have p337 : 0 ≤ (x5_1 : Int) := od_
       have q337 : x5_1 < (l0.length : Int) := od_
       obtain ⟨ad337, e337, hx337_0, hx337_1, hx337_2, hx337_3, hx337_4, hx337_5, hx337_6, hx337_7, hx337_8⟩ := at_T40 (Kd.C_below HR0.out HB.out) x5_1 p337 q337
       cases e337
       replace p337 := eq_true p337
       replace q337 := eq_true q337
       go_wp2
       go_ret
       exact ⟨by first | rfl | (simp [errW_none, errW_some] <;> rfl) | (simp [*, errW_none, errW_some] <;> rfl), bv_ HB.out⟩
      ·rw [if_neg c6] at H
       have c6b0 : (((rd_T40 l0 x5_1).f0) == 0) = false := beq_eq_false_iff_ne.mpr c6
       have c6b1 : (((rd_T40 l0 x5_1).f0) != 0) = true := bne_iff_ne.mpr c6
       replace H := Option.bind_eq_some_iff.mp H
       obtain ⟨t339, A70, H⟩ := H
       replace H : (if t339 = true then (some x5_1) else (variorumref10_Start.l0 k1 l0 a1 (wrap64 (x5_1 + 1)))) = some r := H
       have A7 := a_ A70
       clear A70
       by_cases c8 : t339 = true
       ·subst c8
        have H1 : (some x5_1) = some r := by rw [if_pos rfl] at H; exact H
        clear H
        have H := H1
        clear H1
        obtain rfl := Option.some.inj H
        have p337 : 0 ≤ (x5_1 : Int) := od_
        have q337 : x5_1 < (l0.length : Int) := od_
        obtain ⟨ad337, e337, hx337_0, hx337_1, hx337_2, hx337_3, hx337_4, hx337_5, hx337_6, hx337_7, hx337_8⟩ := at_T40 (Kd.C_below HR0.out HB.out) x5_1 p337 q337
        cases e337
        replace p337 := eq_true p337
        replace q337 := eq_true q337
        have p338 : 0 ≤ (x5_1 : Int) := od_
        have q338 : x5_1 < (l0.length : Int) := od_
        obtain ⟨ad338, e338, hx338_0, hx338_1, hx338_2, hx338_3, hx338_4, hx338_5, hx338_6, hx338_7, hx338_8⟩ := at_T40 (Kd.C_below HR0.out HB.out) x5_1 p338 q338
        obtain rfl : ad337 = ad338 := (by injection e338)
        replace p338 := eq_true p338
        replace q338 := eq_true q338
        go_wp2_with (first | (go_at_call 34; (with_reducible refine (variorumref10_Forced.calls ((rd_T40 l0 x5_1).f0) ((rd_T40 l0 x5_1).f1.f0) ((rd_T40 l0 x5_1).f1.f1) ((rd_T40 l0 x5_1).f1.f2) ((rd_T40 l0 x5_1).f1.f3) ((rd_T40 l0 x5_1).f2) ((rd_T40 l0 x5_1).f3) ((rd_T40 l0 x5_1).f4) ((rd_T40 l0 x5_1).f5) true _ A7.out).mono ?_); rintro e w9 ⟨rfl, hb⟩; have n0_ := a_ (bs_ HB.out hb); clear HB; have HB := n0_; clear n0_; (try clear hb); (try clear hb2); (try clear hk); (try clear hi)))
        go_ret
        exact ⟨by first | rfl | (simp [errW_none, errW_some] <;> rfl) | (simp [*, errW_none, errW_some] <;> rfl), bv_ HB.out⟩
       ·replace c8 := Bool.eq_false_iff.mpr c8
        subst c8
        have H1 : (variorumref10_Start.l0 k1 l0 a1 (wrap64 (x5_1 + 1))) = some r := by rw [if_neg (show ¬ (false = true) by decide)] at H; exact H
        clear H
        have H := H1
        clear H1
        have H' := a_ H
        clear H
        have p337 : 0 ≤ (x5_1 : Int) := od_
        have q337 : x5_1 < (l0.length : Int) := od_
        obtain ⟨ad337, e337, hx337_0, hx337_1, hx337_2, hx337_3, hx337_4, hx337_5, hx337_6, hx337_7, hx337_8⟩ := at_T40 (Kd.C_below HR0.out HB.out) x5_1 p337 q337
        cases e337
        replace p337 := eq_true p337
        replace q337 := eq_true q337
        have p338 : 0 ≤ (x5_1 : Int) := od_
        have q338 : x5_1 < (l0.length : Int) := od_
        obtain ⟨ad338, e338, hx338_0, hx338_1, hx338_2, hx338_3, hx338_4, hx338_5, hx338_6, hx338_7, hx338_8⟩ := at_T40 (Kd.C_below HR0.out HB.out) x5_1 p338 q338
        obtain rfl : ad337 = ad338 := (by injection e338)
        replace p338 := eq_true p338
        replace q338 := eq_true q338
        go_wp2_with (first | (go_at_call 34; (with_reducible refine (variorumref10_Forced.calls ((rd_T40 l0 x5_1).f0) ((rd_T40 l0 x5_1).f1.f0) ((rd_T40 l0 x5_1).f1.f1) ((rd_T40 l0 x5_1).f1.f2) ((rd_T40 l0 x5_1).f1.f3) ((rd_T40 l0 x5_1).f2) ((rd_T40 l0 x5_1).f3) ((rd_T40 l0 x5_1).f4) ((rd_T40 l0 x5_1).f5) false _ A7.out).mono ?_); rintro e w10 ⟨rfl, hb⟩; have n0_ := a_ (bs_ HB.out hb); clear HB; have HB := n0_; clear n0_; (try clear hb); (try clear hb2); (try clear hk); (try clear hi)))
        go_roundg k1
        case measure => have := HK1.out; omega
        case rel => exact ⟨(wrap64 (x5_1 + 1)), (by first | rfl | (simp; done) | (simp [*]; done)), H', ⟨by have := HK1.out; omega⟩, ⟨bv_ HB.out⟩⟩
     ·rw [if_neg c5] at H
      exact absurd H (by simp)
    ·rw [if_neg c4] at H
     have c4b0 : decide (a1 < x5_1) = false := decide_eq_false c4
     clear c4
     have H' := a_ H
     clear H
     go_wp2
     go_roundg k1
     case measure => have := HK1.out; omega
     case rel => exact ⟨(wrap64 (x5_1 + 1)), (by first | rfl | (simp; done) | (simp [*]; done)), H', ⟨by have := HK1.out; omega⟩, ⟨bv_ HB.out⟩⟩
   ·rw [if_neg c3] at H
    have c3b0 : decide (x5_1 < (l0.length : Int)) = false := decide_eq_false c3
    clear c3
    obtain rfl := Option.some.inj H
    go_wp2
    go_ret
    exact ⟨by first | rfl | (simp [errW_none, errW_some] <;> rfl) | (simp [*, errW_none, errW_some] <;> rfl), bv_ HB.out⟩

end Go.Proofs.Ytpfnfofaajpdmaa.PWi

/- Written by a program of this session: functions of the given program as plain Lean functions, the walks that show it, and the row of each law, for every input that its statement speaks of. -/
import Derived.Test.YtbdaaiagpknaoaaPUqx0
import Derived.Test.YtbdaaiagpknaoaaPUqx5
import Derived.Test.YtbdaaiagpknaoaaPUqx6
import Derived.Test.YtbdaaiagpknaoaaPUqx7
namespace Go.Proofs.Ytbdaaiagpknaoaa.PUq
open Go.RowKit Go.Proofs.YtbdaaiagpknaoaaW.PrintWords Go.Proofs.YtbdaaiagpknaoaaW.PrintLast Go.Proofs.YtbdaaiagpknaoaaW.PrintMore
attribute [local go_sem] max2_int min2_int max_two min_two max_three min_three max_four min_four   -- for this text's walks alone
set_option linter.unusedVariables false
set_option linter.unusedSimpArgs false

/-! ### variorumlaw09_ItemParts: function 6 -/
mutual
def variorumlaw09_ItemParts.j0 : Nat → Int → List (S45) → Bool → Int → Int → Int → Int → Int → List (S85) → List (S87) → List (S89) → List (List (List (S47))) → List (List (List (S47))) → Option (Bool)
 | 0, _, _, _, _, _, _, _, _, _, _, _, _, _ => none
 | k + 1, x1, x8, x34, x182000, x182001, x182002, x182003, x182004, x182005, x182006, x182007, x183000, x183001 => if x34 = true then ((variorumlaw09_fixed.f k).bind fun t199 => (some t199)) else ((item_Verse.f k x182000 x182001 x182002 x182003 x182004 x182005 x182006 x182007 x1 x183000).bind fun bt200 => ((item_Verse.f k x182000 x182001 x182002 x182003 x182004 x182005 x182006 x182007 x1 x183001).bind fun bt206 => (if bt200.2.1 = 0 then (if bt206.2.1 = 0 then (if (wrap64 ((bt200.1.length : Int) + (bt206.1.length : Int))) = (x8.length : Int) then (if 0 ≤ (bt200.1.length : Int) then (if (bt200.1.length : Int) ≤ (x8.length : Int) then ((variorumref09_Same.f k (x8.take ((bt200.1.length : Int) : Int).toNat) bt200.1).bind fun t217 => (variorumlaw09_ItemParts.j1 k x8 bt200.1 bt206.1 (!t217))) else (none)) else (none)) else (variorumlaw09_ItemParts.j1 k x8 bt200.1 bt206.1 true)) else (variorumlaw09_ItemParts.j1 k x8 bt200.1 bt206.1 true)) else (variorumlaw09_ItemParts.j1 k x8 bt200.1 bt206.1 true))))
def variorumlaw09_ItemParts.j1 : Nat → List (S45) → List (S45) → List (S45) → Bool → Option (Bool)
 | 0, _, _, _, _ => none
 | k + 1, x8, x10, x12, x78 => if x78 = true then (none) else ((item_Boxes.f k x10).bind fun t218 => ((item_Boxes.f k x12).bind fun t221 => ((item_Boxes.f k x8).bind fun t224 => (if (wrap64 ((t218.length : Int) + (t221.length : Int))) = (t224.length : Int) then (if 0 ≤ (x10.length : Int) then (if (x10.length : Int) ≤ (x8.length : Int) then ((item_May.f k (x8.drop ((x10.length : Int) : Int).toNat)).bind fun t232 => (some t232)) else (none)) else (none)) else (none)))))
end
def variorumlaw09_ItemParts.f (k : Nat) (a0_0 : Int) (a0_1 : Int) (a0_2 : Int) (a0_3 : Int) (a0_4 : Int) (l0_5 : List (S85)) (l0_6 : List (S87)) (l0_7 : List (S89)) (a1 : Int) (l2_0 : List (List (List (S47)))) (l2_1 : List (List (List (S47)))) : Option (Bool) := (some (([] : List (List (List (S47)))) : List (List (List (S47))))).bind fun y183 => (if y183.length + l2_0.length < 5864062014805 then ((some (y183 ++ l2_0 : List (List (List (S47))))).bind fun y186 => (if y186.length + l2_1.length < 5864062014805 then ((item_Verse.f k a0_0 a0_1 a0_2 a0_3 a0_4 l0_5 l0_6 l0_7 a1 (y186 ++ l2_1)).bind fun bt192 => ((variorumlaw09_fixed.f k).bind fun t198 => (if t198 = true then (variorumlaw09_ItemParts.j0 k a1 bt192.1 (bt192.2.1 != 0) a0_0 a0_1 a0_2 a0_3 a0_4 l0_5 l0_6 l0_7 l2_0 l2_1) else (variorumlaw09_ItemParts.j0 k a1 bt192.1 true a0_0 a0_1 a0_2 a0_3 a0_4 l0_5 l0_6 l0_7 l2_0 l2_1)))) else (none))) else (none))
theorem variorumlaw09_ItemParts.mono_l : ∀ k, (∀ y0 y1 y2 y3 y4 y5 y6 y7 y8 y9 y10 y11 y12, LeO (variorumlaw09_ItemParts.j0 k y0 y1 y2 y3 y4 y5 y6 y7 y8 y9 y10 y11 y12) (variorumlaw09_ItemParts.j0 (k + 1) y0 y1 y2 y3 y4 y5 y6 y7 y8 y9 y10 y11 y12)) ∧ (∀ y0 y1 y2 y3, LeO (variorumlaw09_ItemParts.j1 k y0 y1 y2 y3) (variorumlaw09_ItemParts.j1 (k + 1) y0 y1 y2 y3))
 | 0 => ⟨fun _ _ _ _ _ _ _ _ _ _ _ _ _ r h => by simp [variorumlaw09_ItemParts.j0] at h, fun _ _ _ _ r h => by simp [variorumlaw09_ItemParts.j1] at h⟩
 | k + 1 => by
  obtain ⟨ih0, ih1⟩ := variorumlaw09_ItemParts.mono_l k
  refine ⟨?_, ?_⟩
  ·intro y0 y1 y2 y3 y4 y5 y6 y7 y8 y9 y10 y11 y12
   unfold variorumlaw09_ItemParts.j0
   repeat' first
   | (with_reducible exact ih0 _ _ _ _ _ _ _ _ _ _ _ _ _)
   | (with_reducible exact ih1 _ _ _ _)
   | (with_reducible exact item_Boxes.mono _ _)
   | (with_reducible exact item_May.mono _ _)
   | (with_reducible exact item_Verse.mono _ _ _ _ _ _ _ _ _ _ _)
   | (with_reducible exact variorumlaw09_fixed.mono _)
   | (with_reducible exact variorumref09_Same.mono _ _ _)
   | (with_reducible exact LeO.refl _)
   | (with_reducible exact LeO.none _)
   | (with_reducible refine LeO.ite ?_ ?_)
   | (with_reducible refine LeO.bind ?_ (fun _ => ?_))
   | exact ih0 _ _ _ _ _ _ _ _ _ _ _ _ _
   | exact ih1 _ _ _ _
   | exact item_Boxes.mono _ _
   | exact item_May.mono _ _
   | exact item_Verse.mono _ _ _ _ _ _ _ _ _ _ _
   | exact variorumlaw09_fixed.mono _
   | exact variorumref09_Same.mono _ _ _
   | exact LeO.none _
   | refine LeO.ite ?_ ?_
   | refine LeO.bind ?_ (fun _ => ?_)
  ·intro y0 y1 y2 y3
   unfold variorumlaw09_ItemParts.j1
   repeat' first
   | (with_reducible exact ih0 _ _ _ _ _ _ _ _ _ _ _ _ _)
   | (with_reducible exact ih1 _ _ _ _)
   | (with_reducible exact item_Boxes.mono _ _)
   | (with_reducible exact item_May.mono _ _)
   | (with_reducible exact item_Verse.mono _ _ _ _ _ _ _ _ _ _ _)
   | (with_reducible exact variorumlaw09_fixed.mono _)
   | (with_reducible exact variorumref09_Same.mono _ _ _)
   | (with_reducible exact LeO.refl _)
   | (with_reducible exact LeO.none _)
   | (with_reducible refine LeO.ite ?_ ?_)
   | (with_reducible refine LeO.bind ?_ (fun _ => ?_))
   | exact ih0 _ _ _ _ _ _ _ _ _ _ _ _ _
   | exact ih1 _ _ _ _
   | exact item_Boxes.mono _ _
   | exact item_May.mono _ _
   | exact item_Verse.mono _ _ _ _ _ _ _ _ _ _ _
   | exact variorumlaw09_fixed.mono _
   | exact variorumref09_Same.mono _ _ _
   | exact LeO.none _
   | refine LeO.ite ?_ ?_
   | refine LeO.bind ?_ (fun _ => ?_)
theorem variorumlaw09_ItemParts.mono : ∀ a0 a1 a2 a3 a4 a5 a6 a7 a8 a9 a10 k, LeO (variorumlaw09_ItemParts.f k a0 a1 a2 a3 a4 a5 a6 a7 a8 a9 a10) (variorumlaw09_ItemParts.f (k + 1) a0 a1 a2 a3 a4 a5 a6 a7 a8 a9 a10) := by
 intro a0 a1 a2 a3 a4 a5 a6 a7 a8 a9 a10 k
 obtain ⟨ih0, ih1⟩ := variorumlaw09_ItemParts.mono_l k
 unfold variorumlaw09_ItemParts.f
 repeat' first
   | (with_reducible exact ih0 _ _ _ _ _ _ _ _ _ _ _ _ _)
   | (with_reducible exact ih1 _ _ _ _)
   | (with_reducible exact item_Boxes.mono _ _)
   | (with_reducible exact item_May.mono _ _)
   | (with_reducible exact item_Verse.mono _ _ _ _ _ _ _ _ _ _ _)
   | (with_reducible exact variorumlaw09_fixed.mono _)
   | (with_reducible exact variorumref09_Same.mono _ _ _)
   | (with_reducible exact LeO.refl _)
   | (with_reducible exact LeO.none _)
   | (with_reducible refine LeO.ite ?_ ?_)
   | (with_reducible refine LeO.bind ?_ (fun _ => ?_))
   | exact ih0 _ _ _ _ _ _ _ _ _ _ _ _ _
   | exact ih1 _ _ _ _
   | exact item_Boxes.mono _ _
   | exact item_May.mono _ _
   | exact item_Verse.mono _ _ _ _ _ _ _ _ _ _ _
   | exact variorumlaw09_fixed.mono _
   | exact variorumref09_Same.mono _ _ _
   | exact LeO.none _
   | refine LeO.ite ?_ ?_
   | refine LeO.bind ?_ (fun _ => ?_)
def variorumlaw09_ItemParts.T1 : Bool × List (List Nat × List Nat) := (true, [([], []), ([], []), ([1], [1]), ([0, 2], [0, 2]), ([], []), ([4], [4]), ([3, 5, 3], [3, 5]), ([6, 6, 0, 1, 2, 3, 4, 5, 6], [6])])
def variorumlaw09_ItemParts.B1 : List Nat := [0, 0, 2, 7, 0, 16, 63, 127]
theorem variorumlaw09_ItemParts.tab1 : rtab .any (opsOf Try.f6 1) = variorumlaw09_ItemParts.T1 := by kernel_rfl
theorem variorumlaw09_ItemParts.bits1 : waitsOk variorumlaw09_ItemParts.T1.2 variorumlaw09_ItemParts.B1 = true := by kernel_rfl
set_option maxHeartbeats 8000000 in
set_option maxRecDepth 100000 in
theorem variorumlaw09_ItemParts.calls (k : Nat) (a0_0 : Int) (a0_1 : Int) (a0_2 : Int) (a0_3 : Int) (a0_4 : Int) (A0_5 : Option Addr) (c0_5 : Nat) (l0_5 : List (S85)) (A0_6 : Option Addr) (c0_6 : Nat) (l0_6 : List (S87)) (A0_7 : Option Addr) (c0_7 : Nat) (l0_7 : List (S89)) (a1 : Int) (P2_0_ : Nat → Prop) (A2_0 : Option Addr) (c2_0 : Nat) (l2_0 : List (List (List (S47)))) (P2_1_ : Nat → Prop) (A2_1 : Option Addr) (c2_1 : Nat) (l2_1 : List (List (List (S47)))) (r : Bool) (w : World) (hr0_5 : Kd.C k85 w A0_5 l0_5.length l0_5) (hc0_5 : l0_5.length ≤ c0_5) (hr0_6 : Kd.C k87 w A0_6 l0_6.length l0_6) (hc0_6 : l0_6.length ≤ c0_6) (hr0_7 : Kd.C k89 w A0_7 l0_7.length l0_7) (hc0_7 : l0_7.length ≤ c0_7) (hs2_0 : Kd.V (Kd.slice 43 (Kd.slice 47 k47)) 36 w w.heap.size (fun k_ => P2_0_ k_) (.slice A2_0 l2_0.length c2_0) l2_0) (hs2_1 : Kd.V (Kd.slice 43 (Kd.slice 47 k47)) 36 w w.heap.size (fun k_ => P2_1_ k_) (.slice A2_1 l2_1.length c2_1) l2_1) (h : variorumlaw09_ItemParts.f k a0_0 a0_1 a0_2 a0_3 a0_4 l0_5 l0_6 l0_7 a1 l2_0 l2_1 = some r) :
  Calls Try.prog 6 #[.agg #[.int .i64 a0_0, .int .i64 a0_1, .int .i64 a0_2, .int .i64 a0_3, .int .i32 a0_4, .slice A0_5 l0_5.length c0_5, .slice A0_6 l0_6.length c0_6, .slice A0_7 l0_7.length c0_7], .int .i64 a1, .agg #[.slice A2_0 l2_0.length c2_0, .slice A2_1 l2_1.length c2_1]] w fun e w' => e = .returned (.bool r) ∧ Below w.heap.size w w' := by
 have hu28 := Try.underlying28
 have hu49 := Try.underlying49
 have hu33 := Try.underlying33
 have HR0_5 := Aside0.mk hr0_5
 have HC0_5 := Aside0.mk hc0_5
 clear hr0_5 hc0_5
 have HR0_6 := Aside0.mk hr0_6
 have HC0_6 := Aside0.mk hc0_6
 clear hr0_6 hc0_6
 have HR0_7 := Aside0.mk hr0_7
 have HC0_7 := Aside0.mk hc0_7
 clear hr0_7 hc0_7
 have HO2_0 := Aside0.mk (show Kd.V (Kd.slice 43 (Kd.slice 47 k47)) 36 w w.heap.size (fun k_ => ((P2_0_ k_ ∨ P2_1_ k_) ∨ w.heap.size ≤ k_)) (.slice A2_0 l2_0.length c2_0) l2_0 from Kd.V_mono hs2_0 (fun k_ hk => .inl (.inl hk)))
 have HO2_1 := Aside0.mk (show Kd.V (Kd.slice 43 (Kd.slice 47 k47)) 36 w w.heap.size (fun k_ => ((P2_0_ k_ ∨ P2_1_ k_) ∨ w.heap.size ≤ k_)) (.slice A2_1 l2_1.length c2_1) l2_1 from Kd.V_mono hs2_1 (fun k_ hk => .inl (.inr hk)))
 have HB := Aside0.mk (Below.refl w.heap.size w)
 have H : ((some (([] : List (List (List (S47)))) : List (List (List (S47))))).bind fun y183 => (if y183.length + l2_0.length < 5864062014805 then ((some (y183 ++ l2_0 : List (List (List (S47))))).bind fun y186 => (if y186.length + l2_1.length < 5864062014805 then ((item_Verse.f k a0_0 a0_1 a0_2 a0_3 a0_4 l0_5 l0_6 l0_7 a1 (y186 ++ l2_1)).bind fun bt192 => ((variorumlaw09_fixed.f k).bind fun t198 => (if t198 = true then (variorumlaw09_ItemParts.j0 k a1 bt192.1 (bt192.2.1 != 0) a0_0 a0_1 a0_2 a0_3 a0_4 l0_5 l0_6 l0_7 l2_0 l2_1) else (variorumlaw09_ItemParts.j0 k a1 bt192.1 true a0_0 a0_1 a0_2 a0_3 a0_4 l0_5 l0_6 l0_7 l2_0 l2_1)))) else (none))) else (none))) = some r := h
 clear h
 obtain ⟨y183, hy183⟩ : ∃ y_ : List (List (List (S47))), y_ = (([] : List (List (List (S47))))) := ⟨_, rfl⟩
 replace H : (if y183.length + l2_0.length < 5864062014805 then ((some (y183 ++ l2_0 : List (List (List (S47))))).bind fun y186 => (if y186.length + l2_1.length < 5864062014805 then ((item_Verse.f k a0_0 a0_1 a0_2 a0_3 a0_4 l0_5 l0_6 l0_7 a1 (y186 ++ l2_1)).bind fun bt192 => ((variorumlaw09_fixed.f k).bind fun t198 => (if t198 = true then (variorumlaw09_ItemParts.j0 k a1 bt192.1 (bt192.2.1 != 0) a0_0 a0_1 a0_2 a0_3 a0_4 l0_5 l0_6 l0_7 l2_0 l2_1) else (variorumlaw09_ItemParts.j0 k a1 bt192.1 true a0_0 a0_1 a0_2 a0_3 a0_4 l0_5 l0_6 l0_7 l2_0 l2_1)))) else (none))) else (none)) = some r := by first | (rw [hy183]; with_reducible exact H) | (have H2_ := (Option.bind_some _ _).symm.trans H; rw [hy183]; with_reducible exact H2_) | (have H2_ := (Option.bind_some _ _).symm.trans H; with_reducible exact H2_) | with_reducible exact H | (rw [hy183]; exact H) | exact H
 have Ny183 := Aside0.mk hy183
 clear hy183
 by_cases c4 : y183.length + l2_0.length < 5864062014805
 ·rw [if_pos c4] at H
  have LMc4 := Aside0.mk c4
  clear c4
  obtain ⟨y186, hy186⟩ : ∃ y_ : List (List (List (S47))), y_ = (y183 ++ l2_0) := ⟨_, rfl⟩
  replace H : (if y186.length + l2_1.length < 5864062014805 then ((item_Verse.f k a0_0 a0_1 a0_2 a0_3 a0_4 l0_5 l0_6 l0_7 a1 (y186 ++ l2_1)).bind fun bt192 => ((variorumlaw09_fixed.f k).bind fun t198 => (if t198 = true then (variorumlaw09_ItemParts.j0 k a1 bt192.1 (bt192.2.1 != 0) a0_0 a0_1 a0_2 a0_3 a0_4 l0_5 l0_6 l0_7 l2_0 l2_1) else (variorumlaw09_ItemParts.j0 k a1 bt192.1 true a0_0 a0_1 a0_2 a0_3 a0_4 l0_5 l0_6 l0_7 l2_0 l2_1)))) else (none)) = some r := by first | (rw [hy186]; with_reducible exact H) | (have H2_ := (Option.bind_some _ _).symm.trans H; rw [hy186]; with_reducible exact H2_) | (have H2_ := (Option.bind_some _ _).symm.trans H; with_reducible exact H2_) | with_reducible exact H | (rw [hy186]; exact H) | exact H
  have Ny186 := Aside0.mk hy186
  clear hy186
  by_cases c5 : y186.length + l2_1.length < 5864062014805
  ·rw [if_pos c5] at H
   have LMc5 := Aside0.mk c5
   clear c5
   obtain ⟨y189, hy189⟩ : ∃ y_ : List (List (List (S47))), y_ = (y186 ++ l2_1) := ⟨_, rfl⟩
   replace H : ((item_Verse.f k a0_0 a0_1 a0_2 a0_3 a0_4 l0_5 l0_6 l0_7 a1 y189).bind fun bt192 => ((variorumlaw09_fixed.f k).bind fun t198 => (if t198 = true then (variorumlaw09_ItemParts.j0 k a1 bt192.1 (bt192.2.1 != 0) a0_0 a0_1 a0_2 a0_3 a0_4 l0_5 l0_6 l0_7 l2_0 l2_1) else (variorumlaw09_ItemParts.j0 k a1 bt192.1 true a0_0 a0_1 a0_2 a0_3 a0_4 l0_5 l0_6 l0_7 l2_0 l2_1)))) = some r := by first | (rw [hy189]; with_reducible exact H) | (have H2_ := (Option.bind_some _ _).symm.trans H; rw [hy189]; with_reducible exact H2_) | (have H2_ := (Option.bind_some _ _).symm.trans H; with_reducible exact H2_) | with_reducible exact H | (rw [hy189]; exact H) | exact H
   have Ny189 := Aside0.mk hy189
   clear hy189
   replace H := Option.bind_eq_some_iff.mp H
   obtain ⟨⟨t192, t195, t196⟩, A60, H⟩ := H
   replace H : ((variorumlaw09_fixed.f k).bind fun t198 => (if t198 = true then (variorumlaw09_ItemParts.j0 k a1 t192 (t195 != 0) a0_0 a0_1 a0_2 a0_3 a0_4 l0_5 l0_6 l0_7 l2_0 l2_1) else (variorumlaw09_ItemParts.j0 k a1 t192 true a0_0 a0_1 a0_2 a0_3 a0_4 l0_5 l0_6 l0_7 l2_0 l2_1))) = some r := H
   have A6 := Aside0.mk A60
   clear A60
   have HC7 := Aside0.mk H
   clear H
   go_enter Try.func6, Try.ntmps6
   try go_wp2_with (first | ((with_reducible refine gate_dst (N := 3) rfl ?_); (try (refine gate_guard (by rfl) ?_; dsimp only)); refine box_event ?hg (N := 3) ?hd (cs := #[.int .i64 a0_0, .int .i64 a0_1, .int .i64 a0_2, .int .i64 a0_3, .int .i32 a0_4, .slice A0_5 l0_5.length c0_5, .slice A0_6 l0_6.length c0_6, .slice A0_7 l0_7.length c0_7]) (t := 28) ?hr ?_; (case hd => rfl); (case hg => rfl); (case hr => first | (go_simp; done) | (go_simp; rfl)); intro gb181 hg w8 hbox hb; have n0_ := Aside0.mk (Kd.V_below (Kd.V_elderB (by (with_reducible repeat (first | apply Kd.V_alloc | apply Kd.V_drewN | apply Kd.V_drew)); exact HO2_0.out) gb181 (Nat.le_of_eq hg.symm)) hb); have n1_ := Aside0.mk (Kd.V_below (Kd.V_elderB (by (with_reducible repeat (first | apply Kd.V_alloc | apply Kd.V_drewN | apply Kd.V_drew)); exact HO2_1.out) gb181 (Nat.le_of_eq hg.symm)) hb); have n2_ := Aside0.mk (below_step (by repeat (first | (with_reducible first | exact HB.out | apply below_alloc | apply pw_below_drewN | apply below_drew1) | exact HB.out)) hb); have n3_ := Aside0.mk (hbox); have n4_ := Aside0.mk ((by rw [hg]; exact (below_size (by repeat (first | (with_reducible first | exact HB.out | apply below_alloc | apply pw_below_drewN | apply below_drew1) | exact HB.out))) : w.heap.size ≤ gb181)); have n5_ := Aside0.mk ((by rw [hg]; exact (below_size (by repeat (first | (with_reducible first | exact HB.out | apply below_alloc | apply pw_below_drewN | apply below_drew1) | exact HB.out))) : w.heap.size ≤ gb181)); clear HO2_0; clear HO2_1; clear HB; have HO2_0 := n0_; have HO2_1 := n1_; have HB := n2_; have BK181 := n3_; have GW181 := n4_; have GE181 := n5_; clear n0_ n1_ n2_ n3_ n4_ n5_; clear hb hbox hg) | ((with_reducible refine gate_dst (N := 5) rfl ?_); (try (refine gate_guard (by rfl) ?_; dsimp only)); refine box_event ?hg (N := 5) ?hd (cs := #[.slice A2_0 l2_0.length c2_0, .slice A2_1 l2_1.length c2_1]) (t := 49) ?hr ?_; (case hd => rfl); (case hg => rfl); (case hr => first | (go_simp; done) | (go_simp; rfl)); intro gb182 hg w9 hbox hb; have n0_ := Aside0.mk (Kd.V_below (Kd.V_elderB (by (with_reducible repeat (first | apply Kd.V_alloc | apply Kd.V_drewN | apply Kd.V_drew)); exact HO2_0.out) gb182 (Nat.le_of_eq hg.symm)) hb); have n1_ := Aside0.mk (Kd.V_below (Kd.V_elderB (by (with_reducible repeat (first | apply Kd.V_alloc | apply Kd.V_drewN | apply Kd.V_drew)); exact HO2_1.out) gb182 (Nat.le_of_eq hg.symm)) hb); have n2_ := Aside0.mk (blk_below (g := gb181) (o := .cells #[.int .i64 a0_0, .int .i64 a0_1, .int .i64 a0_2, .int .i64 a0_3, .int .i32 a0_4, .slice A0_5 l0_5.length c0_5, .slice A0_6 l0_6.length c0_6, .slice A0_7 l0_7.length c0_7] 28 (0, 0)) (by (with_reducible repeat (first | refine blk_drewN ?_ _ | refine blk_drew ?_ | refine blk_alloc ?_ _)); exact BK181.out) hb); have n3_ := Aside0.mk (below_step (by repeat (first | (with_reducible first | exact HB.out | apply below_alloc | apply pw_below_drewN | apply below_drew1 | refine below_set ?_ GE181.out) | exact HB.out)) hb); have n4_ := Aside0.mk (hbox); have n5_ := Aside0.mk ((by rw [hg]; exact (below_size (by repeat (first | (with_reducible first | exact HB.out | apply below_alloc | apply pw_below_drewN | apply below_drew1 | refine below_set ?_ GE181.out) | exact HB.out))) : w.heap.size ≤ gb182)); have n6_ := Aside0.mk ((by rw [hg]; exact (below_size (by repeat (first | (with_reducible first | exact HB.out | apply below_alloc | apply pw_below_drewN | apply below_drew1 | refine below_set ?_ GE181.out) | exact HB.out))) : w.heap.size ≤ gb182)); have n7_ := Aside0.mk ((by rw [hg]; exact Nat.ne_of_lt (blk_lt (g := gb181) (o := .cells #[.int .i64 a0_0, .int .i64 a0_1, .int .i64 a0_2, .int .i64 a0_3, .int .i32 a0_4, .slice A0_5 l0_5.length c0_5, .slice A0_6 l0_6.length c0_6, .slice A0_7 l0_7.length c0_7] 28 (0, 0)) (by (with_reducible repeat (first | refine blk_drewN ?_ _ | refine blk_drew ?_ | refine blk_alloc ?_ _)); exact BK181.out)) : gb181 ≠ gb182)); have n8_ := Aside0.mk ((by rw [hg]; exact Nat.ne_of_gt (blk_lt (g := gb181) (o := .cells #[.int .i64 a0_0, .int .i64 a0_1, .int .i64 a0_2, .int .i64 a0_3, .int .i32 a0_4, .slice A0_5 l0_5.length c0_5, .slice A0_6 l0_6.length c0_6, .slice A0_7 l0_7.length c0_7] 28 (0, 0)) (by (with_reducible repeat (first | refine blk_drewN ?_ _ | refine blk_drew ?_ | refine blk_alloc ?_ _)); exact BK181.out)) : gb182 ≠ gb181)); clear HO2_0; clear HO2_1; clear BK181; clear HB; have HO2_0 := n0_; have HO2_1 := n1_; have BK181 := n2_; have HB := n3_; have BK182 := n4_; have GW182 := n5_; have GE182 := n6_; have NB181_182 := n7_; have NB182_181 := n8_; clear n0_ n1_ n2_ n3_ n4_ n5_ n6_ n7_ n8_; clear hb hbox hg))
   have n0_ := Aside0.mk (Kd.V_drew HO2_0.out)
   have n1_ := Aside0.mk (Kd.V_drew HO2_1.out)
   have n2_ := Aside0.mk (blk_drew BK181.out)
   have n3_ := Aside0.mk (blk_drew BK182.out)
   have n4_ := Aside0.mk (below_drew1 HB.out)
   clear HO2_0
   clear HO2_1
   clear BK181
   clear BK182
   clear HB
   have HO2_0 := n0_
   have HO2_1 := n1_
   have BK181 := n2_
   have BK182 := n3_
   have HB := n4_
   clear n0_ n1_ n2_ n3_ n4_
   refine start_ (n := 8) (S := fun w' => w'.cell? ⟨gb182, 0, none⟩ = some (.slice A2_0 l2_0.length c2_0) ∧ w'.cell? ⟨gb182, 1, none⟩ = some (.slice A2_1 l2_1.length c2_1)) (ds := []) #[false, false, false, false, false, false, false, false] (by kernel_rfl) rfl rfl ⟨(blk_cell BK182.out 0).trans rfl, (blk_cell BK182.out 1).trans rfl⟩ (fun hHeld => ?_); refine with_tabW variorumlaw09_ItemParts.tab1 variorumlaw09_ItemParts.bits1 (fun HT_ HW_ => ?_)
   generalize w9.drew = w10 at HO2_0 HO2_1 BK181 BK182 HB hHeld ⊢
   refine pure_ (i := 1) (N := some 15) (v := ?_) (a' := ?_) #[false, true, false, false, false, false, false, false] rfl rfl (any_of HT_.out (by kernel_rfl)) (fun _ _ _ h => h) (Or.inl ⟨by rfl, ?_⟩) ?_ ?_
   rotate_left
   ·intro w'
    go_simp
    with_reducible rfl
   rotate_left
   ·simp only [Act.put, List.setIfInBounds_toArray, List.set_cons_zero, List.set_cons_succ, i64_w, i32_w]
    rfl
   refine pure_ (i := 4) (N := some 18) (v := ?_) (a' := ?_) #[false, true, false, false, true, false, false, false] rfl rfl (any_of HT_.out (by kernel_rfl)) (fun _ _ _ h => h) (Or.inl ⟨by rfl, ?_⟩) ?_ ?_
   rotate_left
   ·intro w'
    go_simp
    with_reducible rfl
   rotate_left
   ·simp only [Act.put, List.setIfInBounds_toArray, List.set_cons_zero, List.set_cons_succ, i64_w, i32_w]
    rfl
   refine take_ (i := 2) (N := some 16) (v := ?_) (a' := ?_) #[false, true, true, false, true, false, false, false] rfl rfl (take_ofW HT_.out HW_.out (by kernel_rfl)) (fun _ _ _ h => h) (Or.inl ⟨by rfl, ?_⟩) hHeld ?_ ?_
   rotate_left
   ·rintro w' ⟨s0, s1⟩
    go_simp
    with_reducible rfl
   rotate_left
   ·simp only [Act.put, List.setIfInBounds_toArray, List.set_cons_zero, List.set_cons_succ, i64_w, i32_w]
    rfl
   refine take_ (i := 5) (N := some 19) (v := ?_) (a' := ?_) #[false, true, true, false, true, true, false, false] rfl rfl (take_ofW HT_.out HW_.out (by kernel_rfl)) (fun _ _ _ h => h) (Or.inl ⟨by rfl, ?_⟩) hHeld ?_ ?_
   rotate_left
   ·rintro w' ⟨s0, s1⟩
    go_simp
    with_reducible rfl
   rotate_left
   ·simp only [Act.put, List.setIfInBounds_toArray, List.set_cons_zero, List.set_cons_succ, i64_w, i32_w]
    rfl
   refine one_ (i := 0) (N := some 14) #[true, true, true, false, true, true, false, false] rfl rfl (one_of HT_.out (by kernel_rfl)) (by decide) (fun K hK => ?_)
   refine Kd.N_lit_step (Kd.slice 43 (Kd.slice 47 k47)) _ 36 ?hg (N' := 14) ?hd (xs := ([] : List (List (List (S47))))) (inner := []) (ok := (fun k_ => ((P2_0_ k_ ∨ P2_1_ k_) ∨ w.heap.size ≤ k_) ∧ k_ ≠ gb181 ∧ k_ ≠ gb182)) (okp := (fun k_ => ((P2_0_ k_ ∨ P2_1_ k_) ∨ w.heap.size ≤ k_) ∧ k_ ≠ gb181 ∧ k_ ≠ gb182)) ?hr ?hp (fun _ hk => hk) ((show ∀ k_, w10.heap.size ≤ k_ → (fun k_ => ((P2_0_ k_ ∨ P2_1_ k_) ∨ w.heap.size ≤ k_) ∧ k_ ≠ gb181 ∧ k_ ≠ gb182) k_ from fun k_ hk => ⟨(.inr (Nat.le_trans (below_size (by repeat (first | (with_reducible first | exact HB.out | apply below_alloc | apply pw_below_drewN | apply below_drew1 | refine below_set ?_ GE181.out | refine below_set ?_ GE182.out) | exact HB.out))) hk)), Kd.freshB (g := gb181) (o := .cells #[.int .i64 a0_0, .int .i64 a0_1, .int .i64 a0_2, .int .i64 a0_3, .int .i32 a0_4, .slice A0_5 l0_5.length c0_5, .slice A0_6 l0_6.length c0_6, .slice A0_7 l0_7.length c0_7] 28 (0, 0)) (by (with_reducible repeat (first | refine blk_drewN ?_ _ | refine blk_drew ?_ | refine blk_alloc ?_ _)); exact BK181.out) k_ hk, Kd.freshB (g := gb182) (o := .cells #[.slice A2_0 l2_0.length c2_0, .slice A2_1 l2_1.length c2_1] 49 (0, 0)) (by (with_reducible repeat (first | refine blk_drewN ?_ _ | refine blk_drew ?_ | refine blk_alloc ?_ _)); exact BK182.out) k_ hk⟩) _ (Nat.le_refl _)) (Below.refl _ _) (Nat.le_refl _) (by simp) ?_; (case hd => rfl); (case hg => rfl); (case hr => first | (go_simp; done) | (go_simp; rfl)); (case hp => exact (Reps.none _ _))
   intro v184 w11 ho12 hb hg_ hnew_
   clear hg_ hnew_
   (first | rw [← Ny183.out] at ho12 | (simp only [Int.reduceToNat] at ho12; rw [← Ny183.out] at ho12))
   have n0_ := Aside0.mk (Kd.V_elder' (by (with_reducible repeat (first | apply Kd.V_alloc | apply Kd.V_drewN | apply Kd.V_drew)); exact HO2_0.out) (Kd.N_base ho12) hb)
   have n1_ := Aside0.mk (Kd.V_elder' (by (with_reducible repeat (first | apply Kd.V_alloc | apply Kd.V_drewN | apply Kd.V_drew)); exact HO2_1.out) (Kd.N_base ho12) hb)
   have n2_ := Aside0.mk (Kd.N_lower ho12 (below_size (by repeat (first | (with_reducible first | exact HB.out | apply below_alloc | apply pw_below_drewN | apply below_drew1 | refine below_set ?_ GE181.out | refine below_set ?_ GE182.out) | exact HB.out))))
   have n3_ := Aside0.mk (blk_below (g := gb181) (o := .cells #[.int .i64 a0_0, .int .i64 a0_1, .int .i64 a0_2, .int .i64 a0_3, .int .i32 a0_4, .slice A0_5 l0_5.length c0_5, .slice A0_6 l0_6.length c0_6, .slice A0_7 l0_7.length c0_7] 28 (0, 0)) (by (with_reducible repeat (first | refine blk_drewN ?_ _ | refine blk_drew ?_ | refine blk_alloc ?_ _)); exact BK181.out) hb)
   have n4_ := Aside0.mk (blk_below (g := gb182) (o := .cells #[.slice A2_0 l2_0.length c2_0, .slice A2_1 l2_1.length c2_1] 49 (0, 0)) (by (with_reducible repeat (first | refine blk_drewN ?_ _ | refine blk_drew ?_ | refine blk_alloc ?_ _)); exact BK182.out) hb)
   have n5_ := Aside0.mk (below_step (by repeat (first | (with_reducible first | exact HB.out | apply below_alloc | apply pw_below_drewN | apply below_drew1 | refine below_set ?_ GE181.out | refine below_set ?_ GE182.out) | exact HB.out)) hb)
   clear HO2_0
   clear HO2_1
   clear BK181
   clear BK182
   clear HB
   have HO2_0 := n0_
   have HO2_1 := n1_
   have HO185 := n2_
   have BK181 := n3_
   have BK182 := n4_
   have HB := n5_
   clear n0_ n1_ n2_ n3_ n4_ n5_
   clear hb ho12
   refine hK.out _ _ ⟨(blk_cell BK182.out 0).trans rfl, (blk_cell BK182.out 1).trans rfl⟩ (fun hHeld => ?_)
   clear hK K
   refine norm_ (a' := ?_) ?_ ?_
   rotate_left
   ·show Act.put _ (some 14) _ = _
    simp only [Act.put, List.setIfInBounds_toArray, List.set_cons_zero, List.set_cons_succ, i64_w, i32_w]
    rfl
   refine one_ (i := 3) (N := some 17) #[true, true, true, true, true, true, false, false] rfl rfl (one_of HT_.out (by kernel_rfl)) (by decide) (fun K hK => ?_)
   refine Kd.N_append_rows_step (Kd.slice 43 (Kd.slice 47 k47)) (w0 := w) w.heap.size (by rfl) (.tmp 14) (.tmp 16) 29 36 (.slice none 0 0) 24 rfl Try.underlying29 info36 rfl (by decide) (by omega) v184 y183 l2_0 _ _ _ (fun k_ => ((P2_0_ k_ ∨ P2_1_ k_) ∨ w.heap.size ≤ k_) ∧ k_ ≠ gb181 ∧ k_ ≠ gb182) (fun k_ => ((fun k_ => ((P2_0_ k_ ∨ P2_1_ k_) ∨ w.heap.size ≤ k_) ∧ k_ ≠ gb181 ∧ k_ ≠ gb182)) k_ ∧ some k_ ≠ (v184 : Value).ownBlock) rfl rfl ?aO ?aR (fun _ hk => hk) ?aF ?aB ?aS ?aL ?_
   (case aR => exact (by skip; exact Kd.V_F (Kd.V_mono (ok' := (fun k_ => ((fun k_ => ((P2_0_ k_ ∨ P2_1_ k_) ∨ w.heap.size ≤ k_) ∧ k_ ≠ gb181 ∧ k_ ≠ gb182)) k_ ∧ some k_ ≠ (v184 : Value).ownBlock)) (HO2_0.out) (fun k_ hk => ⟨⟨hk.1.1.1, ⟨hk.1.1.2, hk.1.2⟩⟩, hk.2⟩))))
   (case aB => exact (by repeat (first | (with_reducible first | exact HB.out | apply below_alloc | apply pw_below_drewN | apply below_drew1 | refine below_set ?_ GE181.out | refine below_set ?_ GE182.out) | exact HB.out)))
   (case aF => exact (fun k_ hk => ⟨(.inr (Nat.le_trans (below_size (by repeat (first | (with_reducible first | exact HB.out | apply below_alloc | apply pw_below_drewN | apply below_drew1 | refine below_set ?_ GE181.out | refine below_set ?_ GE182.out) | exact HB.out))) hk)), Kd.freshB (g := gb181) (o := .cells #[.int .i64 a0_0, .int .i64 a0_1, .int .i64 a0_2, .int .i64 a0_3, .int .i32 a0_4, .slice A0_5 l0_5.length c0_5, .slice A0_6 l0_6.length c0_6, .slice A0_7 l0_7.length c0_7] 28 (0, 0)) (by (with_reducible repeat (first | refine blk_drewN ?_ _ | refine blk_drew ?_ | refine blk_alloc ?_ _)); exact BK181.out) k_ hk, Kd.freshB (g := gb182) (o := .cells #[.slice A2_0 l2_0.length c2_0, .slice A2_1 l2_1.length c2_1] 49 (0, 0)) (by (with_reducible repeat (first | refine blk_drewN ?_ _ | refine blk_drew ?_ | refine blk_alloc ?_ _)); exact BK182.out) k_ hk⟩))
   (case aO => exact (by (with_reducible repeat (first | apply Kd.N_alloc | apply Kd.N_drewN | apply Kd.N_drew)); exact HO185.out))
   (case aS => exact (below_size (by repeat (first | (with_reducible first | exact HB.out | apply below_alloc | apply pw_below_drewN | apply below_drew1 | refine below_set ?_ GE181.out | refine below_set ?_ GE182.out) | exact HB.out))))
   (case aL => have := LMc4.out; omega)
   intro v187 w13 ho hb hg hat
   rw [← Ny186.out] at ho
   have n0_ := Aside0.mk (Kd.V_afterv (ok := (fun k_ => ((P2_0_ k_ ∨ P2_1_ k_) ∨ w.heap.size ≤ k_) ∧ k_ ≠ gb181 ∧ k_ ≠ gb182)) (by (with_reducible repeat (first | apply Kd.V_alloc | apply Kd.V_drewN | apply Kd.V_drew)); exact Kd.V_mono HO2_0.out (fun _ hk => ⟨⟨hk.1.1.1, ⟨hk.1.1.2, hk.1.2⟩⟩, hk.2⟩)) hg hat)
   have n1_ := Aside0.mk (Kd.V_afterv (ok := (fun k_ => ((P2_0_ k_ ∨ P2_1_ k_) ∨ w.heap.size ≤ k_) ∧ k_ ≠ gb181 ∧ k_ ≠ gb182)) (by (with_reducible repeat (first | apply Kd.V_alloc | apply Kd.V_drewN | apply Kd.V_drew)); exact Kd.V_mono HO2_1.out (fun _ hk => ⟨⟨hk.1.1.1, ⟨hk.1.1.2, hk.1.2⟩⟩, hk.2⟩)) hg hat)
   have n2_ := Aside0.mk (blk_grown (g := gb181) (o := .cells #[.int .i64 a0_0, .int .i64 a0_1, .int .i64 a0_2, .int .i64 a0_3, .int .i32 a0_4, .slice A0_5 l0_5.length c0_5, .slice A0_6 l0_6.length c0_6, .slice A0_7 l0_7.length c0_7] 28 (0, 0)) (by (with_reducible repeat (first | refine blk_drewN ?_ _ | refine blk_drew ?_ | refine blk_alloc ?_ _)); exact BK181.out) hg (Kd.N_ne HO185.out BK181.out (by decide)))
   have n3_ := Aside0.mk (blk_grown (g := gb182) (o := .cells #[.slice A2_0 l2_0.length c2_0, .slice A2_1 l2_1.length c2_1] 49 (0, 0)) (by (with_reducible repeat (first | refine blk_drewN ?_ _ | refine blk_drew ?_ | refine blk_alloc ?_ _)); exact BK182.out) hg (Kd.N_ne HO185.out BK182.out (by decide)))
   have n4_ := Aside0.mk (hb)
   have n5_ := Aside0.mk (ho)
   clear HO2_0
   clear HO2_1
   clear BK181
   clear BK182
   clear HB
   clear HO185
   have HO2_0 := n0_
   have HO2_1 := n1_
   have BK181 := n2_
   have BK182 := n3_
   have HB := n4_
   have HO188 := n5_
   clear n0_ n1_ n2_ n3_ n4_ n5_
   clear ho hb hg hat
   refine hK.out _ _ ⟨(blk_cell BK182.out 0).trans rfl, (blk_cell BK182.out 1).trans rfl⟩ (fun hHeld => ?_)
   clear hK K
   refine norm_ (a' := ?_) ?_ ?_
   rotate_left
   ·show Act.put _ (some 17) _ = _
    simp only [Act.put, List.setIfInBounds_toArray, List.set_cons_zero, List.set_cons_succ, i64_w, i32_w]
    rfl
   refine one_ (i := 6) (N := some 20) #[true, true, true, true, true, true, true, false] rfl rfl (one_of HT_.out (by kernel_rfl)) (by decide) (fun K hK => ?_)
   refine Kd.N_append_rows_step (Kd.slice 43 (Kd.slice 47 k47)) (w0 := w) w.heap.size (by rfl) (.tmp 17) (.tmp 19) 29 36 (.slice none 0 0) 24 rfl Try.underlying29 info36 rfl (by decide) (by omega) v187 y186 l2_1 _ _ _ (fun k_ => ((P2_0_ k_ ∨ P2_1_ k_) ∨ w.heap.size ≤ k_) ∧ k_ ≠ gb181 ∧ k_ ≠ gb182) (fun k_ => ((fun k_ => ((P2_0_ k_ ∨ P2_1_ k_) ∨ w.heap.size ≤ k_) ∧ k_ ≠ gb181 ∧ k_ ≠ gb182)) k_ ∧ some k_ ≠ (v187 : Value).ownBlock) rfl rfl ?aO ?aR (fun _ hk => hk) ?aF ?aB ?aS ?aL ?_
   (case aR => exact (by skip; exact Kd.V_F (Kd.V_mono (ok' := (fun k_ => ((fun k_ => ((P2_0_ k_ ∨ P2_1_ k_) ∨ w.heap.size ≤ k_) ∧ k_ ≠ gb181 ∧ k_ ≠ gb182)) k_ ∧ some k_ ≠ (v187 : Value).ownBlock)) (HO2_1.out) (fun k_ hk => ⟨⟨hk.1.1, ⟨hk.1.2.1, hk.1.2.2⟩⟩, hk.2⟩))))
   (case aB => exact (by repeat (first | (with_reducible first | exact HB.out | apply below_alloc | apply pw_below_drewN | apply below_drew1 | refine below_set ?_ GE181.out | refine below_set ?_ GE182.out) | exact HB.out)))
   (case aF => exact (fun k_ hk => ⟨(.inr (Nat.le_trans (below_size (by repeat (first | (with_reducible first | exact HB.out | apply below_alloc | apply pw_below_drewN | apply below_drew1 | refine below_set ?_ GE181.out | refine below_set ?_ GE182.out) | exact HB.out))) hk)), Kd.freshB (g := gb181) (o := .cells #[.int .i64 a0_0, .int .i64 a0_1, .int .i64 a0_2, .int .i64 a0_3, .int .i32 a0_4, .slice A0_5 l0_5.length c0_5, .slice A0_6 l0_6.length c0_6, .slice A0_7 l0_7.length c0_7] 28 (0, 0)) (by (with_reducible repeat (first | refine blk_drewN ?_ _ | refine blk_drew ?_ | refine blk_alloc ?_ _)); exact BK181.out) k_ hk, Kd.freshB (g := gb182) (o := .cells #[.slice A2_0 l2_0.length c2_0, .slice A2_1 l2_1.length c2_1] 49 (0, 0)) (by (with_reducible repeat (first | refine blk_drewN ?_ _ | refine blk_drew ?_ | refine blk_alloc ?_ _)); exact BK182.out) k_ hk⟩))
   (case aO => exact (by (with_reducible repeat (first | apply Kd.N_alloc | apply Kd.N_drewN | apply Kd.N_drew)); exact HO188.out))
   (case aS => exact (below_size (by repeat (first | (with_reducible first | exact HB.out | apply below_alloc | apply pw_below_drewN | apply below_drew1 | refine below_set ?_ GE181.out | refine below_set ?_ GE182.out) | exact HB.out))))
   (case aL => have := LMc5.out; omega)
   intro v190 w14 ho hb hg hat
   rw [← Ny189.out] at ho
   have n0_ := Aside0.mk (Kd.V_afterv (ok := (fun k_ => ((P2_0_ k_ ∨ P2_1_ k_) ∨ w.heap.size ≤ k_) ∧ k_ ≠ gb181 ∧ k_ ≠ gb182)) (by (with_reducible repeat (first | apply Kd.V_alloc | apply Kd.V_drewN | apply Kd.V_drew)); exact HO2_0.out) hg hat)
   have n1_ := Aside0.mk (Kd.V_afterv (ok := (fun k_ => ((P2_0_ k_ ∨ P2_1_ k_) ∨ w.heap.size ≤ k_) ∧ k_ ≠ gb181 ∧ k_ ≠ gb182)) (by (with_reducible repeat (first | apply Kd.V_alloc | apply Kd.V_drewN | apply Kd.V_drew)); exact HO2_1.out) hg hat)
   have n2_ := Aside0.mk (blk_grown (g := gb181) (o := .cells #[.int .i64 a0_0, .int .i64 a0_1, .int .i64 a0_2, .int .i64 a0_3, .int .i32 a0_4, .slice A0_5 l0_5.length c0_5, .slice A0_6 l0_6.length c0_6, .slice A0_7 l0_7.length c0_7] 28 (0, 0)) (by (with_reducible repeat (first | refine blk_drewN ?_ _ | refine blk_drew ?_ | refine blk_alloc ?_ _)); exact BK181.out) hg (Kd.N_ne HO188.out BK181.out (by decide)))
   have n3_ := Aside0.mk (blk_grown (g := gb182) (o := .cells #[.slice A2_0 l2_0.length c2_0, .slice A2_1 l2_1.length c2_1] 49 (0, 0)) (by (with_reducible repeat (first | refine blk_drewN ?_ _ | refine blk_drew ?_ | refine blk_alloc ?_ _)); exact BK182.out) hg (Kd.N_ne HO188.out BK182.out (by decide)))
   have n4_ := Aside0.mk (hb)
   have n5_ := Aside0.mk (ho)
   clear HO2_0
   clear HO2_1
   clear BK181
   clear BK182
   clear HB
   clear HO188
   have HO2_0 := n0_
   have HO2_1 := n1_
   have BK181 := n2_
   have BK182 := n3_
   have HB := n4_
   have HO191 := n5_
   clear n0_ n1_ n2_ n3_ n4_ n5_
   clear ho hb hg hat
   refine hK.out _ _ ⟨(blk_cell BK182.out 0).trans rfl, (blk_cell BK182.out 1).trans rfl⟩ (fun hHeld => ?_)
   clear hK K
   refine norm_ (a' := ?_) ?_ ?_
   rotate_left
   ·show Act.put _ (some 20) _ = _
    simp only [Act.put, List.setIfInBounds_toArray, List.set_cons_zero, List.set_cons_succ, i64_w, i32_w]
    rfl
   refine pure_ (i := 7) (N := some 7) (v := ?_) (a' := ?_) #[true, true, true, true, true, true, true, true] rfl rfl (any_of HT_.out (by kernel_rfl)) (fun _ _ _ h => h) (Or.inl ⟨by rfl, ?_⟩) ?_ ?_
   rotate_left
   ·intro w'
    go_simp
    with_reducible rfl
   rotate_left
   ·simp only [Act.put, List.setIfInBounds_toArray, List.set_cons_zero, List.set_cons_succ, i64_w, i32_w]
    rfl
   refine done_ (done_of HT_.out (by kernel_rfl)) ?_
   have hnb15 := NB181_182.out
   have hnc15 := NB182_181.out
   have hcz16_0 : w14.cell? ⟨gb181, 0, none⟩ = some (.int .i64 a0_0) := (blk_cell BK181.out 0).trans rfl
   have hcz16_1 : w14.cell? ⟨gb181, 1, none⟩ = some (.int .i64 a0_1) := (blk_cell BK181.out 1).trans rfl
   have hcz16_2 : w14.cell? ⟨gb181, 2, none⟩ = some (.int .i64 a0_2) := (blk_cell BK181.out 2).trans rfl
   have hcz16_3 : w14.cell? ⟨gb181, 3, none⟩ = some (.int .i64 a0_3) := (blk_cell BK181.out 3).trans rfl
   have hcz16_4 : w14.cell? ⟨gb181, 4, none⟩ = some (.int .i32 a0_4) := (blk_cell BK181.out 4).trans rfl
   have hcz16_5 : w14.cell? ⟨gb181, 5, none⟩ = some (.slice A0_5 l0_5.length c0_5) := (blk_cell BK181.out 5).trans rfl
   have hcz16_6 : w14.cell? ⟨gb181, 6, none⟩ = some (.slice A0_6 l0_6.length c0_6) := (blk_cell BK181.out 6).trans rfl
   have hcz16_7 : w14.cell? ⟨gb181, 7, none⟩ = some (.slice A0_7 l0_7.length c0_7) := (blk_cell BK181.out 7).trans rfl
   have hfz16_0 := blk_frozen BK181.out 0
   have hfz16_1 := blk_frozen BK181.out 1
   have hfz16_2 := blk_frozen BK181.out 2
   have hfz16_3 := blk_frozen BK181.out 3
   have hfz16_4 := blk_frozen BK181.out 4
   have hfz16_5 := blk_frozen BK181.out 5
   have hfz16_6 := blk_frozen BK181.out 6
   have hfz16_7 := blk_frozen BK181.out 7
   obtain ⟨Ao17, co17, eo17⟩ := Kd.N_slice HO191.out
   subst eo17
   go_upto_region 3 with (first | ((with_reducible refine gate_callee (f := 7) rfl ?_); refine goesL_ (some 25) rfl rfl Try.func7 (by kernel_rfl) rfl #[.agg #[.int .i64 a0_0, .int .i64 a0_1, .int .i64 a0_2, .int .i64 a0_3, .int .i32 a0_4, .slice A0_5 l0_5.length c0_5, .slice A0_6 l0_6.length c0_6, .slice A0_7 l0_7.length c0_7], .int .i64 a1, .slice Ao17 y189.length co17] rfl (by (try simp only [List.map_toArray, List.map_cons, List.map_nil]); first | done | rfl | (simp only [List.length_drop, List.length_take]; rfl) | (simp only [*]; first | done | rfl)) ?_; (with_reducible refine (item_Verse.calls k a0_0 a0_1 a0_2 a0_3 a0_4 _ _ l0_5 _ _ l0_6 _ _ l0_7 a1 _ _ y189 t192 t195 t196 _ ?side1 ?side2 ?side3 ?side4 ?side5 ?side6 ?side7 ?side8 A6.out).mono ?_); (case side1 => repeat (first | exact (Kd.C_below HR0_5.out HB.out) | (with_reducible refine Kd.C_alloc ?_ _) | (with_reducible refine Kd.C_drewN ?_ _) | (with_reducible refine Kd.C_drew ?_))); (case side2 => exact HC0_5.out); (case side3 => repeat (first | exact (Kd.C_below HR0_6.out HB.out) | (with_reducible refine Kd.C_alloc ?_ _) | (with_reducible refine Kd.C_drewN ?_ _) | (with_reducible refine Kd.C_drew ?_))); (case side4 => exact HC0_6.out); (case side5 => repeat (first | exact (Kd.C_below HR0_7.out HB.out) | (with_reducible refine Kd.C_alloc ?_ _) | (with_reducible refine Kd.C_drewN ?_ _) | (with_reducible refine Kd.C_drew ?_))); (case side6 => exact HC0_7.out); (case side7 => repeat (first | exact (Kd.N_reads' HO191.out).2.2 | (with_reducible refine Kd.C_alloc ?_ _) | (with_reducible refine Kd.C_drewN ?_ _) | (with_reducible refine Kd.C_drew ?_))); (case side8 => exact (Kd.N_reads' HO191.out).2.1); rintro e w18 ⟨v193, rfl, ho0, hb⟩; refine ⟨_, rfl, ?_⟩; have n0_ := Aside0.mk (Kd.V_elder' (by (with_reducible repeat (first | apply Kd.V_alloc | apply Kd.V_drewN | apply Kd.V_drew)); exact HO2_0.out) (Kd.R_base ho0) hb); have n1_ := Aside0.mk (Kd.V_elder' (by (with_reducible repeat (first | apply Kd.V_alloc | apply Kd.V_drewN | apply Kd.V_drew)); exact HO2_1.out) (Kd.R_base ho0) hb); have n2_ := Aside0.mk (Kd.N_elder' (by (with_reducible repeat (first | apply Kd.N_alloc | apply Kd.N_drewN | apply Kd.N_drew)); exact HO191.out) (Kd.R_base ho0) hb); have n3_ := Aside0.mk (Kd.R_lower (Kd.R_newM (M := fun k_ => (w.heap.size ≤ k_)) ho0 (below_size (by repeat (first | (with_reducible first | exact HB.out | apply below_alloc | apply pw_below_drewN | apply below_drew1 | refine below_set ?_ GE181.out | refine below_set ?_ GE182.out) | exact HB.out))) (fun k_ h_ => h_)) (below_size (by repeat (first | (with_reducible first | exact HB.out | apply below_alloc | apply pw_below_drewN | apply below_drew1 | refine below_set ?_ GE181.out | refine below_set ?_ GE182.out) | exact HB.out)))); have n4_ := Aside0.mk (blk_below (g := gb181) (o := .cells #[.int .i64 a0_0, .int .i64 a0_1, .int .i64 a0_2, .int .i64 a0_3, .int .i32 a0_4, .slice A0_5 l0_5.length c0_5, .slice A0_6 l0_6.length c0_6, .slice A0_7 l0_7.length c0_7] 28 (0, 0)) (by (with_reducible repeat (first | refine blk_drewN ?_ _ | refine blk_drew ?_ | refine blk_alloc ?_ _)); exact BK181.out) hb); have n5_ := Aside0.mk (blk_below (g := gb182) (o := .cells #[.slice A2_0 l2_0.length c2_0, .slice A2_1 l2_1.length c2_1] 49 (0, 0)) (by (with_reducible repeat (first | refine blk_drewN ?_ _ | refine blk_drew ?_ | refine blk_alloc ?_ _)); exact BK182.out) hb); have n6_ := Aside0.mk (below_step (by repeat (first | (with_reducible first | exact HB.out | apply below_alloc | apply pw_below_drewN | apply below_drew1 | refine below_set ?_ GE181.out | refine below_set ?_ GE182.out) | exact HB.out)) hb); clear HO2_0; clear HO2_1; clear HO191; clear BK181; clear BK182; clear HB; have HO2_0 := n0_; have HO2_1 := n1_; have HO191 := n2_; have HO194 := n3_; have BK181 := n4_; have BK182 := n5_; have HB := n6_; clear n0_ n1_ n2_ n3_ n4_ n5_ n6_; (try clear hb); (try clear hb2); (try clear hk); (try clear hi); (try clear ho0)) | ((with_reducible refine gate_dst (N := 9) rfl ?_); (try (refine gate_guard (by rfl) ?_; dsimp only)); refine box_event ?hg (N := 9) ?hd (cs := #[.int .i64 0, .int .i64 0]) (t := 33) ?hr ?_; (case hd => rfl); (case hg => rfl); (case hr => first | (go_simp; done) | (go_simp; rfl)); intro gb197 hg w19 hbox hb; have n0_ := Aside0.mk (Kd.V_below (Kd.V_elderB (by (with_reducible repeat (first | apply Kd.V_alloc | apply Kd.V_drewN | apply Kd.V_drew)); exact HO2_0.out) gb197 (Nat.le_of_eq hg.symm)) hb); have n1_ := Aside0.mk (Kd.V_below (Kd.V_elderB (by (with_reducible repeat (first | apply Kd.V_alloc | apply Kd.V_drewN | apply Kd.V_drew)); exact HO2_1.out) gb197 (Nat.le_of_eq hg.symm)) hb); have n2_ := Aside0.mk (Kd.N_below (Kd.N_elderB (by (with_reducible repeat (first | apply Kd.N_alloc | apply Kd.N_drewN | apply Kd.N_drew)); exact HO191.out) gb197 (Nat.le_of_eq hg.symm)) hb); have n3_ := Aside0.mk (Kd.R_below (by (with_reducible repeat (first | apply Kd.R_alloc | apply Kd.R_drewN | apply Kd.R_drew)); exact HO194.out) hb); have n4_ := Aside0.mk (blk_below (g := gb181) (o := .cells #[.int .i64 a0_0, .int .i64 a0_1, .int .i64 a0_2, .int .i64 a0_3, .int .i32 a0_4, .slice A0_5 l0_5.length c0_5, .slice A0_6 l0_6.length c0_6, .slice A0_7 l0_7.length c0_7] 28 (0, 0)) (by (with_reducible repeat (first | refine blk_drewN ?_ _ | refine blk_drew ?_ | refine blk_alloc ?_ _)); exact BK181.out) hb); have n5_ := Aside0.mk (blk_below (g := gb182) (o := .cells #[.slice A2_0 l2_0.length c2_0, .slice A2_1 l2_1.length c2_1] 49 (0, 0)) (by (with_reducible repeat (first | refine blk_drewN ?_ _ | refine blk_drew ?_ | refine blk_alloc ?_ _)); exact BK182.out) hb); have n6_ := Aside0.mk (below_step (by repeat (first | (with_reducible first | exact HB.out | apply below_alloc | apply pw_below_drewN | apply below_drew1 | refine below_set ?_ GE181.out | refine below_set ?_ GE182.out) | exact HB.out)) hb); have n7_ := Aside0.mk (hbox); have n8_ := Aside0.mk ((by rw [hg]; exact (below_size (by repeat (first | (with_reducible first | exact HB.out | apply below_alloc | apply pw_below_drewN | apply below_drew1 | refine below_set ?_ GE181.out | refine below_set ?_ GE182.out) | exact HB.out))) : w.heap.size ≤ gb197)); have n9_ := Aside0.mk ((by rw [hg]; exact (below_size (by repeat (first | (with_reducible first | exact HB.out | apply below_alloc | apply pw_below_drewN | apply below_drew1 | refine below_set ?_ GE181.out | refine below_set ?_ GE182.out) | exact HB.out))) : w.heap.size ≤ gb197)); have n10_ := Aside0.mk ((by rw [hg]; exact Nat.ne_of_lt (blk_lt (g := gb181) (o := .cells #[.int .i64 a0_0, .int .i64 a0_1, .int .i64 a0_2, .int .i64 a0_3, .int .i32 a0_4, .slice A0_5 l0_5.length c0_5, .slice A0_6 l0_6.length c0_6, .slice A0_7 l0_7.length c0_7] 28 (0, 0)) (by (with_reducible repeat (first | refine blk_drewN ?_ _ | refine blk_drew ?_ | refine blk_alloc ?_ _)); exact BK181.out)) : gb181 ≠ gb197)); have n11_ := Aside0.mk ((by rw [hg]; exact Nat.ne_of_gt (blk_lt (g := gb181) (o := .cells #[.int .i64 a0_0, .int .i64 a0_1, .int .i64 a0_2, .int .i64 a0_3, .int .i32 a0_4, .slice A0_5 l0_5.length c0_5, .slice A0_6 l0_6.length c0_6, .slice A0_7 l0_7.length c0_7] 28 (0, 0)) (by (with_reducible repeat (first | refine blk_drewN ?_ _ | refine blk_drew ?_ | refine blk_alloc ?_ _)); exact BK181.out)) : gb197 ≠ gb181)); have n12_ := Aside0.mk ((by rw [hg]; exact Nat.ne_of_lt (blk_lt (g := gb182) (o := .cells #[.slice A2_0 l2_0.length c2_0, .slice A2_1 l2_1.length c2_1] 49 (0, 0)) (by (with_reducible repeat (first | refine blk_drewN ?_ _ | refine blk_drew ?_ | refine blk_alloc ?_ _)); exact BK182.out)) : gb182 ≠ gb197)); have n13_ := Aside0.mk ((by rw [hg]; exact Nat.ne_of_gt (blk_lt (g := gb182) (o := .cells #[.slice A2_0 l2_0.length c2_0, .slice A2_1 l2_1.length c2_1] 49 (0, 0)) (by (with_reducible repeat (first | refine blk_drewN ?_ _ | refine blk_drew ?_ | refine blk_alloc ?_ _)); exact BK182.out)) : gb197 ≠ gb182)); clear HO2_0; clear HO2_1; clear HO191; clear HO194; clear BK181; clear BK182; clear HB; have HO2_0 := n0_; have HO2_1 := n1_; have HO191 := n2_; have HO194 := n3_; have BK181 := n4_; have BK182 := n5_; have HB := n6_; have BK197 := n7_; have GW197 := n8_; have GE197 := n9_; have NB181_197 := n10_; have NB197_181 := n11_; have NB182_197 := n12_; have NB197_182 := n13_; clear n0_ n1_ n2_ n3_ n4_ n5_ n6_ n7_ n8_ n9_ n10_ n11_ n12_ n13_; clear hb hbox hg; have hnb20 := NB197_181.out; have hnc20 := NB181_197.out; have hnb21 := NB197_182.out; have hnc21 := NB182_197.out; have hcz22_0 : w19.cell? ⟨gb197, 0, none⟩ = some (.int .i64 0) := (blk_cell BK197.out 0).trans rfl; have hcz22_1 : w19.cell? ⟨gb197, 1, none⟩ = some (.int .i64 0) := (blk_cell BK197.out 1).trans rfl; have hfz22_0 := blk_frozen BK197.out 0; have hfz22_1 := blk_frozen BK197.out 1))
   (try simp only [Act.put, List.setIfInBounds_toArray, List.set_cons_zero, List.set_cons_succ])
   go_cut [34] (fun v34 wc => ∃ (kq : Nat) (x34_6 : Bool), v34 = .bool x34_6 ∧ Aside0 (variorumlaw09_ItemParts.j0 kq a1 t192 x34_6 a0_0 a0_1 a0_2 a0_3 a0_4 l0_5 l0_6 l0_7 l2_0 l2_1 = some r) ∧ Aside0 (kq ≤ k) ∧ Aside0 (Kd.R k45 45 wc w.heap.size (fun k_ => (w.heap.size ≤ k_)) v193 t192) ∧ Aside0 (Kd.V (Kd.slice 43 (Kd.slice 47 k47)) 36 wc w.heap.size (fun k_ => ((P2_0_ k_ ∨ P2_1_ k_) ∨ w.heap.size ≤ k_) ∧ some k_ ≠ (v193 : Value).ownBlock ∧ k_ ≠ gb181 ∧ k_ ≠ gb182 ∧ k_ ≠ gb197) (.slice A2_0 l2_0.length c2_0) l2_0) ∧ Aside0 (Kd.V (Kd.slice 43 (Kd.slice 47 k47)) 36 wc w.heap.size (fun k_ => ((P2_0_ k_ ∨ P2_1_ k_) ∨ w.heap.size ≤ k_) ∧ some k_ ≠ (v193 : Value).ownBlock ∧ k_ ≠ gb181 ∧ k_ ≠ gb182 ∧ k_ ≠ gb197) (.slice A2_1 l2_1.length c2_1) l2_1) ∧ Aside0 (wc.heap[gb181]? = some (.cells #[.int .i64 a0_0, .int .i64 a0_1, .int .i64 a0_2, .int .i64 a0_3, .int .i32 a0_4, (.slice A0_5 l0_5.length c0_5), (.slice A0_6 l0_6.length c0_6), (.slice A0_7 l0_7.length c0_7)] 28 (0, 0))) ∧ Aside0 (wc.heap[gb182]? = some (.cells #[(.slice A2_0 l2_0.length c2_0), (.slice A2_1 l2_1.length c2_1)] 49 (0, 0))) ∧ Aside0 (wc.heap[gb197]? = some (.cells #[.int .i64 t195, .int .i64 t196] 33 (0, 0))) ∧ Aside0 (Below w.heap.size w wc))
   case first =>
    have H := HC7.out
    clear HC7
    replace H := Option.bind_eq_some_iff.mp H
    obtain ⟨t198, A230, H⟩ := H
    replace H : (if t198 = true then (variorumlaw09_ItemParts.j0 k a1 t192 (t195 != 0) a0_0 a0_1 a0_2 a0_3 a0_4 l0_5 l0_6 l0_7 l2_0 l2_1) else (variorumlaw09_ItemParts.j0 k a1 t192 true a0_0 a0_1 a0_2 a0_3 a0_4 l0_5 l0_6 l0_7 l2_0 l2_1)) = some r := H
    have A23 := Aside0.mk A230
    clear A230
    by_cases c24 : t198 = true
    ·subst c24
     have H1 : (variorumlaw09_ItemParts.j0 k a1 t192 (t195 != 0) a0_0 a0_1 a0_2 a0_3 a0_4 l0_5 l0_6 l0_7 l2_0 l2_1) = some r := by rw [if_pos rfl] at H; exact H
     clear H
     have H := H1
     clear H1
     have H' := Aside0.mk H
     clear H
     go_wp2_with (first | ((with_reducible refine gate_callee (f := 10) rfl ?_); refine goesL_ (some 28) rfl rfl Try.func10 (by kernel_rfl) rfl #[] rfl (by (try simp only [List.map_toArray, List.map_cons, List.map_nil]); first | done | rfl | (simp only [List.length_drop, List.length_take]; rfl) | (simp only [*]; first | done | rfl)) ?_; (with_reducible refine (variorumlaw09_fixed.calls k  true _ A23.out).mono ?_); rintro e w25 ⟨rfl, hb⟩; refine ⟨_, rfl, ?_⟩; have n0_ := Aside0.mk (Kd.V_below (by (with_reducible repeat (first | apply Kd.V_alloc | apply Kd.V_drewN | apply Kd.V_drew)); exact (Kd.V_mono (Kd.V_far (p := ⟨gb197, 1, none⟩) (Kd.V_far (p := ⟨gb197, 0, none⟩) (Kd.V_mono HO2_0.out (fun k_ hk => (⟨hk, hk.2⟩ : _ ∧ k_ ≠ gb197))) (fun _ hk => hk.2) (.int .i64 t195)) (fun _ hk => hk.2) (.int .i64 t196)) (fun _ h_ => h_.1))) hb); have n1_ := Aside0.mk (Kd.V_below (by (with_reducible repeat (first | apply Kd.V_alloc | apply Kd.V_drewN | apply Kd.V_drew)); exact (Kd.V_mono (Kd.V_far (p := ⟨gb197, 1, none⟩) (Kd.V_far (p := ⟨gb197, 0, none⟩) (Kd.V_mono HO2_1.out (fun k_ hk => (⟨hk, hk.2⟩ : _ ∧ k_ ≠ gb197))) (fun _ hk => hk.2) (.int .i64 t195)) (fun _ hk => hk.2) (.int .i64 t196)) (fun _ h_ => h_.1))) hb); have n2_ := Aside0.mk (Kd.N_below (by (with_reducible repeat (first | apply Kd.N_alloc | apply Kd.N_drewN | apply Kd.N_drew)); exact (Kd.N_mono (Kd.N_far (p := ⟨gb197, 1, none⟩) (Kd.N_far (p := ⟨gb197, 0, none⟩) (Kd.N_mono HO191.out (fun k_ hk => (⟨hk, hk.2⟩ : _ ∧ k_ ≠ gb197))) (fun _ hk => hk.2) (.int .i64 t195)) (fun _ hk => hk.2) (.int .i64 t196)) (fun _ h_ => h_.1))) hb); have n3_ := Aside0.mk (Kd.R_below (by (with_reducible repeat (first | apply Kd.R_alloc | apply Kd.R_drewN | apply Kd.R_drew)); exact (Kd.R_mono (Kd.R_far (p := ⟨gb197, 1, none⟩) (Kd.R_far (p := ⟨gb197, 0, none⟩) (Kd.R_types HO194.out BK197.out (by decide)) (fun _ hk => hk.2) (.int .i64 t195)) (fun _ hk => hk.2) (.int .i64 t196)) (fun _ h_ => h_.1))) hb); have n4_ := Aside0.mk (blk_below (g := gb181) (o := .cells #[.int .i64 a0_0, .int .i64 a0_1, .int .i64 a0_2, .int .i64 a0_3, .int .i32 a0_4, .slice A0_5 l0_5.length c0_5, .slice A0_6 l0_6.length c0_6, .slice A0_7 l0_7.length c0_7] 28 (0, 0)) (by (with_reducible repeat (first | refine blk_drewN ?_ _ | refine blk_drew ?_ | refine blk_alloc ?_ _)); refine blk_far ?_ NB181_197.out _; (with_reducible repeat (first | refine blk_drewN ?_ _ | refine blk_drew ?_ | refine blk_alloc ?_ _)); refine blk_far ?_ NB181_197.out _; (with_reducible repeat (first | refine blk_drewN ?_ _ | refine blk_drew ?_ | refine blk_alloc ?_ _)); exact BK181.out) hb); have n5_ := Aside0.mk (blk_below (g := gb182) (o := .cells #[.slice A2_0 l2_0.length c2_0, .slice A2_1 l2_1.length c2_1] 49 (0, 0)) (by (with_reducible repeat (first | refine blk_drewN ?_ _ | refine blk_drew ?_ | refine blk_alloc ?_ _)); refine blk_far ?_ NB182_197.out _; (with_reducible repeat (first | refine blk_drewN ?_ _ | refine blk_drew ?_ | refine blk_alloc ?_ _)); refine blk_far ?_ NB182_197.out _; (with_reducible repeat (first | refine blk_drewN ?_ _ | refine blk_drew ?_ | refine blk_alloc ?_ _)); exact BK182.out) hb); have n6_ := Aside0.mk (blk_below (g := gb197) (o := .cells #[.int .i64 t195, .int .i64 t196] 33 (0, 0)) (by (with_reducible repeat (first | refine blk_drewN ?_ _ | refine blk_drew ?_ | refine blk_alloc ?_ _)); refine blk_put (cs := #[.int .i64 t195, .int .i64 0]) ?_ 1 _ rfl; (with_reducible repeat (first | refine blk_drewN ?_ _ | refine blk_drew ?_ | refine blk_alloc ?_ _)); refine blk_put (cs := #[.int .i64 0, .int .i64 0]) ?_ 0 _ rfl; (with_reducible repeat (first | refine blk_drewN ?_ _ | refine blk_drew ?_ | refine blk_alloc ?_ _)); exact BK197.out) hb); have n7_ := Aside0.mk (below_step (by repeat (first | (with_reducible first | exact HB.out | apply below_alloc | apply pw_below_drewN | apply below_drew1 | refine below_set ?_ GE181.out | refine below_set ?_ GE182.out | refine below_set ?_ GE197.out) | exact HB.out)) hb); clear HO2_0; clear HO2_1; clear HO191; clear HO194; clear BK181; clear BK182; clear BK197; clear HB; have HO2_0 := n0_; have HO2_1 := n1_; have HO191 := n2_; have HO194 := n3_; have BK181 := n4_; have BK182 := n5_; have BK197 := n6_; have HB := n7_; clear n0_ n1_ n2_ n3_ n4_ n5_ n6_ n7_; (try clear hb); (try clear hb2); (try clear hk); (try clear hi); have hnb26 := NB197_181.out; have hnc26 := NB181_197.out; have hnb27 := NB197_182.out; have hnc27 := NB182_197.out; have hcz28_0 : w25.cell? ⟨gb197, 0, none⟩ = some (.int .i64 t195) := (blk_cell BK197.out 0).trans rfl; have hcz28_1 : w25.cell? ⟨gb197, 1, none⟩ = some (.int .i64 t196) := (blk_cell BK197.out 1).trans rfl; have hfz28_0 := blk_frozen BK197.out 0; have hfz28_1 := blk_frozen BK197.out 1))
     go_meet
     case rel => exact ⟨_, ((t195 != 0)), (by first | rfl | (simp; done) | (simp [*]; done)), H', ⟨by first | omega | exact Nat.le_refl _⟩, ⟨by (with_reducible repeat (first | apply Kd.R_alloc | apply Kd.R_drewN | apply Kd.R_drew)); exact Kd.R_mono HO194.out (fun _ hk => hk.1)⟩, ⟨by (with_reducible repeat (first | apply Kd.V_alloc | apply Kd.V_drewN | apply Kd.V_drew)); exact Kd.V_mono HO2_0.out (fun _ hk => ⟨hk.1.1.1.1, ⟨hk.1.2, ⟨hk.1.1.1.2.1, ⟨hk.1.1.1.2.2, hk.2⟩⟩⟩⟩)⟩, ⟨by (with_reducible repeat (first | apply Kd.V_alloc | apply Kd.V_drewN | apply Kd.V_drew)); exact Kd.V_mono HO2_1.out (fun _ hk => ⟨hk.1.1.1.1, ⟨hk.1.2, ⟨hk.1.1.1.2.1, ⟨hk.1.1.1.2.2, hk.2⟩⟩⟩⟩)⟩, ⟨by (with_reducible repeat (first | refine blk_drewN ?_ _ | refine blk_drew ?_ | refine blk_alloc ?_ _)); exact BK181.out⟩, ⟨by (with_reducible repeat (first | refine blk_drewN ?_ _ | refine blk_drew ?_ | refine blk_alloc ?_ _)); exact BK182.out⟩, ⟨by (with_reducible repeat (first | refine blk_drewN ?_ _ | refine blk_drew ?_ | refine blk_alloc ?_ _)); exact BK197.out⟩, ⟨by repeat (first | (with_reducible first | exact HB.out | apply below_alloc | apply pw_below_drewN | apply below_drew1 | refine below_set ?_ GE181.out | refine below_set ?_ GE182.out | refine below_set ?_ GE197.out) | exact HB.out)⟩⟩
    ·replace c24 := Bool.eq_false_iff.mpr c24
     subst c24
     have H1 : (variorumlaw09_ItemParts.j0 k a1 t192 true a0_0 a0_1 a0_2 a0_3 a0_4 l0_5 l0_6 l0_7 l2_0 l2_1) = some r := by rw [if_neg (show ¬ (false = true) by decide)] at H; exact H
     clear H
     have H := H1
     clear H1
     have H' := Aside0.mk H
     clear H
     go_wp2_with (first | ((with_reducible refine gate_callee (f := 10) rfl ?_); refine goesL_ (some 28) rfl rfl Try.func10 (by kernel_rfl) rfl #[] rfl (by (try simp only [List.map_toArray, List.map_cons, List.map_nil]); first | done | rfl | (simp only [List.length_drop, List.length_take]; rfl) | (simp only [*]; first | done | rfl)) ?_; (with_reducible refine (variorumlaw09_fixed.calls k  false _ A23.out).mono ?_); rintro e w29 ⟨rfl, hb⟩; refine ⟨_, rfl, ?_⟩; have n0_ := Aside0.mk (Kd.V_below (by (with_reducible repeat (first | apply Kd.V_alloc | apply Kd.V_drewN | apply Kd.V_drew)); exact (Kd.V_mono (Kd.V_far (p := ⟨gb197, 1, none⟩) (Kd.V_far (p := ⟨gb197, 0, none⟩) (Kd.V_mono HO2_0.out (fun k_ hk => (⟨hk, hk.2⟩ : _ ∧ k_ ≠ gb197))) (fun _ hk => hk.2) (.int .i64 t195)) (fun _ hk => hk.2) (.int .i64 t196)) (fun _ h_ => h_.1))) hb); have n1_ := Aside0.mk (Kd.V_below (by (with_reducible repeat (first | apply Kd.V_alloc | apply Kd.V_drewN | apply Kd.V_drew)); exact (Kd.V_mono (Kd.V_far (p := ⟨gb197, 1, none⟩) (Kd.V_far (p := ⟨gb197, 0, none⟩) (Kd.V_mono HO2_1.out (fun k_ hk => (⟨hk, hk.2⟩ : _ ∧ k_ ≠ gb197))) (fun _ hk => hk.2) (.int .i64 t195)) (fun _ hk => hk.2) (.int .i64 t196)) (fun _ h_ => h_.1))) hb); have n2_ := Aside0.mk (Kd.N_below (by (with_reducible repeat (first | apply Kd.N_alloc | apply Kd.N_drewN | apply Kd.N_drew)); exact (Kd.N_mono (Kd.N_far (p := ⟨gb197, 1, none⟩) (Kd.N_far (p := ⟨gb197, 0, none⟩) (Kd.N_mono HO191.out (fun k_ hk => (⟨hk, hk.2⟩ : _ ∧ k_ ≠ gb197))) (fun _ hk => hk.2) (.int .i64 t195)) (fun _ hk => hk.2) (.int .i64 t196)) (fun _ h_ => h_.1))) hb); have n3_ := Aside0.mk (Kd.R_below (by (with_reducible repeat (first | apply Kd.R_alloc | apply Kd.R_drewN | apply Kd.R_drew)); exact (Kd.R_mono (Kd.R_far (p := ⟨gb197, 1, none⟩) (Kd.R_far (p := ⟨gb197, 0, none⟩) (Kd.R_types HO194.out BK197.out (by decide)) (fun _ hk => hk.2) (.int .i64 t195)) (fun _ hk => hk.2) (.int .i64 t196)) (fun _ h_ => h_.1))) hb); have n4_ := Aside0.mk (blk_below (g := gb181) (o := .cells #[.int .i64 a0_0, .int .i64 a0_1, .int .i64 a0_2, .int .i64 a0_3, .int .i32 a0_4, .slice A0_5 l0_5.length c0_5, .slice A0_6 l0_6.length c0_6, .slice A0_7 l0_7.length c0_7] 28 (0, 0)) (by (with_reducible repeat (first | refine blk_drewN ?_ _ | refine blk_drew ?_ | refine blk_alloc ?_ _)); refine blk_far ?_ NB181_197.out _; (with_reducible repeat (first | refine blk_drewN ?_ _ | refine blk_drew ?_ | refine blk_alloc ?_ _)); refine blk_far ?_ NB181_197.out _; (with_reducible repeat (first | refine blk_drewN ?_ _ | refine blk_drew ?_ | refine blk_alloc ?_ _)); exact BK181.out) hb); have n5_ := Aside0.mk (blk_below (g := gb182) (o := .cells #[.slice A2_0 l2_0.length c2_0, .slice A2_1 l2_1.length c2_1] 49 (0, 0)) (by (with_reducible repeat (first | refine blk_drewN ?_ _ | refine blk_drew ?_ | refine blk_alloc ?_ _)); refine blk_far ?_ NB182_197.out _; (with_reducible repeat (first | refine blk_drewN ?_ _ | refine blk_drew ?_ | refine blk_alloc ?_ _)); refine blk_far ?_ NB182_197.out _; (with_reducible repeat (first | refine blk_drewN ?_ _ | refine blk_drew ?_ | refine blk_alloc ?_ _)); exact BK182.out) hb); have n6_ := Aside0.mk (blk_below (g := gb197) (o := .cells #[.int .i64 t195, .int .i64 t196] 33 (0, 0)) (by (with_reducible repeat (first | refine blk_drewN ?_ _ | refine blk_drew ?_ | refine blk_alloc ?_ _)); refine blk_put (cs := #[.int .i64 t195, .int .i64 0]) ?_ 1 _ rfl; (with_reducible repeat (first | refine blk_drewN ?_ _ | refine blk_drew ?_ | refine blk_alloc ?_ _)); refine blk_put (cs := #[.int .i64 0, .int .i64 0]) ?_ 0 _ rfl; (with_reducible repeat (first | refine blk_drewN ?_ _ | refine blk_drew ?_ | refine blk_alloc ?_ _)); exact BK197.out) hb); have n7_ := Aside0.mk (below_step (by repeat (first | (with_reducible first | exact HB.out | apply below_alloc | apply pw_below_drewN | apply below_drew1 | refine below_set ?_ GE181.out | refine below_set ?_ GE182.out | refine below_set ?_ GE197.out) | exact HB.out)) hb); clear HO2_0; clear HO2_1; clear HO191; clear HO194; clear BK181; clear BK182; clear BK197; clear HB; have HO2_0 := n0_; have HO2_1 := n1_; have HO191 := n2_; have HO194 := n3_; have BK181 := n4_; have BK182 := n5_; have BK197 := n6_; have HB := n7_; clear n0_ n1_ n2_ n3_ n4_ n5_ n6_ n7_; (try clear hb); (try clear hb2); (try clear hk); (try clear hi)))
     go_meet
     case rel => exact ⟨_, (true), (by first | rfl | (simp; done) | (simp [*]; done)), H', ⟨by first | omega | exact Nat.le_refl _⟩, ⟨by (with_reducible repeat (first | apply Kd.R_alloc | apply Kd.R_drewN | apply Kd.R_drew)); exact Kd.R_mono HO194.out (fun _ hk => hk.1)⟩, ⟨by (with_reducible repeat (first | apply Kd.V_alloc | apply Kd.V_drewN | apply Kd.V_drew)); exact Kd.V_mono HO2_0.out (fun _ hk => ⟨hk.1.1.1.1, ⟨hk.1.2, ⟨hk.1.1.1.2.1, ⟨hk.1.1.1.2.2, hk.2⟩⟩⟩⟩)⟩, ⟨by (with_reducible repeat (first | apply Kd.V_alloc | apply Kd.V_drewN | apply Kd.V_drew)); exact Kd.V_mono HO2_1.out (fun _ hk => ⟨hk.1.1.1.1, ⟨hk.1.2, ⟨hk.1.1.1.2.1, ⟨hk.1.1.1.2.2, hk.2⟩⟩⟩⟩)⟩, ⟨by (with_reducible repeat (first | refine blk_drewN ?_ _ | refine blk_drew ?_ | refine blk_alloc ?_ _)); exact BK181.out⟩, ⟨by (with_reducible repeat (first | refine blk_drewN ?_ _ | refine blk_drew ?_ | refine blk_alloc ?_ _)); exact BK182.out⟩, ⟨by (with_reducible repeat (first | refine blk_drewN ?_ _ | refine blk_drew ?_ | refine blk_alloc ?_ _)); exact BK197.out⟩, ⟨by repeat (first | (with_reducible first | exact HB.out | apply below_alloc | apply pw_below_drewN | apply below_drew1 | refine below_set ?_ GE181.out | refine below_set ?_ GE182.out | refine below_set ?_ GE197.out) | exact HB.out)⟩⟩
   case rest =>
    clear HC7
    try clear c1
    try clear c2
    try clear p2
    try clear c4
    try clear c5
    try clear c6
    try clear c7
    try clear c10
    try clear c15
    try clear c20
    try clear c21
    try clear c24
    try clear c26
    try clear c27
    try clear hcz16_0
    try clear hcz16_1
    try clear hcz16_2
    try clear hcz16_3
    try clear hcz16_4
    try clear hcz16_5
    try clear hcz16_6
    try clear hcz16_7
    try clear hcz22_0
    try clear hcz22_1
    try clear hcz28_0
    try clear hcz28_1
    try clear hfz16_0
    try clear hfz16_1
    try clear hfz16_2
    try clear hfz16_3
    try clear hfz16_4
    try clear hfz16_5
    try clear hfz16_6
    try clear hfz16_7
    try clear hfz22_0
    try clear hfz22_1
    try clear hfz28_0
    try clear hfz28_1
    obtain ⟨kq, x34_6, rfl, HA, HJ6, HO_8, HO_183000, HO_183001, BK181, BK182, BK197, HB⟩ := hcut
    cases kq with
    | zero => exact absurd HA.out (by simp [variorumlaw09_ItemParts.j0])
    | succ kj6 =>
     have H := HA.out
     clear HA
     simp only [variorumlaw09_ItemParts.j0] at H
     by_cases c30 : x34_6 = true
     ·subst c30
      have H1 : ((variorumlaw09_fixed.f kj6).bind fun t199 => (some t199)) = some r := by rw [if_pos rfl] at H; exact H
      clear H
      have H := H1
      clear H1
      replace H := Option.bind_eq_some_iff.mp H
      obtain ⟨t199, A310, H⟩ := H
      replace H : (some t199) = some r := H
      have A31 := Aside0.mk A310
      clear A310
      obtain rfl := Option.some.inj H
      go_wp2_with (first | ((with_reducible refine gate_callee (f := 10) rfl ?_); refine goesL_ (some 35) rfl rfl Try.func10 (by kernel_rfl) rfl #[] rfl (by (try simp only [List.map_toArray, List.map_cons, List.map_nil]); first | done | rfl | (simp only [List.length_drop, List.length_take]; rfl) | (simp only [*]; first | done | rfl)) ?_; (with_reducible refine (variorumlaw09_fixed.calls kj6  t199 _ A31.out).mono ?_); rintro e w32 ⟨rfl, hb⟩; refine ⟨_, rfl, ?_⟩; have n0_ := Aside0.mk (Kd.R_below (by (with_reducible repeat (first | apply Kd.R_alloc | apply Kd.R_drewN | apply Kd.R_drew)); exact HO_8.out) hb); have n1_ := Aside0.mk (Kd.V_below (by (with_reducible repeat (first | apply Kd.V_alloc | apply Kd.V_drewN | apply Kd.V_drew)); exact HO_183000.out) hb); have n2_ := Aside0.mk (Kd.V_below (by (with_reducible repeat (first | apply Kd.V_alloc | apply Kd.V_drewN | apply Kd.V_drew)); exact HO_183001.out) hb); have n3_ := Aside0.mk (blk_below (g := gb181) (o := .cells #[.int .i64 a0_0, .int .i64 a0_1, .int .i64 a0_2, .int .i64 a0_3, .int .i32 a0_4, .slice A0_5 l0_5.length c0_5, .slice A0_6 l0_6.length c0_6, .slice A0_7 l0_7.length c0_7] 28 (0, 0)) (by (with_reducible repeat (first | refine blk_drewN ?_ _ | refine blk_drew ?_ | refine blk_alloc ?_ _)); exact BK181.out) hb); have n4_ := Aside0.mk (blk_below (g := gb182) (o := .cells #[.slice A2_0 l2_0.length c2_0, .slice A2_1 l2_1.length c2_1] 49 (0, 0)) (by (with_reducible repeat (first | refine blk_drewN ?_ _ | refine blk_drew ?_ | refine blk_alloc ?_ _)); exact BK182.out) hb); have n5_ := Aside0.mk (blk_below (g := gb197) (o := .cells #[.int .i64 t195, .int .i64 t196] 33 (0, 0)) (by (with_reducible repeat (first | refine blk_drewN ?_ _ | refine blk_drew ?_ | refine blk_alloc ?_ _)); exact BK197.out) hb); have n6_ := Aside0.mk (below_step (by repeat (first | (with_reducible first | exact HB.out | apply below_alloc | apply pw_below_drewN | apply below_drew1 | refine below_set ?_ GE181.out | refine below_set ?_ GE182.out | refine below_set ?_ GE197.out) | exact HB.out)) hb); clear HO_8; clear HO_183000; clear HO_183001; clear BK181; clear BK182; clear BK197; clear HB; have HO_8 := n0_; have HO_183000 := n1_; have HO_183001 := n2_; have BK181 := n3_; have BK182 := n4_; have BK197 := n5_; have HB := n6_; clear n0_ n1_ n2_ n3_ n4_ n5_ n6_; (try clear hb); (try clear hb2); (try clear hk); (try clear hi)))
      go_ret
      exact ⟨by first | rfl | (simp [errW_none, errW_some] <;> rfl) | (simp [*, errW_none, errW_some] <;> rfl), by repeat (first | (with_reducible first | exact HB.out | apply below_alloc | apply pw_below_drewN | apply below_drew1 | refine below_set ?_ GE181.out | refine below_set ?_ GE182.out | refine below_set ?_ GE197.out) | exact HB.out)⟩
     ·replace c30 := Bool.eq_false_iff.mpr c30
      subst c30
      have H1 : ((item_Verse.f kj6 a0_0 a0_1 a0_2 a0_3 a0_4 l0_5 l0_6 l0_7 a1 l2_0).bind fun bt200 => ((item_Verse.f kj6 a0_0 a0_1 a0_2 a0_3 a0_4 l0_5 l0_6 l0_7 a1 l2_1).bind fun bt206 => (if bt200.2.1 = 0 then (if bt206.2.1 = 0 then (if (wrap64 ((bt200.1.length : Int) + (bt206.1.length : Int))) = (t192.length : Int) then (if 0 ≤ (bt200.1.length : Int) then (if (bt200.1.length : Int) ≤ (t192.length : Int) then ((variorumref09_Same.f kj6 (t192.take ((bt200.1.length : Int) : Int).toNat) bt200.1).bind fun t217 => (variorumlaw09_ItemParts.j1 kj6 t192 bt200.1 bt206.1 (!t217))) else (none)) else (none)) else (variorumlaw09_ItemParts.j1 kj6 t192 bt200.1 bt206.1 true)) else (variorumlaw09_ItemParts.j1 kj6 t192 bt200.1 bt206.1 true)) else (variorumlaw09_ItemParts.j1 kj6 t192 bt200.1 bt206.1 true)))) = some r := by rw [if_neg (show ¬ (false = true) by decide)] at H; exact H
      clear H
      have H := H1
      clear H1
      replace H := Option.bind_eq_some_iff.mp H
      obtain ⟨⟨t200, t203, t204⟩, A330, H⟩ := H
      replace H : ((item_Verse.f kj6 a0_0 a0_1 a0_2 a0_3 a0_4 l0_5 l0_6 l0_7 a1 l2_1).bind fun bt206 => (if t203 = 0 then (if bt206.2.1 = 0 then (if (wrap64 ((t200.length : Int) + (bt206.1.length : Int))) = (t192.length : Int) then (if 0 ≤ (t200.length : Int) then (if (t200.length : Int) ≤ (t192.length : Int) then ((variorumref09_Same.f kj6 (t192.take ((t200.length : Int) : Int).toNat) t200).bind fun t217 => (variorumlaw09_ItemParts.j1 kj6 t192 t200 bt206.1 (!t217))) else (none)) else (none)) else (variorumlaw09_ItemParts.j1 kj6 t192 t200 bt206.1 true)) else (variorumlaw09_ItemParts.j1 kj6 t192 t200 bt206.1 true)) else (variorumlaw09_ItemParts.j1 kj6 t192 t200 bt206.1 true))) = some r := H
      have A33 := Aside0.mk A330
      clear A330
      replace H := Option.bind_eq_some_iff.mp H
      obtain ⟨⟨t206, t209, t210⟩, A340, H⟩ := H
      replace H : (if t203 = 0 then (if t209 = 0 then (if (wrap64 ((t200.length : Int) + (t206.length : Int))) = (t192.length : Int) then (if 0 ≤ (t200.length : Int) then (if (t200.length : Int) ≤ (t192.length : Int) then ((variorumref09_Same.f kj6 (t192.take ((t200.length : Int) : Int).toNat) t200).bind fun t217 => (variorumlaw09_ItemParts.j1 kj6 t192 t200 t206 (!t217))) else (none)) else (none)) else (variorumlaw09_ItemParts.j1 kj6 t192 t200 t206 true)) else (variorumlaw09_ItemParts.j1 kj6 t192 t200 t206 true)) else (variorumlaw09_ItemParts.j1 kj6 t192 t200 t206 true)) = some r := H
      have A34 := Aside0.mk A340
      clear A340
      have HC35 := Aside0.mk H
      clear H
      have hnb36 := NB181_182.out
      have hnc36 := NB182_181.out
      have hnb37 := NB181_197.out
      have hnc37 := NB197_181.out
      have hcz38_0 : wc.cell? ⟨gb181, 0, none⟩ = some (.int .i64 a0_0) := (blk_cell BK181.out 0).trans rfl
      have hcz38_1 : wc.cell? ⟨gb181, 1, none⟩ = some (.int .i64 a0_1) := (blk_cell BK181.out 1).trans rfl
      have hcz38_2 : wc.cell? ⟨gb181, 2, none⟩ = some (.int .i64 a0_2) := (blk_cell BK181.out 2).trans rfl
      have hcz38_3 : wc.cell? ⟨gb181, 3, none⟩ = some (.int .i64 a0_3) := (blk_cell BK181.out 3).trans rfl
      have hcz38_4 : wc.cell? ⟨gb181, 4, none⟩ = some (.int .i32 a0_4) := (blk_cell BK181.out 4).trans rfl
      have hcz38_5 : wc.cell? ⟨gb181, 5, none⟩ = some (.slice A0_5 l0_5.length c0_5) := (blk_cell BK181.out 5).trans rfl
      have hcz38_6 : wc.cell? ⟨gb181, 6, none⟩ = some (.slice A0_6 l0_6.length c0_6) := (blk_cell BK181.out 6).trans rfl
      have hcz38_7 : wc.cell? ⟨gb181, 7, none⟩ = some (.slice A0_7 l0_7.length c0_7) := (blk_cell BK181.out 7).trans rfl
      have hfz38_0 := blk_frozen BK181.out 0
      have hfz38_1 := blk_frozen BK181.out 1
      have hfz38_2 := blk_frozen BK181.out 2
      have hfz38_3 := blk_frozen BK181.out 3
      have hfz38_4 := blk_frozen BK181.out 4
      have hfz38_5 := blk_frozen BK181.out 5
      have hfz38_6 := blk_frozen BK181.out 6
      have hfz38_7 := blk_frozen BK181.out 7
      have hnb39 := NB182_197.out
      have hnc39 := NB197_182.out
      have hcz40_0 : wc.cell? ⟨gb182, 0, none⟩ = some (.slice A2_0 l2_0.length c2_0) := (blk_cell BK182.out 0).trans rfl
      have hcz40_1 : wc.cell? ⟨gb182, 1, none⟩ = some (.slice A2_1 l2_1.length c2_1) := (blk_cell BK182.out 1).trans rfl
      have hfz40_0 := blk_frozen BK182.out 0
      have hfz40_1 := blk_frozen BK182.out 1
      go_upto_region 7 with (first | ((with_reducible refine gate_callee (f := 7) rfl ?_); refine goesL_ (some 41) rfl rfl Try.func7 (by kernel_rfl) rfl #[.agg #[.int .i64 a0_0, .int .i64 a0_1, .int .i64 a0_2, .int .i64 a0_3, .int .i32 a0_4, .slice A0_5 l0_5.length c0_5, .slice A0_6 l0_6.length c0_6, .slice A0_7 l0_7.length c0_7], .int .i64 a1, .slice A2_0 l2_0.length c2_0] rfl (by (try simp only [List.map_toArray, List.map_cons, List.map_nil]); first | done | rfl | (simp only [List.length_drop, List.length_take]; rfl) | (simp only [*]; first | done | rfl)) ?_; (with_reducible refine (item_Verse.calls kj6 a0_0 a0_1 a0_2 a0_3 a0_4 _ _ l0_5 _ _ l0_6 _ _ l0_7 a1 _ _ l2_0 t200 t203 t204 _ ?side1 ?side2 ?side3 ?side4 ?side5 ?side6 ?side7 ?side8 A33.out).mono ?_); (case side1 => repeat (first | exact (Kd.C_below HR0_5.out HB.out) | (with_reducible refine Kd.C_alloc ?_ _) | (with_reducible refine Kd.C_drewN ?_ _) | (with_reducible refine Kd.C_drew ?_))); (case side2 => exact HC0_5.out); (case side3 => repeat (first | exact (Kd.C_below HR0_6.out HB.out) | (with_reducible refine Kd.C_alloc ?_ _) | (with_reducible refine Kd.C_drewN ?_ _) | (with_reducible refine Kd.C_drew ?_))); (case side4 => exact HC0_6.out); (case side5 => repeat (first | exact (Kd.C_below HR0_7.out HB.out) | (with_reducible refine Kd.C_alloc ?_ _) | (with_reducible refine Kd.C_drewN ?_ _) | (with_reducible refine Kd.C_drew ?_))); (case side6 => exact HC0_7.out); (case side7 => repeat (first | exact (Kd.V_reads' HO_183000.out).2.2 | (with_reducible refine Kd.C_alloc ?_ _) | (with_reducible refine Kd.C_drewN ?_ _) | (with_reducible refine Kd.C_drew ?_))); (case side8 => exact (Kd.V_reads' HO_183000.out).2.1); rintro e w41 ⟨v201, rfl, ho0, hb⟩; refine ⟨_, rfl, ?_⟩; have n0_ := Aside0.mk (Kd.R_elder' (by (with_reducible repeat (first | apply Kd.R_alloc | apply Kd.R_drewN | apply Kd.R_drew)); exact HO_8.out) (Kd.R_base ho0) hb); have n1_ := Aside0.mk (Kd.V_elder' (by (with_reducible repeat (first | apply Kd.V_alloc | apply Kd.V_drewN | apply Kd.V_drew)); exact HO_183000.out) (Kd.R_base ho0) hb); have n2_ := Aside0.mk (Kd.V_elder' (by (with_reducible repeat (first | apply Kd.V_alloc | apply Kd.V_drewN | apply Kd.V_drew)); exact HO_183001.out) (Kd.R_base ho0) hb); have n3_ := Aside0.mk (Kd.R_lower (Kd.R_new' (Kd.R_newM (M := fun k_ => (w.heap.size ≤ k_)) ho0 (below_size (by repeat (first | (with_reducible first | exact HB.out | apply below_alloc | apply pw_below_drewN | apply below_drew1 | refine below_set ?_ GE181.out | refine below_set ?_ GE182.out | refine below_set ?_ GE197.out) | exact HB.out))) (fun k_ h_ => h_)) (Kd.R_lt (by (with_reducible repeat (first | apply Kd.R_alloc | apply Kd.R_drewN | apply Kd.R_drew)); exact HO_8.out))) (below_size (by repeat (first | (with_reducible first | exact HB.out | apply below_alloc | apply pw_below_drewN | apply below_drew1 | refine below_set ?_ GE181.out | refine below_set ?_ GE182.out | refine below_set ?_ GE197.out) | exact HB.out)))); have n4_ := Aside0.mk (blk_below (g := gb181) (o := .cells #[.int .i64 a0_0, .int .i64 a0_1, .int .i64 a0_2, .int .i64 a0_3, .int .i32 a0_4, .slice A0_5 l0_5.length c0_5, .slice A0_6 l0_6.length c0_6, .slice A0_7 l0_7.length c0_7] 28 (0, 0)) (by (with_reducible repeat (first | refine blk_drewN ?_ _ | refine blk_drew ?_ | refine blk_alloc ?_ _)); exact BK181.out) hb); have n5_ := Aside0.mk (blk_below (g := gb182) (o := .cells #[.slice A2_0 l2_0.length c2_0, .slice A2_1 l2_1.length c2_1] 49 (0, 0)) (by (with_reducible repeat (first | refine blk_drewN ?_ _ | refine blk_drew ?_ | refine blk_alloc ?_ _)); exact BK182.out) hb); have n6_ := Aside0.mk (blk_below (g := gb197) (o := .cells #[.int .i64 t195, .int .i64 t196] 33 (0, 0)) (by (with_reducible repeat (first | refine blk_drewN ?_ _ | refine blk_drew ?_ | refine blk_alloc ?_ _)); exact BK197.out) hb); have n7_ := Aside0.mk (below_step (by repeat (first | (with_reducible first | exact HB.out | apply below_alloc | apply pw_below_drewN | apply below_drew1 | refine below_set ?_ GE181.out | refine below_set ?_ GE182.out | refine below_set ?_ GE197.out) | exact HB.out)) hb); clear HO_8; clear HO_183000; clear HO_183001; clear BK181; clear BK182; clear BK197; clear HB; have HO_8 := n0_; have HO_183000 := n1_; have HO_183001 := n2_; have HO202 := n3_; have BK181 := n4_; have BK182 := n5_; have BK197 := n6_; have HB := n7_; clear n0_ n1_ n2_ n3_ n4_ n5_ n6_ n7_; (try clear hb); (try clear hb2); (try clear hk); (try clear hi); (try clear ho0)) | ((with_reducible refine gate_dst (N := 11) rfl ?_); (try (refine gate_guard (by rfl) ?_; dsimp only)); refine box_event ?hg (N := 11) ?hd (cs := #[.int .i64 0, .int .i64 0]) (t := 33) ?hr ?_; (case hd => rfl); (case hg => rfl); (case hr => first | (go_simp; done) | (go_simp; rfl)); intro gb205 hg w42 hbox hb; have n0_ := Aside0.mk (Kd.R_below (by (with_reducible repeat (first | apply Kd.R_alloc | apply Kd.R_drewN | apply Kd.R_drew)); exact HO_8.out) hb); have n1_ := Aside0.mk (Kd.V_below (Kd.V_elderB (by (with_reducible repeat (first | apply Kd.V_alloc | apply Kd.V_drewN | apply Kd.V_drew)); exact HO_183000.out) gb205 (Nat.le_of_eq hg.symm)) hb); have n2_ := Aside0.mk (Kd.V_below (Kd.V_elderB (by (with_reducible repeat (first | apply Kd.V_alloc | apply Kd.V_drewN | apply Kd.V_drew)); exact HO_183001.out) gb205 (Nat.le_of_eq hg.symm)) hb); have n3_ := Aside0.mk (Kd.R_below (by (with_reducible repeat (first | apply Kd.R_alloc | apply Kd.R_drewN | apply Kd.R_drew)); exact HO202.out) hb); have n4_ := Aside0.mk (blk_below (g := gb181) (o := .cells #[.int .i64 a0_0, .int .i64 a0_1, .int .i64 a0_2, .int .i64 a0_3, .int .i32 a0_4, .slice A0_5 l0_5.length c0_5, .slice A0_6 l0_6.length c0_6, .slice A0_7 l0_7.length c0_7] 28 (0, 0)) (by (with_reducible repeat (first | refine blk_drewN ?_ _ | refine blk_drew ?_ | refine blk_alloc ?_ _)); exact BK181.out) hb); have n5_ := Aside0.mk (blk_below (g := gb182) (o := .cells #[.slice A2_0 l2_0.length c2_0, .slice A2_1 l2_1.length c2_1] 49 (0, 0)) (by (with_reducible repeat (first | refine blk_drewN ?_ _ | refine blk_drew ?_ | refine blk_alloc ?_ _)); exact BK182.out) hb); have n6_ := Aside0.mk (blk_below (g := gb197) (o := .cells #[.int .i64 t195, .int .i64 t196] 33 (0, 0)) (by (with_reducible repeat (first | refine blk_drewN ?_ _ | refine blk_drew ?_ | refine blk_alloc ?_ _)); exact BK197.out) hb); have n7_ := Aside0.mk (below_step (by repeat (first | (with_reducible first | exact HB.out | apply below_alloc | apply pw_below_drewN | apply below_drew1 | refine below_set ?_ GE181.out | refine below_set ?_ GE182.out | refine below_set ?_ GE197.out) | exact HB.out)) hb); have n8_ := Aside0.mk (hbox); have n9_ := Aside0.mk ((by rw [hg]; exact (below_size (by repeat (first | (with_reducible first | exact HB.out | apply below_alloc | apply pw_below_drewN | apply below_drew1 | refine below_set ?_ GE181.out | refine below_set ?_ GE182.out | refine below_set ?_ GE197.out) | exact HB.out))) : w.heap.size ≤ gb205)); have n10_ := Aside0.mk ((by rw [hg]; exact (below_size (by repeat (first | (with_reducible first | exact HB.out | apply below_alloc | apply pw_below_drewN | apply below_drew1 | refine below_set ?_ GE181.out | refine below_set ?_ GE182.out | refine below_set ?_ GE197.out) | exact HB.out))) : w.heap.size ≤ gb205)); have n11_ := Aside0.mk ((by rw [hg]; exact Nat.ne_of_lt (blk_lt (g := gb181) (o := .cells #[.int .i64 a0_0, .int .i64 a0_1, .int .i64 a0_2, .int .i64 a0_3, .int .i32 a0_4, .slice A0_5 l0_5.length c0_5, .slice A0_6 l0_6.length c0_6, .slice A0_7 l0_7.length c0_7] 28 (0, 0)) (by (with_reducible repeat (first | refine blk_drewN ?_ _ | refine blk_drew ?_ | refine blk_alloc ?_ _)); exact BK181.out)) : gb181 ≠ gb205)); have n12_ := Aside0.mk ((by rw [hg]; exact Nat.ne_of_gt (blk_lt (g := gb181) (o := .cells #[.int .i64 a0_0, .int .i64 a0_1, .int .i64 a0_2, .int .i64 a0_3, .int .i32 a0_4, .slice A0_5 l0_5.length c0_5, .slice A0_6 l0_6.length c0_6, .slice A0_7 l0_7.length c0_7] 28 (0, 0)) (by (with_reducible repeat (first | refine blk_drewN ?_ _ | refine blk_drew ?_ | refine blk_alloc ?_ _)); exact BK181.out)) : gb205 ≠ gb181)); have n13_ := Aside0.mk ((by rw [hg]; exact Nat.ne_of_lt (blk_lt (g := gb182) (o := .cells #[.slice A2_0 l2_0.length c2_0, .slice A2_1 l2_1.length c2_1] 49 (0, 0)) (by (with_reducible repeat (first | refine blk_drewN ?_ _ | refine blk_drew ?_ | refine blk_alloc ?_ _)); exact BK182.out)) : gb182 ≠ gb205)); have n14_ := Aside0.mk ((by rw [hg]; exact Nat.ne_of_gt (blk_lt (g := gb182) (o := .cells #[.slice A2_0 l2_0.length c2_0, .slice A2_1 l2_1.length c2_1] 49 (0, 0)) (by (with_reducible repeat (first | refine blk_drewN ?_ _ | refine blk_drew ?_ | refine blk_alloc ?_ _)); exact BK182.out)) : gb205 ≠ gb182)); have n15_ := Aside0.mk ((by rw [hg]; exact Nat.ne_of_lt (blk_lt (g := gb197) (o := .cells #[.int .i64 t195, .int .i64 t196] 33 (0, 0)) (by (with_reducible repeat (first | refine blk_drewN ?_ _ | refine blk_drew ?_ | refine blk_alloc ?_ _)); exact BK197.out)) : gb197 ≠ gb205)); have n16_ := Aside0.mk ((by rw [hg]; exact Nat.ne_of_gt (blk_lt (g := gb197) (o := .cells #[.int .i64 t195, .int .i64 t196] 33 (0, 0)) (by (with_reducible repeat (first | refine blk_drewN ?_ _ | refine blk_drew ?_ | refine blk_alloc ?_ _)); exact BK197.out)) : gb205 ≠ gb197)); clear HO_8; clear HO_183000; clear HO_183001; clear HO202; clear BK181; clear BK182; clear BK197; clear HB; have HO_8 := n0_; have HO_183000 := n1_; have HO_183001 := n2_; have HO202 := n3_; have BK181 := n4_; have BK182 := n5_; have BK197 := n6_; have HB := n7_; have BK205 := n8_; have GW205 := n9_; have GE205 := n10_; have NB181_205 := n11_; have NB205_181 := n12_; have NB182_205 := n13_; have NB205_182 := n14_; have NB197_205 := n15_; have NB205_197 := n16_; clear n0_ n1_ n2_ n3_ n4_ n5_ n6_ n7_ n8_ n9_ n10_ n11_ n12_ n13_ n14_ n15_ n16_; clear hb hbox hg; have hnb43 := NB205_181.out; have hnc43 := NB181_205.out; have hnb44 := NB205_182.out; have hnc44 := NB182_205.out; have hnb45 := NB205_197.out; have hnc45 := NB197_205.out; have hcz46_0 : w42.cell? ⟨gb205, 0, none⟩ = some (.int .i64 0) := (blk_cell BK205.out 0).trans rfl; have hcz46_1 : w42.cell? ⟨gb205, 1, none⟩ = some (.int .i64 0) := (blk_cell BK205.out 1).trans rfl; have hfz46_0 := blk_frozen BK205.out 0; have hfz46_1 := blk_frozen BK205.out 1; have hcz47_0 : w42.cell? ⟨gb181, 0, none⟩ = some (.int .i64 a0_0) := (blk_cell BK181.out 0).trans rfl; have hcz47_1 : w42.cell? ⟨gb181, 1, none⟩ = some (.int .i64 a0_1) := (blk_cell BK181.out 1).trans rfl; have hcz47_2 : w42.cell? ⟨gb181, 2, none⟩ = some (.int .i64 a0_2) := (blk_cell BK181.out 2).trans rfl; have hcz47_3 : w42.cell? ⟨gb181, 3, none⟩ = some (.int .i64 a0_3) := (blk_cell BK181.out 3).trans rfl; have hcz47_4 : w42.cell? ⟨gb181, 4, none⟩ = some (.int .i32 a0_4) := (blk_cell BK181.out 4).trans rfl; have hcz47_5 : w42.cell? ⟨gb181, 5, none⟩ = some (.slice A0_5 l0_5.length c0_5) := (blk_cell BK181.out 5).trans rfl; have hcz47_6 : w42.cell? ⟨gb181, 6, none⟩ = some (.slice A0_6 l0_6.length c0_6) := (blk_cell BK181.out 6).trans rfl; have hcz47_7 : w42.cell? ⟨gb181, 7, none⟩ = some (.slice A0_7 l0_7.length c0_7) := (blk_cell BK181.out 7).trans rfl; have hfz47_0 := blk_frozen BK181.out 0; have hfz47_1 := blk_frozen BK181.out 1; have hfz47_2 := blk_frozen BK181.out 2; have hfz47_3 := blk_frozen BK181.out 3; have hfz47_4 := blk_frozen BK181.out 4; have hfz47_5 := blk_frozen BK181.out 5; have hfz47_6 := blk_frozen BK181.out 6; have hfz47_7 := blk_frozen BK181.out 7; have hcz48_0 : w42.cell? ⟨gb182, 0, none⟩ = some (.slice A2_0 l2_0.length c2_0) := (blk_cell BK182.out 0).trans rfl; have hcz48_1 : w42.cell? ⟨gb182, 1, none⟩ = some (.slice A2_1 l2_1.length c2_1) := (blk_cell BK182.out 1).trans rfl; have hfz48_0 := blk_frozen BK182.out 0; have hfz48_1 := blk_frozen BK182.out 1) | ((with_reducible refine gate_callee (f := 7) rfl ?_); refine goesL_ (some 49) rfl rfl Try.func7 (by kernel_rfl) rfl #[.agg #[.int .i64 a0_0, .int .i64 a0_1, .int .i64 a0_2, .int .i64 a0_3, .int .i32 a0_4, .slice A0_5 l0_5.length c0_5, .slice A0_6 l0_6.length c0_6, .slice A0_7 l0_7.length c0_7], .int .i64 a1, .slice A2_1 l2_1.length c2_1] rfl (by (try simp only [List.map_toArray, List.map_cons, List.map_nil]); first | done | rfl | (simp only [List.length_drop, List.length_take]; rfl) | (simp only [*]; first | done | rfl)) ?_; (with_reducible refine (item_Verse.calls kj6 a0_0 a0_1 a0_2 a0_3 a0_4 _ _ l0_5 _ _ l0_6 _ _ l0_7 a1 _ _ l2_1 t206 t209 t210 _ ?side1 ?side2 ?side3 ?side4 ?side5 ?side6 ?side7 ?side8 A34.out).mono ?_); (case side1 => exact Kd.C_below HR0_5.out (by repeat (first | (with_reducible first | exact HB.out | apply below_alloc | apply pw_below_drewN | apply below_drew1 | refine below_set ?_ GE181.out | refine below_set ?_ GE182.out | refine below_set ?_ GE197.out | refine below_set ?_ GE205.out) | exact HB.out))); (case side2 => exact HC0_5.out); (case side3 => exact Kd.C_below HR0_6.out (by repeat (first | (with_reducible first | exact HB.out | apply below_alloc | apply pw_below_drewN | apply below_drew1 | refine below_set ?_ GE181.out | refine below_set ?_ GE182.out | refine below_set ?_ GE197.out | refine below_set ?_ GE205.out) | exact HB.out))); (case side4 => exact HC0_6.out); (case side5 => exact Kd.C_below HR0_7.out (by repeat (first | (with_reducible first | exact HB.out | apply below_alloc | apply pw_below_drewN | apply below_drew1 | refine below_set ?_ GE181.out | refine below_set ?_ GE182.out | refine below_set ?_ GE197.out | refine below_set ?_ GE205.out) | exact HB.out))); (case side6 => exact HC0_7.out); (case side7 => refine (Kd.V_reads' (e := 36) (base := w.heap.size) (ok := fun k_ => ((((((P2_0_ k_ ∨ P2_1_ k_) ∨ w.heap.size ≤ k_)) ∧ (some k_ ≠ (v193 : Value).ownBlock ∧ (k_ ≠ gb181 ∧ (k_ ≠ gb182 ∧ k_ ≠ gb197)))) ∧ some k_ ≠ (v201 : Value).ownBlock) ∧ k_ ≠ gb205)) (n := l2_1.length) (c := c2_1) ?_).2.2; exact (by (with_reducible repeat (first | apply Kd.V_alloc | apply Kd.V_drewN | apply Kd.V_drew)); exact (Kd.V_mono (Kd.V_far (p := ⟨gb205, 1, none⟩) (Kd.V_far (p := ⟨gb205, 0, none⟩) (Kd.V_mono HO_183001.out (fun k_ hk => (⟨hk, hk.2⟩ : _ ∧ k_ ≠ gb205))) (fun _ hk => hk.2) (.int .i64 t203)) (fun _ hk => hk.2) (.int .i64 t204)) (fun _ h_ => h_.1)))); (case side8 => exact (Kd.V_reads' HO_183001.out).2.1); rintro e w49 ⟨v207, rfl, ho0, hb⟩; refine ⟨_, rfl, ?_⟩; have n0_ := Aside0.mk (Kd.R_elder' (by (with_reducible repeat (first | apply Kd.R_alloc | apply Kd.R_drewN | apply Kd.R_drew)); exact (Kd.R_mono (Kd.R_far (p := ⟨gb205, 1, none⟩) (Kd.R_far (p := ⟨gb205, 0, none⟩) (Kd.R_types HO_8.out BK205.out (by decide)) (fun _ hk => hk.2) (.int .i64 t203)) (fun _ hk => hk.2) (.int .i64 t204)) (fun _ h_ => h_.1))) (Kd.R_base ho0) hb); have n1_ := Aside0.mk (Kd.V_elder' (by (with_reducible repeat (first | apply Kd.V_alloc | apply Kd.V_drewN | apply Kd.V_drew)); exact (Kd.V_mono (Kd.V_far (p := ⟨gb205, 1, none⟩) (Kd.V_far (p := ⟨gb205, 0, none⟩) (Kd.V_mono HO_183000.out (fun k_ hk => (⟨hk, hk.2⟩ : _ ∧ k_ ≠ gb205))) (fun _ hk => hk.2) (.int .i64 t203)) (fun _ hk => hk.2) (.int .i64 t204)) (fun _ h_ => h_.1))) (Kd.R_base ho0) hb); have n2_ := Aside0.mk (Kd.V_elder' (by (with_reducible repeat (first | apply Kd.V_alloc | apply Kd.V_drewN | apply Kd.V_drew)); exact (Kd.V_mono (Kd.V_far (p := ⟨gb205, 1, none⟩) (Kd.V_far (p := ⟨gb205, 0, none⟩) (Kd.V_mono HO_183001.out (fun k_ hk => (⟨hk, hk.2⟩ : _ ∧ k_ ≠ gb205))) (fun _ hk => hk.2) (.int .i64 t203)) (fun _ hk => hk.2) (.int .i64 t204)) (fun _ h_ => h_.1))) (Kd.R_base ho0) hb); have n3_ := Aside0.mk (Kd.R_elder' (by (with_reducible repeat (first | apply Kd.R_alloc | apply Kd.R_drewN | apply Kd.R_drew)); exact (Kd.R_mono (Kd.R_far (p := ⟨gb205, 1, none⟩) (Kd.R_far (p := ⟨gb205, 0, none⟩) (Kd.R_types HO202.out BK205.out (by decide)) (fun _ hk => hk.2) (.int .i64 t203)) (fun _ hk => hk.2) (.int .i64 t204)) (fun _ h_ => h_.1))) (Kd.R_base ho0) hb); have n4_ := Aside0.mk (Kd.R_lower (Kd.R_new' (Kd.R_new' (Kd.R_newM (M := fun k_ => (w.heap.size ≤ k_)) ho0 (below_size (by repeat (first | (with_reducible first | exact HB.out | apply below_alloc | apply pw_below_drewN | apply below_drew1 | refine below_set ?_ GE181.out | refine below_set ?_ GE182.out | refine below_set ?_ GE197.out | refine below_set ?_ GE205.out) | exact HB.out))) (fun k_ h_ => h_)) (Kd.R_lt (by (with_reducible repeat (first | apply Kd.R_alloc | apply Kd.R_drewN | apply Kd.R_drew)); exact (Kd.R_mono (Kd.R_far (p := ⟨gb205, 1, none⟩) (Kd.R_far (p := ⟨gb205, 0, none⟩) (Kd.R_types HO_8.out BK205.out (by decide)) (fun _ hk => hk.2) (.int .i64 t203)) (fun _ hk => hk.2) (.int .i64 t204)) (fun _ h_ => h_.1))))) (Kd.R_lt (by (with_reducible repeat (first | apply Kd.R_alloc | apply Kd.R_drewN | apply Kd.R_drew)); exact (Kd.R_mono (Kd.R_far (p := ⟨gb205, 1, none⟩) (Kd.R_far (p := ⟨gb205, 0, none⟩) (Kd.R_types HO202.out BK205.out (by decide)) (fun _ hk => hk.2) (.int .i64 t203)) (fun _ hk => hk.2) (.int .i64 t204)) (fun _ h_ => h_.1))))) (below_size (by repeat (first | (with_reducible first | exact HB.out | apply below_alloc | apply pw_below_drewN | apply below_drew1 | refine below_set ?_ GE181.out | refine below_set ?_ GE182.out | refine below_set ?_ GE197.out | refine below_set ?_ GE205.out) | exact HB.out)))); have n5_ := Aside0.mk (blk_below (g := gb181) (o := .cells #[.int .i64 a0_0, .int .i64 a0_1, .int .i64 a0_2, .int .i64 a0_3, .int .i32 a0_4, .slice A0_5 l0_5.length c0_5, .slice A0_6 l0_6.length c0_6, .slice A0_7 l0_7.length c0_7] 28 (0, 0)) (by (with_reducible repeat (first | refine blk_drewN ?_ _ | refine blk_drew ?_ | refine blk_alloc ?_ _)); refine blk_far ?_ NB181_205.out _; (with_reducible repeat (first | refine blk_drewN ?_ _ | refine blk_drew ?_ | refine blk_alloc ?_ _)); refine blk_far ?_ NB181_205.out _; (with_reducible repeat (first | refine blk_drewN ?_ _ | refine blk_drew ?_ | refine blk_alloc ?_ _)); exact BK181.out) hb); have n6_ := Aside0.mk (blk_below (g := gb182) (o := .cells #[.slice A2_0 l2_0.length c2_0, .slice A2_1 l2_1.length c2_1] 49 (0, 0)) (by (with_reducible repeat (first | refine blk_drewN ?_ _ | refine blk_drew ?_ | refine blk_alloc ?_ _)); refine blk_far ?_ NB182_205.out _; (with_reducible repeat (first | refine blk_drewN ?_ _ | refine blk_drew ?_ | refine blk_alloc ?_ _)); refine blk_far ?_ NB182_205.out _; (with_reducible repeat (first | refine blk_drewN ?_ _ | refine blk_drew ?_ | refine blk_alloc ?_ _)); exact BK182.out) hb); have n7_ := Aside0.mk (blk_below (g := gb197) (o := .cells #[.int .i64 t195, .int .i64 t196] 33 (0, 0)) (by (with_reducible repeat (first | refine blk_drewN ?_ _ | refine blk_drew ?_ | refine blk_alloc ?_ _)); refine blk_far ?_ NB197_205.out _; (with_reducible repeat (first | refine blk_drewN ?_ _ | refine blk_drew ?_ | refine blk_alloc ?_ _)); refine blk_far ?_ NB197_205.out _; (with_reducible repeat (first | refine blk_drewN ?_ _ | refine blk_drew ?_ | refine blk_alloc ?_ _)); exact BK197.out) hb); have n8_ := Aside0.mk (blk_below (g := gb205) (o := .cells #[.int .i64 t203, .int .i64 t204] 33 (0, 0)) (by (with_reducible repeat (first | refine blk_drewN ?_ _ | refine blk_drew ?_ | refine blk_alloc ?_ _)); refine blk_put (cs := #[.int .i64 t203, .int .i64 0]) ?_ 1 _ rfl; (with_reducible repeat (first | refine blk_drewN ?_ _ | refine blk_drew ?_ | refine blk_alloc ?_ _)); refine blk_put (cs := #[.int .i64 0, .int .i64 0]) ?_ 0 _ rfl; (with_reducible repeat (first | refine blk_drewN ?_ _ | refine blk_drew ?_ | refine blk_alloc ?_ _)); exact BK205.out) hb); have n9_ := Aside0.mk (below_step (by repeat (first | (with_reducible first | exact HB.out | apply below_alloc | apply pw_below_drewN | apply below_drew1 | refine below_set ?_ GE181.out | refine below_set ?_ GE182.out | refine below_set ?_ GE197.out | refine below_set ?_ GE205.out) | exact HB.out)) hb); clear HO_8; clear HO_183000; clear HO_183001; clear HO202; clear BK181; clear BK182; clear BK197; clear BK205; clear HB; have HO_8 := n0_; have HO_183000 := n1_; have HO_183001 := n2_; have HO202 := n3_; have HO208 := n4_; have BK181 := n5_; have BK182 := n6_; have BK197 := n7_; have BK205 := n8_; have HB := n9_; clear n0_ n1_ n2_ n3_ n4_ n5_ n6_ n7_ n8_ n9_; (try clear hb); (try clear hb2); (try clear hk); (try clear hi); (try clear ho0)) | ((with_reducible refine gate_dst (N := 13) rfl ?_); (try (refine gate_guard (by rfl) ?_; dsimp only)); refine box_event ?hg (N := 13) ?hd (cs := #[.int .i64 0, .int .i64 0]) (t := 33) ?hr ?_; (case hd => rfl); (case hg => rfl); (case hr => first | (go_simp; done) | (go_simp; rfl)); intro gb211 hg w50 hbox hb; have n0_ := Aside0.mk (Kd.R_below (by (with_reducible repeat (first | apply Kd.R_alloc | apply Kd.R_drewN | apply Kd.R_drew)); exact HO_8.out) hb); have n1_ := Aside0.mk (Kd.V_below (Kd.V_elderB (by (with_reducible repeat (first | apply Kd.V_alloc | apply Kd.V_drewN | apply Kd.V_drew)); exact HO_183000.out) gb211 (Nat.le_of_eq hg.symm)) hb); have n2_ := Aside0.mk (Kd.V_below (Kd.V_elderB (by (with_reducible repeat (first | apply Kd.V_alloc | apply Kd.V_drewN | apply Kd.V_drew)); exact HO_183001.out) gb211 (Nat.le_of_eq hg.symm)) hb); have n3_ := Aside0.mk (Kd.R_below (by (with_reducible repeat (first | apply Kd.R_alloc | apply Kd.R_drewN | apply Kd.R_drew)); exact HO202.out) hb); have n4_ := Aside0.mk (Kd.R_below (by (with_reducible repeat (first | apply Kd.R_alloc | apply Kd.R_drewN | apply Kd.R_drew)); exact HO208.out) hb); have n5_ := Aside0.mk (blk_below (g := gb181) (o := .cells #[.int .i64 a0_0, .int .i64 a0_1, .int .i64 a0_2, .int .i64 a0_3, .int .i32 a0_4, .slice A0_5 l0_5.length c0_5, .slice A0_6 l0_6.length c0_6, .slice A0_7 l0_7.length c0_7] 28 (0, 0)) (by (with_reducible repeat (first | refine blk_drewN ?_ _ | refine blk_drew ?_ | refine blk_alloc ?_ _)); exact BK181.out) hb); have n6_ := Aside0.mk (blk_below (g := gb182) (o := .cells #[.slice A2_0 l2_0.length c2_0, .slice A2_1 l2_1.length c2_1] 49 (0, 0)) (by (with_reducible repeat (first | refine blk_drewN ?_ _ | refine blk_drew ?_ | refine blk_alloc ?_ _)); exact BK182.out) hb); have n7_ := Aside0.mk (blk_below (g := gb197) (o := .cells #[.int .i64 t195, .int .i64 t196] 33 (0, 0)) (by (with_reducible repeat (first | refine blk_drewN ?_ _ | refine blk_drew ?_ | refine blk_alloc ?_ _)); exact BK197.out) hb); have n8_ := Aside0.mk (blk_below (g := gb205) (o := .cells #[.int .i64 t203, .int .i64 t204] 33 (0, 0)) (by (with_reducible repeat (first | refine blk_drewN ?_ _ | refine blk_drew ?_ | refine blk_alloc ?_ _)); exact BK205.out) hb); have n9_ := Aside0.mk (below_step (by repeat (first | (with_reducible first | exact HB.out | apply below_alloc | apply pw_below_drewN | apply below_drew1 | refine below_set ?_ GE181.out | refine below_set ?_ GE182.out | refine below_set ?_ GE197.out | refine below_set ?_ GE205.out) | exact HB.out)) hb); have n10_ := Aside0.mk (hbox); have n11_ := Aside0.mk ((by rw [hg]; exact (below_size (by repeat (first | (with_reducible first | exact HB.out | apply below_alloc | apply pw_below_drewN | apply below_drew1 | refine below_set ?_ GE181.out | refine below_set ?_ GE182.out | refine below_set ?_ GE197.out | refine below_set ?_ GE205.out) | exact HB.out))) : w.heap.size ≤ gb211)); have n12_ := Aside0.mk ((by rw [hg]; exact (below_size (by repeat (first | (with_reducible first | exact HB.out | apply below_alloc | apply pw_below_drewN | apply below_drew1 | refine below_set ?_ GE181.out | refine below_set ?_ GE182.out | refine below_set ?_ GE197.out | refine below_set ?_ GE205.out) | exact HB.out))) : w.heap.size ≤ gb211)); have n13_ := Aside0.mk ((by rw [hg]; exact Nat.ne_of_lt (blk_lt (g := gb181) (o := .cells #[.int .i64 a0_0, .int .i64 a0_1, .int .i64 a0_2, .int .i64 a0_3, .int .i32 a0_4, .slice A0_5 l0_5.length c0_5, .slice A0_6 l0_6.length c0_6, .slice A0_7 l0_7.length c0_7] 28 (0, 0)) (by (with_reducible repeat (first | refine blk_drewN ?_ _ | refine blk_drew ?_ | refine blk_alloc ?_ _)); exact BK181.out)) : gb181 ≠ gb211)); have n14_ := Aside0.mk ((by rw [hg]; exact Nat.ne_of_gt (blk_lt (g := gb181) (o := .cells #[.int .i64 a0_0, .int .i64 a0_1, .int .i64 a0_2, .int .i64 a0_3, .int .i32 a0_4, .slice A0_5 l0_5.length c0_5, .slice A0_6 l0_6.length c0_6, .slice A0_7 l0_7.length c0_7] 28 (0, 0)) (by (with_reducible repeat (first | refine blk_drewN ?_ _ | refine blk_drew ?_ | refine blk_alloc ?_ _)); exact BK181.out)) : gb211 ≠ gb181)); have n15_ := Aside0.mk ((by rw [hg]; exact Nat.ne_of_lt (blk_lt (g := gb182) (o := .cells #[.slice A2_0 l2_0.length c2_0, .slice A2_1 l2_1.length c2_1] 49 (0, 0)) (by (with_reducible repeat (first | refine blk_drewN ?_ _ | refine blk_drew ?_ | refine blk_alloc ?_ _)); exact BK182.out)) : gb182 ≠ gb211)); have n16_ := Aside0.mk ((by rw [hg]; exact Nat.ne_of_gt (blk_lt (g := gb182) (o := .cells #[.slice A2_0 l2_0.length c2_0, .slice A2_1 l2_1.length c2_1] 49 (0, 0)) (by (with_reducible repeat (first | refine blk_drewN ?_ _ | refine blk_drew ?_ | refine blk_alloc ?_ _)); exact BK182.out)) : gb211 ≠ gb182)); have n17_ := Aside0.mk ((by rw [hg]; exact Nat.ne_of_lt (blk_lt (g := gb197) (o := .cells #[.int .i64 t195, .int .i64 t196] 33 (0, 0)) (by (with_reducible repeat (first | refine blk_drewN ?_ _ | refine blk_drew ?_ | refine blk_alloc ?_ _)); exact BK197.out)) : gb197 ≠ gb211)); have n18_ := Aside0.mk ((by rw [hg]; exact Nat.ne_of_gt (blk_lt (g := gb197) (o := .cells #[.int .i64 t195, .int .i64 t196] 33 (0, 0)) (by (with_reducible repeat (first | refine blk_drewN ?_ _ | refine blk_drew ?_ | refine blk_alloc ?_ _)); exact BK197.out)) : gb211 ≠ gb197)); have n19_ := Aside0.mk ((by rw [hg]; exact Nat.ne_of_lt (blk_lt (g := gb205) (o := .cells #[.int .i64 t203, .int .i64 t204] 33 (0, 0)) (by (with_reducible repeat (first | refine blk_drewN ?_ _ | refine blk_drew ?_ | refine blk_alloc ?_ _)); exact BK205.out)) : gb205 ≠ gb211)); have n20_ := Aside0.mk ((by rw [hg]; exact Nat.ne_of_gt (blk_lt (g := gb205) (o := .cells #[.int .i64 t203, .int .i64 t204] 33 (0, 0)) (by (with_reducible repeat (first | refine blk_drewN ?_ _ | refine blk_drew ?_ | refine blk_alloc ?_ _)); exact BK205.out)) : gb211 ≠ gb205)); clear HO_8; clear HO_183000; clear HO_183001; clear HO202; clear HO208; clear BK181; clear BK182; clear BK197; clear BK205; clear HB; have HO_8 := n0_; have HO_183000 := n1_; have HO_183001 := n2_; have HO202 := n3_; have HO208 := n4_; have BK181 := n5_; have BK182 := n6_; have BK197 := n7_; have BK205 := n8_; have HB := n9_; have BK211 := n10_; have GW211 := n11_; have GE211 := n12_; have NB181_211 := n13_; have NB211_181 := n14_; have NB182_211 := n15_; have NB211_182 := n16_; have NB197_211 := n17_; have NB211_197 := n18_; have NB205_211 := n19_; have NB211_205 := n20_; clear n0_ n1_ n2_ n3_ n4_ n5_ n6_ n7_ n8_ n9_ n10_ n11_ n12_ n13_ n14_ n15_ n16_ n17_ n18_ n19_ n20_; clear hb hbox hg; have hnb51 := NB211_181.out; have hnc51 := NB181_211.out; have hnb52 := NB211_182.out; have hnc52 := NB182_211.out; have hnb53 := NB211_197.out; have hnc53 := NB197_211.out; have hnb54 := NB211_205.out; have hnc54 := NB205_211.out; have hcz55_0 : w50.cell? ⟨gb211, 0, none⟩ = some (.int .i64 0) := (blk_cell BK211.out 0).trans rfl; have hcz55_1 : w50.cell? ⟨gb211, 1, none⟩ = some (.int .i64 0) := (blk_cell BK211.out 1).trans rfl; have hfz55_0 := blk_frozen BK211.out 0; have hfz55_1 := blk_frozen BK211.out 1))
      (try simp only [Act.put, List.setIfInBounds_toArray, List.set_cons_zero, List.set_cons_succ])
      go_cut [78] (fun v78 wc => ∃ (kq : Nat) (x78_34 : Bool), v78 = .bool x78_34 ∧ Aside0 (variorumlaw09_ItemParts.j1 kq t192 t200 t206 x78_34 = some r) ∧ Aside0 (kq ≤ kj6) ∧ Aside0 (Kd.R k45 45 wc w.heap.size (fun k_ => (w.heap.size ≤ k_) ∧ some k_ ≠ (v201 : Value).ownBlock ∧ some k_ ≠ (v207 : Value).ownBlock) v193 t192) ∧ Aside0 (Kd.R k45 45 wc w.heap.size (fun k_ => (w.heap.size ≤ k_) ∧ some k_ ≠ (v193 : Value).ownBlock ∧ some k_ ≠ (v207 : Value).ownBlock) v201 t200) ∧ Aside0 (Kd.R k45 45 wc w.heap.size (fun k_ => (w.heap.size ≤ k_) ∧ some k_ ≠ (v193 : Value).ownBlock ∧ some k_ ≠ (v201 : Value).ownBlock) v207 t206) ∧ Aside0 (Kd.V (Kd.slice 43 (Kd.slice 47 k47)) 36 wc w.heap.size (fun k_ => ((P2_0_ k_ ∨ P2_1_ k_) ∨ w.heap.size ≤ k_) ∧ some k_ ≠ (v193 : Value).ownBlock ∧ some k_ ≠ (v201 : Value).ownBlock ∧ some k_ ≠ (v207 : Value).ownBlock ∧ k_ ≠ gb181 ∧ k_ ≠ gb182 ∧ k_ ≠ gb197 ∧ k_ ≠ gb205 ∧ k_ ≠ gb211) (.slice A2_0 l2_0.length c2_0) l2_0) ∧ Aside0 (Kd.V (Kd.slice 43 (Kd.slice 47 k47)) 36 wc w.heap.size (fun k_ => ((P2_0_ k_ ∨ P2_1_ k_) ∨ w.heap.size ≤ k_) ∧ some k_ ≠ (v193 : Value).ownBlock ∧ some k_ ≠ (v201 : Value).ownBlock ∧ some k_ ≠ (v207 : Value).ownBlock ∧ k_ ≠ gb181 ∧ k_ ≠ gb182 ∧ k_ ≠ gb197 ∧ k_ ≠ gb205 ∧ k_ ≠ gb211) (.slice A2_1 l2_1.length c2_1) l2_1) ∧ Aside0 (wc.heap[gb181]? = some (.cells #[.int .i64 a0_0, .int .i64 a0_1, .int .i64 a0_2, .int .i64 a0_3, .int .i32 a0_4, (.slice A0_5 l0_5.length c0_5), (.slice A0_6 l0_6.length c0_6), (.slice A0_7 l0_7.length c0_7)] 28 (0, 0))) ∧ Aside0 (wc.heap[gb182]? = some (.cells #[(.slice A2_0 l2_0.length c2_0), (.slice A2_1 l2_1.length c2_1)] 49 (0, 0))) ∧ Aside0 (wc.heap[gb197]? = some (.cells #[.int .i64 t195, .int .i64 t196] 33 (0, 0))) ∧ Aside0 (wc.heap[gb205]? = some (.cells #[.int .i64 t203, .int .i64 t204] 33 (0, 0))) ∧ Aside0 (wc.heap[gb211]? = some (.cells #[.int .i64 t209, .int .i64 t210] 33 (0, 0))) ∧ Aside0 (Below w.heap.size w wc))
      case first =>
       have H := HC35.out
       clear HC35
       by_cases c56 : t203 = 0
       ·rw [if_pos c56] at H
        have c56b0 : (t203 == 0) = true := beq_iff_eq.mpr c56
        have c56b1 : (t203 != 0) = false := bne_eq_false_iff_eq.mpr c56
        clear c56
        (first | rw [c56b0] | (simp only [i64_w, i32_w]; rw [c56b0]) | skip)
        by_cases c57 : t209 = 0
        ·rw [if_pos c57] at H
         have c57b0 : (t209 == 0) = true := beq_iff_eq.mpr c57
         have c57b1 : (t209 != 0) = false := bne_eq_false_iff_eq.mpr c57
         clear c57
         by_cases c58 : (wrap64 ((t200.length : Int) + (t206.length : Int))) = (t192.length : Int)
         ·rw [if_pos c58] at H
          have c58b0 : ((wrap64 ((t200.length : Int) + (t206.length : Int))) == (t192.length : Int)) = true := beq_iff_eq.mpr c58
          have c58b1 : ((wrap64 ((t200.length : Int) + (t206.length : Int))) != (t192.length : Int)) = false := bne_eq_false_iff_eq.mpr c58
          clear c58
          by_cases c59 : 0 ≤ (t200.length : Int)
          ·rw [if_pos c59] at H
           have c59b0 := eq_true c59
           have c59b1 : decide (0 ≤ (t200.length : Int)) = true := decide_eq_true c59
           clear c59
           by_cases c60 : (t200.length : Int) ≤ (t192.length : Int)
           ·rw [if_pos c60] at H
            have c60b0 := eq_true c60
            have c60b1 : decide ((t200.length : Int) ≤ (t192.length : Int)) = true := decide_eq_true c60
            clear c60
            obtain ⟨y212, hy212⟩ : ∃ y_ : List (S45), y_ = (t192.take ((t200.length : Int) : Int).toNat) := ⟨_, rfl⟩
            replace H : ((variorumref09_Same.f kj6 y212 t200).bind fun t217 => (variorumlaw09_ItemParts.j1 kj6 t192 t200 t206 (!t217))) = some r := by first | (rw [hy212]; with_reducible exact H) | (have H2_ := (Option.bind_some _ _).symm.trans H; rw [hy212]; with_reducible exact H2_) | (have H2_ := (Option.bind_some _ _).symm.trans H; with_reducible exact H2_) | with_reducible exact H | (rw [hy212]; exact H) | exact H
            have Ny212 := Aside0.mk hy212
            clear hy212
            replace H := Option.bind_eq_some_iff.mp H
            obtain ⟨t217, A610, H⟩ := H
            replace H : (variorumlaw09_ItemParts.j1 kj6 t192 t200 t206 (!t217)) = some r := H
            have A61 := Aside0.mk A610
            clear A610
            have H' := Aside0.mk H
            clear H
            have n0_ : Aside0 (Kd.R k45 45 ((w50.setCell ⟨gb211, 0, none⟩ (.int .i64 t209)).setCell ⟨gb211, 1, none⟩ (.int .i64 t210)) w.heap.size (fun k_ => (w.heap.size ≤ k_) ∧ some k_ ≠ (v201 : Value).ownBlock ∧ some k_ ≠ (v207 : Value).ownBlock) v193 t192) := ⟨by (with_reducible repeat (first | apply Kd.R_alloc | apply Kd.R_drewN | apply Kd.R_drew)); exact Kd.R_mono (Kd.R_far (p := ⟨gb211, 1, none⟩) (Kd.R_far (p := ⟨gb211, 0, none⟩) (Kd.R_types HO_8.out BK211.out (by decide)) (fun _ hk => hk.2) (.int .i64 t209)) (fun _ hk => hk.2) (.int .i64 t210)) (fun _ hk => ⟨hk.1.1.1, ⟨hk.1.1.2, hk.1.2⟩⟩)⟩
            have n1_ : Aside0 (Kd.V (Kd.slice 43 (Kd.slice 47 k47)) 36 ((w50.setCell ⟨gb211, 0, none⟩ (.int .i64 t209)).setCell ⟨gb211, 1, none⟩ (.int .i64 t210)) w.heap.size (fun k_ => ((P2_0_ k_ ∨ P2_1_ k_) ∨ w.heap.size ≤ k_) ∧ some k_ ≠ (v193 : Value).ownBlock ∧ some k_ ≠ (v201 : Value).ownBlock ∧ some k_ ≠ (v207 : Value).ownBlock ∧ k_ ≠ gb181 ∧ k_ ≠ gb182 ∧ k_ ≠ gb197 ∧ k_ ≠ gb205 ∧ k_ ≠ gb211) (.slice A2_0 l2_0.length c2_0) l2_0) := ⟨by (with_reducible repeat (first | apply Kd.V_alloc | apply Kd.V_drewN | apply Kd.V_drew)); exact Kd.V_mono (Kd.V_far (p := ⟨gb211, 1, none⟩) (Kd.V_far (p := ⟨gb211, 0, none⟩) (Kd.V_mono HO_183000.out (fun k_ hk => (⟨hk, hk.2⟩ : _ ∧ k_ ≠ gb211))) (fun _ hk => hk.2) (.int .i64 t209)) (fun _ hk => hk.2) (.int .i64 t210)) (fun _ hk => ⟨hk.1.1.1.1.1.1, ⟨hk.1.1.1.1.1.2.1, ⟨hk.1.1.1.1.2, ⟨hk.1.1.2, ⟨hk.1.1.1.1.1.2.2.1, ⟨hk.1.1.1.1.1.2.2.2.1, ⟨hk.1.1.1.1.1.2.2.2.2, ⟨hk.1.1.1.2, hk.1.2⟩⟩⟩⟩⟩⟩⟩⟩)⟩
            have n2_ : Aside0 (Kd.V (Kd.slice 43 (Kd.slice 47 k47)) 36 ((w50.setCell ⟨gb211, 0, none⟩ (.int .i64 t209)).setCell ⟨gb211, 1, none⟩ (.int .i64 t210)) w.heap.size (fun k_ => ((P2_0_ k_ ∨ P2_1_ k_) ∨ w.heap.size ≤ k_) ∧ some k_ ≠ (v193 : Value).ownBlock ∧ some k_ ≠ (v201 : Value).ownBlock ∧ some k_ ≠ (v207 : Value).ownBlock ∧ k_ ≠ gb181 ∧ k_ ≠ gb182 ∧ k_ ≠ gb197 ∧ k_ ≠ gb205 ∧ k_ ≠ gb211) (.slice A2_1 l2_1.length c2_1) l2_1) := ⟨by (with_reducible repeat (first | apply Kd.V_alloc | apply Kd.V_drewN | apply Kd.V_drew)); exact Kd.V_mono (Kd.V_far (p := ⟨gb211, 1, none⟩) (Kd.V_far (p := ⟨gb211, 0, none⟩) (Kd.V_mono HO_183001.out (fun k_ hk => (⟨hk, hk.2⟩ : _ ∧ k_ ≠ gb211))) (fun _ hk => hk.2) (.int .i64 t209)) (fun _ hk => hk.2) (.int .i64 t210)) (fun _ hk => ⟨hk.1.1.1.1.1.1, ⟨hk.1.1.1.1.1.2.1, ⟨hk.1.1.1.1.2, ⟨hk.1.1.2, ⟨hk.1.1.1.1.1.2.2.1, ⟨hk.1.1.1.1.1.2.2.2.1, ⟨hk.1.1.1.1.1.2.2.2.2, ⟨hk.1.1.1.2, hk.1.2⟩⟩⟩⟩⟩⟩⟩⟩)⟩
            have n3_ : Aside0 (Kd.R k45 45 ((w50.setCell ⟨gb211, 0, none⟩ (.int .i64 t209)).setCell ⟨gb211, 1, none⟩ (.int .i64 t210)) w.heap.size (fun k_ => (w.heap.size ≤ k_) ∧ some k_ ≠ (v193 : Value).ownBlock ∧ some k_ ≠ (v207 : Value).ownBlock) v201 t200) := ⟨by (with_reducible repeat (first | apply Kd.R_alloc | apply Kd.R_drewN | apply Kd.R_drew)); exact Kd.R_mono (Kd.R_far (p := ⟨gb211, 1, none⟩) (Kd.R_far (p := ⟨gb211, 0, none⟩) (Kd.R_types HO202.out BK211.out (by decide)) (fun _ hk => hk.2) (.int .i64 t209)) (fun _ hk => hk.2) (.int .i64 t210)) (fun _ hk => ⟨hk.1.1.1.1, ⟨hk.1.1.2, hk.1.2⟩⟩)⟩
            have n4_ : Aside0 (Kd.R k45 45 ((w50.setCell ⟨gb211, 0, none⟩ (.int .i64 t209)).setCell ⟨gb211, 1, none⟩ (.int .i64 t210)) w.heap.size (fun k_ => (w.heap.size ≤ k_) ∧ some k_ ≠ (v193 : Value).ownBlock ∧ some k_ ≠ (v201 : Value).ownBlock) v207 t206) := ⟨by (with_reducible repeat (first | apply Kd.R_alloc | apply Kd.R_drewN | apply Kd.R_drew)); exact Kd.R_mono (Kd.R_far (p := ⟨gb211, 1, none⟩) (Kd.R_far (p := ⟨gb211, 0, none⟩) (Kd.R_types HO208.out BK211.out (by decide)) (fun _ hk => hk.2) (.int .i64 t209)) (fun _ hk => hk.2) (.int .i64 t210)) (fun _ hk => ⟨hk.1.1.1.1, ⟨hk.1.1.2, hk.1.2⟩⟩)⟩
            have n5_ : Aside0 (((w50.setCell ⟨gb211, 0, none⟩ (.int .i64 t209)).setCell ⟨gb211, 1, none⟩ (.int .i64 t210)).heap[gb181]? = some (.cells #[.int .i64 a0_0, .int .i64 a0_1, .int .i64 a0_2, .int .i64 a0_3, .int .i32 a0_4, .slice A0_5 l0_5.length c0_5, .slice A0_6 l0_6.length c0_6, .slice A0_7 l0_7.length c0_7] 28 (0, 0))) := ⟨by (with_reducible repeat (first | refine blk_drewN ?_ _ | refine blk_drew ?_ | refine blk_alloc ?_ _)); refine blk_far ?_ NB181_211.out _; (with_reducible repeat (first | refine blk_drewN ?_ _ | refine blk_drew ?_ | refine blk_alloc ?_ _)); refine blk_far ?_ NB181_211.out _; (with_reducible repeat (first | refine blk_drewN ?_ _ | refine blk_drew ?_ | refine blk_alloc ?_ _)); exact BK181.out⟩
            have n6_ : Aside0 (((w50.setCell ⟨gb211, 0, none⟩ (.int .i64 t209)).setCell ⟨gb211, 1, none⟩ (.int .i64 t210)).heap[gb182]? = some (.cells #[.slice A2_0 l2_0.length c2_0, .slice A2_1 l2_1.length c2_1] 49 (0, 0))) := ⟨by (with_reducible repeat (first | refine blk_drewN ?_ _ | refine blk_drew ?_ | refine blk_alloc ?_ _)); refine blk_far ?_ NB182_211.out _; (with_reducible repeat (first | refine blk_drewN ?_ _ | refine blk_drew ?_ | refine blk_alloc ?_ _)); refine blk_far ?_ NB182_211.out _; (with_reducible repeat (first | refine blk_drewN ?_ _ | refine blk_drew ?_ | refine blk_alloc ?_ _)); exact BK182.out⟩
            have n7_ : Aside0 (((w50.setCell ⟨gb211, 0, none⟩ (.int .i64 t209)).setCell ⟨gb211, 1, none⟩ (.int .i64 t210)).heap[gb197]? = some (.cells #[.int .i64 t195, .int .i64 t196] 33 (0, 0))) := ⟨by (with_reducible repeat (first | refine blk_drewN ?_ _ | refine blk_drew ?_ | refine blk_alloc ?_ _)); refine blk_far ?_ NB197_211.out _; (with_reducible repeat (first | refine blk_drewN ?_ _ | refine blk_drew ?_ | refine blk_alloc ?_ _)); refine blk_far ?_ NB197_211.out _; (with_reducible repeat (first | refine blk_drewN ?_ _ | refine blk_drew ?_ | refine blk_alloc ?_ _)); exact BK197.out⟩
            have n8_ : Aside0 (((w50.setCell ⟨gb211, 0, none⟩ (.int .i64 t209)).setCell ⟨gb211, 1, none⟩ (.int .i64 t210)).heap[gb205]? = some (.cells #[.int .i64 t203, .int .i64 t204] 33 (0, 0))) := ⟨by (with_reducible repeat (first | refine blk_drewN ?_ _ | refine blk_drew ?_ | refine blk_alloc ?_ _)); refine blk_far ?_ NB205_211.out _; (with_reducible repeat (first | refine blk_drewN ?_ _ | refine blk_drew ?_ | refine blk_alloc ?_ _)); refine blk_far ?_ NB205_211.out _; (with_reducible repeat (first | refine blk_drewN ?_ _ | refine blk_drew ?_ | refine blk_alloc ?_ _)); exact BK205.out⟩
            have n9_ : Aside0 (((w50.setCell ⟨gb211, 0, none⟩ (.int .i64 t209)).setCell ⟨gb211, 1, none⟩ (.int .i64 t210)).heap[gb211]? = some (.cells #[.int .i64 t209, .int .i64 t210] 33 (0, 0))) := ⟨by (with_reducible repeat (first | refine blk_drewN ?_ _ | refine blk_drew ?_ | refine blk_alloc ?_ _)); refine blk_put (cs := #[.int .i64 t209, .int .i64 0]) ?_ 1 _ rfl; (with_reducible repeat (first | refine blk_drewN ?_ _ | refine blk_drew ?_ | refine blk_alloc ?_ _)); refine blk_put (cs := #[.int .i64 0, .int .i64 0]) ?_ 0 _ rfl; (with_reducible repeat (first | refine blk_drewN ?_ _ | refine blk_drew ?_ | refine blk_alloc ?_ _)); exact BK211.out⟩
            have n10_ : Aside0 (Below w.heap.size w ((w50.setCell ⟨gb211, 0, none⟩ (.int .i64 t209)).setCell ⟨gb211, 1, none⟩ (.int .i64 t210))) := ⟨by repeat (first | (with_reducible first | exact HB.out | apply below_alloc | apply pw_below_drewN | apply below_drew1 | refine below_set ?_ GE181.out | refine below_set ?_ GE182.out | refine below_set ?_ GE197.out | refine below_set ?_ GE205.out | refine below_set ?_ GE211.out) | exact HB.out)⟩
            (try clear HO_8)
            (try clear HO_183000)
            (try clear HO_183001)
            (try clear HO202)
            (try clear HO208)
            (try clear BK181)
            (try clear BK182)
            (try clear BK197)
            (try clear BK205)
            (try clear BK211)
            (try clear HB)
            generalize ((w50.setCell ⟨gb211, 0, none⟩ (.int .i64 t209)).setCell ⟨gb211, 1, none⟩ (.int .i64 t210)) = w62 at n0_ n1_ n2_ n3_ n4_ n5_ n6_ n7_ n8_ n9_ n10_ ⊢
            have HO_8 := n0_
            have HO_183000 := n1_
            have HO_183001 := n2_
            have HO202 := n3_
            have HO208 := n4_
            have BK181 := n5_
            have BK182 := n6_
            have BK197 := n7_
            have BK205 := n8_
            have BK211 := n9_
            have HB := n10_
            clear n0_ n1_ n2_ n3_ n4_ n5_ n6_ n7_ n8_ n9_ n10_
            have hnb63 := NB205_181.out
            have hnc63 := NB181_205.out
            have hnb64 := NB205_182.out
            have hnc64 := NB182_205.out
            have hnb65 := NB205_197.out
            have hnc65 := NB197_205.out
            have hnb66 := NB205_211.out
            have hnc66 := NB211_205.out
            have hcz67_0 : w62.cell? ⟨gb205, 0, none⟩ = some (.int .i64 t203) := (blk_cell BK205.out 0).trans rfl
            have hcz67_1 : w62.cell? ⟨gb205, 1, none⟩ = some (.int .i64 t204) := (blk_cell BK205.out 1).trans rfl
            have hfz67_0 := blk_frozen BK205.out 0
            have hfz67_1 := blk_frozen BK205.out 1
            have hnb68 := NB211_181.out
            have hnc68 := NB181_211.out
            have hnb69 := NB211_182.out
            have hnc69 := NB182_211.out
            have hnb70 := NB211_197.out
            have hnc70 := NB197_211.out
            have hcz71_0 : w62.cell? ⟨gb211, 0, none⟩ = some (.int .i64 t209) := (blk_cell BK211.out 0).trans rfl
            have hcz71_1 : w62.cell? ⟨gb211, 1, none⟩ = some (.int .i64 t210) := (blk_cell BK211.out 1).trans rfl
            have hfz71_0 := blk_frozen BK211.out 0
            have hfz71_1 := blk_frozen BK211.out 1
            obtain ⟨Ao72, co72, eo72⟩ := Kd.R_slice HO202.out
            subst eo72
            obtain ⟨Ao73, co73, eo73⟩ := Kd.R_slice HO208.out
            subst eo73
            obtain ⟨Ao74, co74, eo74⟩ := Kd.R_slice HO_8.out
            subst eo74
            have q75 : ((t200.length : Int) : Int) ≤ ((t192.length : Int) : Int) := of_decide_eq_true (by first | (with_reducible assumption) | assumption)
            obtain ⟨i075, hi075, _, hsz75, _⟩ := info_parts info45
            have hroom75 : t192.length ≤ co74 := (Kd.R_reads' HO_8.out).2.1
            have hC75 : Kd.F k45 _ _ Ao74 t192.length t192 := (Kd.V_at (base := w.heap.size) (Kd.V_mono (ok' := (fun k_ => ((((((((P2_0_ k_ ∨ P2_1_ k_) ∨ w.heap.size ≤ k_) ∧ (some k_ ≠ (.slice Ao72 t200.length co72 : Value).ownBlock ∧ some k_ ≠ (.slice Ao73 t206.length co73 : Value).ownBlock)) ∧ k_ ≠ gb181) ∧ k_ ≠ gb182) ∧ k_ ≠ gb197) ∧ k_ ≠ gb205) ∧ k_ ≠ gb211))) (Kd.R_V (Kd.R_types (Kd.R_types (Kd.R_types (Kd.R_types (Kd.R_types (HO_8.out) BK181.out (by decide)) BK182.out (by decide)) BK197.out (by decide)) BK205.out (by decide)) BK211.out (by decide))) (fun k_ hk => ⟨⟨⟨⟨⟨⟨(.inr (hk.1.1.1.1.1.1)), ⟨hk.1.1.1.1.1.2.1, hk.1.1.1.1.1.2.2⟩⟩, hk.1.1.1.1.2⟩, hk.1.1.1.2⟩, hk.1.1.2⟩, hk.1.2⟩, hk.2⟩))).2.2
            have hcut75 := cut_to (P := Try.prog) 30 45 .i64 Try.underlying30 hi075 Ao74 t192.length co74 (t200.length : Int) (of_decide_eq_true (by first | (with_reducible assumption) | assumption)) q75 hroom75
            have hr75 := Kd.F_take (m := ((t200.length : Int) : Int).toNat) hC75 (by omega)
            have hy75 : y212.length = ((t200.length : Int) : Int).toNat := (by rw [Ny212.out, List.length_take]; omega)
            rw [← Ny212.out] at hr75
            rw [← hy75] at hcut75
            have HO216 := Aside0.mk (show Kd.V k45 45 _ w.heap.size _ (.slice Ao74 y212.length co74) y212 from Kd.V_mk (by omega) hr75)
            have HC216 := Aside0.mk (show y212.length ≤ co74 from by omega)
            clear hr75 hC75 hroom75 hi075 hsz75
            have KY75 := Aside0.mk hy75
            clear hy75
            replace q75 := eq_true q75
            go_wp2_with (first | (go_at_call 11; (with_reducible refine (variorumref09_Same.calls kj6 _ _ y212 _ _ t200 t217 _ ?side1 ?side2 ?side3 ?side4 A61.out).mono ?_); (case side1 => repeat (first | exact (Kd.V_reads' HO216.out).2.2 | (with_reducible refine Kd.C_alloc ?_ _) | (with_reducible refine Kd.C_drewN ?_ _) | (with_reducible refine Kd.C_drew ?_))); (case side2 => exact (Kd.V_reads' HO216.out).2.1); (case side3 => repeat (first | exact (Kd.R_reads' HO202.out).2.2 | (with_reducible refine Kd.C_alloc ?_ _) | (with_reducible refine Kd.C_drewN ?_ _) | (with_reducible refine Kd.C_drew ?_))); (case side4 => exact (Kd.R_reads' HO202.out).2.1); rintro e w' ⟨rfl, ⟨nd, rfl⟩⟩))
            go_meet
            case rel => exact ⟨_, (!t217), (by first | rfl | (simp; done) | (simp [*]; done)), H', ⟨by have := HJ6.out; first | omega | exact Nat.le_refl _⟩, ⟨by (with_reducible repeat (first | apply Kd.R_alloc | apply Kd.R_drewN | apply Kd.R_drew)); exact HO_8.out⟩, ⟨by (with_reducible repeat (first | apply Kd.R_alloc | apply Kd.R_drewN | apply Kd.R_drew)); exact HO202.out⟩, ⟨by (with_reducible repeat (first | apply Kd.R_alloc | apply Kd.R_drewN | apply Kd.R_drew)); exact HO208.out⟩, ⟨by (with_reducible repeat (first | apply Kd.V_alloc | apply Kd.V_drewN | apply Kd.V_drew)); exact HO_183000.out⟩, ⟨by (with_reducible repeat (first | apply Kd.V_alloc | apply Kd.V_drewN | apply Kd.V_drew)); exact HO_183001.out⟩, ⟨by (with_reducible repeat (first | refine blk_drewN ?_ _ | refine blk_drew ?_ | refine blk_alloc ?_ _)); exact BK181.out⟩, ⟨by (with_reducible repeat (first | refine blk_drewN ?_ _ | refine blk_drew ?_ | refine blk_alloc ?_ _)); exact BK182.out⟩, ⟨by (with_reducible repeat (first | refine blk_drewN ?_ _ | refine blk_drew ?_ | refine blk_alloc ?_ _)); exact BK197.out⟩, ⟨by (with_reducible repeat (first | refine blk_drewN ?_ _ | refine blk_drew ?_ | refine blk_alloc ?_ _)); exact BK205.out⟩, ⟨by (with_reducible repeat (first | refine blk_drewN ?_ _ | refine blk_drew ?_ | refine blk_alloc ?_ _)); exact BK211.out⟩, ⟨by repeat (first | (with_reducible first | exact HB.out | apply below_alloc | apply pw_below_drewN | apply below_drew1 | refine below_set ?_ GE181.out | refine below_set ?_ GE182.out | refine below_set ?_ GE197.out | refine below_set ?_ GE205.out | refine below_set ?_ GE211.out) | exact HB.out)⟩⟩
           ·rw [if_neg c60] at H
            exact absurd H (by simp)
          ·rw [if_neg c59] at H
           exact absurd H (by simp)
         ·rw [if_neg c58] at H
          have c58b0 : ((wrap64 ((t200.length : Int) + (t206.length : Int))) == (t192.length : Int)) = false := beq_eq_false_iff_ne.mpr c58
          have c58b1 : ((wrap64 ((t200.length : Int) + (t206.length : Int))) != (t192.length : Int)) = true := bne_iff_ne.mpr c58
          have H' := Aside0.mk H
          clear H
          have hnb76 := NB205_181.out
          have hnc76 := NB181_205.out
          have hnb77 := NB205_182.out
          have hnc77 := NB182_205.out
          have hnb78 := NB205_197.out
          have hnc78 := NB197_205.out
          have hnb79 := NB205_211.out
          have hnc79 := NB211_205.out
          have hcz80_0 : w50.cell? ⟨gb205, 0, none⟩ = some (.int .i64 t203) := (blk_cell BK205.out 0).trans rfl
          have hcz80_1 : w50.cell? ⟨gb205, 1, none⟩ = some (.int .i64 t204) := (blk_cell BK205.out 1).trans rfl
          have hfz80_0 := blk_frozen BK205.out 0
          have hfz80_1 := blk_frozen BK205.out 1
          have hnb81 := NB211_181.out
          have hnc81 := NB181_211.out
          have hnb82 := NB211_182.out
          have hnc82 := NB182_211.out
          have hnb83 := NB211_197.out
          have hnc83 := NB197_211.out
          have hcz84_0 : w50.cell? ⟨gb211, 0, none⟩ = some (.int .i64 0) := (blk_cell BK211.out 0).trans rfl
          have hcz84_1 : w50.cell? ⟨gb211, 1, none⟩ = some (.int .i64 0) := (blk_cell BK211.out 1).trans rfl
          have hfz84_0 := blk_frozen BK211.out 0
          have hfz84_1 := blk_frozen BK211.out 1
          obtain ⟨Ao85, co85, eo85⟩ := Kd.R_slice HO202.out
          subst eo85
          obtain ⟨Ao86, co86, eo86⟩ := Kd.R_slice HO208.out
          subst eo86
          obtain ⟨Ao87, co87, eo87⟩ := Kd.R_slice HO_8.out
          subst eo87
          go_wp2
          go_meet
          case rel => exact ⟨_, (true), (by first | rfl | (simp; done) | (simp [*]; done)), H', ⟨by have := HJ6.out; first | omega | exact Nat.le_refl _⟩, ⟨by (with_reducible repeat (first | apply Kd.R_alloc | apply Kd.R_drewN | apply Kd.R_drew)); exact Kd.R_mono (Kd.R_far (p := ⟨gb211, 1, none⟩) (Kd.R_far (p := ⟨gb211, 0, none⟩) (Kd.R_types HO_8.out BK211.out (by decide)) (fun _ hk => hk.2) (.int .i64 t209)) (fun _ hk => hk.2) (.int .i64 t210)) (fun _ hk => ⟨hk.1.1.1, ⟨hk.1.1.2, hk.1.2⟩⟩)⟩, ⟨by (with_reducible repeat (first | apply Kd.R_alloc | apply Kd.R_drewN | apply Kd.R_drew)); exact Kd.R_mono (Kd.R_far (p := ⟨gb211, 1, none⟩) (Kd.R_far (p := ⟨gb211, 0, none⟩) (Kd.R_types HO202.out BK211.out (by decide)) (fun _ hk => hk.2) (.int .i64 t209)) (fun _ hk => hk.2) (.int .i64 t210)) (fun _ hk => ⟨hk.1.1.1.1, ⟨hk.1.1.2, hk.1.2⟩⟩)⟩, ⟨by (with_reducible repeat (first | apply Kd.R_alloc | apply Kd.R_drewN | apply Kd.R_drew)); exact Kd.R_mono (Kd.R_far (p := ⟨gb211, 1, none⟩) (Kd.R_far (p := ⟨gb211, 0, none⟩) (Kd.R_types HO208.out BK211.out (by decide)) (fun _ hk => hk.2) (.int .i64 t209)) (fun _ hk => hk.2) (.int .i64 t210)) (fun _ hk => ⟨hk.1.1.1.1, ⟨hk.1.1.2, hk.1.2⟩⟩)⟩, ⟨by (with_reducible repeat (first | apply Kd.V_alloc | apply Kd.V_drewN | apply Kd.V_drew)); exact Kd.V_mono (Kd.V_far (p := ⟨gb211, 1, none⟩) (Kd.V_far (p := ⟨gb211, 0, none⟩) (Kd.V_mono HO_183000.out (fun k_ hk => (⟨hk, hk.2⟩ : _ ∧ k_ ≠ gb211))) (fun _ hk => hk.2) (.int .i64 t209)) (fun _ hk => hk.2) (.int .i64 t210)) (fun _ hk => ⟨hk.1.1.1.1.1.1, ⟨hk.1.1.1.1.1.2.1, ⟨hk.1.1.1.1.2, ⟨hk.1.1.2, ⟨hk.1.1.1.1.1.2.2.1, ⟨hk.1.1.1.1.1.2.2.2.1, ⟨hk.1.1.1.1.1.2.2.2.2, ⟨hk.1.1.1.2, hk.1.2⟩⟩⟩⟩⟩⟩⟩⟩)⟩, ⟨by (with_reducible repeat (first | apply Kd.V_alloc | apply Kd.V_drewN | apply Kd.V_drew)); exact Kd.V_mono (Kd.V_far (p := ⟨gb211, 1, none⟩) (Kd.V_far (p := ⟨gb211, 0, none⟩) (Kd.V_mono HO_183001.out (fun k_ hk => (⟨hk, hk.2⟩ : _ ∧ k_ ≠ gb211))) (fun _ hk => hk.2) (.int .i64 t209)) (fun _ hk => hk.2) (.int .i64 t210)) (fun _ hk => ⟨hk.1.1.1.1.1.1, ⟨hk.1.1.1.1.1.2.1, ⟨hk.1.1.1.1.2, ⟨hk.1.1.2, ⟨hk.1.1.1.1.1.2.2.1, ⟨hk.1.1.1.1.1.2.2.2.1, ⟨hk.1.1.1.1.1.2.2.2.2, ⟨hk.1.1.1.2, hk.1.2⟩⟩⟩⟩⟩⟩⟩⟩)⟩, ⟨by (with_reducible repeat (first | refine blk_drewN ?_ _ | refine blk_drew ?_ | refine blk_alloc ?_ _)); refine blk_far ?_ NB181_211.out _; (with_reducible repeat (first | refine blk_drewN ?_ _ | refine blk_drew ?_ | refine blk_alloc ?_ _)); refine blk_far ?_ NB181_211.out _; (with_reducible repeat (first | refine blk_drewN ?_ _ | refine blk_drew ?_ | refine blk_alloc ?_ _)); exact BK181.out⟩, ⟨by (with_reducible repeat (first | refine blk_drewN ?_ _ | refine blk_drew ?_ | refine blk_alloc ?_ _)); refine blk_far ?_ NB182_211.out _; (with_reducible repeat (first | refine blk_drewN ?_ _ | refine blk_drew ?_ | refine blk_alloc ?_ _)); refine blk_far ?_ NB182_211.out _; (with_reducible repeat (first | refine blk_drewN ?_ _ | refine blk_drew ?_ | refine blk_alloc ?_ _)); exact BK182.out⟩, ⟨by (with_reducible repeat (first | refine blk_drewN ?_ _ | refine blk_drew ?_ | refine blk_alloc ?_ _)); refine blk_far ?_ NB197_211.out _; (with_reducible repeat (first | refine blk_drewN ?_ _ | refine blk_drew ?_ | refine blk_alloc ?_ _)); refine blk_far ?_ NB197_211.out _; (with_reducible repeat (first | refine blk_drewN ?_ _ | refine blk_drew ?_ | refine blk_alloc ?_ _)); exact BK197.out⟩, ⟨by (with_reducible repeat (first | refine blk_drewN ?_ _ | refine blk_drew ?_ | refine blk_alloc ?_ _)); refine blk_far ?_ NB205_211.out _; (with_reducible repeat (first | refine blk_drewN ?_ _ | refine blk_drew ?_ | refine blk_alloc ?_ _)); refine blk_far ?_ NB205_211.out _; (with_reducible repeat (first | refine blk_drewN ?_ _ | refine blk_drew ?_ | refine blk_alloc ?_ _)); exact BK205.out⟩, ⟨by (with_reducible repeat (first | refine blk_drewN ?_ _ | refine blk_drew ?_ | refine blk_alloc ?_ _)); refine blk_put (cs := #[.int .i64 t209, .int .i64 0]) ?_ 1 _ rfl; (with_reducible repeat (first | refine blk_drewN ?_ _ | refine blk_drew ?_ | refine blk_alloc ?_ _)); refine blk_put (cs := #[.int .i64 0, .int .i64 0]) ?_ 0 _ rfl; (with_reducible repeat (first | refine blk_drewN ?_ _ | refine blk_drew ?_ | refine blk_alloc ?_ _)); exact BK211.out⟩, ⟨by repeat (first | (with_reducible first | exact HB.out | apply below_alloc | apply pw_below_drewN | apply below_drew1 | refine below_set ?_ GE181.out | refine below_set ?_ GE182.out | refine below_set ?_ GE197.out | refine below_set ?_ GE205.out | refine below_set ?_ GE211.out) | exact HB.out)⟩⟩
        ·rw [if_neg c57] at H
         have c57b0 : (t209 == 0) = false := beq_eq_false_iff_ne.mpr c57
         have c57b1 : (t209 != 0) = true := bne_iff_ne.mpr c57
         have H' := Aside0.mk H
         clear H
         have hnb88 := NB205_181.out
         have hnc88 := NB181_205.out
         have hnb89 := NB205_182.out
         have hnc89 := NB182_205.out
         have hnb90 := NB205_197.out
         have hnc90 := NB197_205.out
         have hnb91 := NB205_211.out
         have hnc91 := NB211_205.out
         have hcz92_0 : w50.cell? ⟨gb205, 0, none⟩ = some (.int .i64 t203) := (blk_cell BK205.out 0).trans rfl
         have hcz92_1 : w50.cell? ⟨gb205, 1, none⟩ = some (.int .i64 t204) := (blk_cell BK205.out 1).trans rfl
         have hfz92_0 := blk_frozen BK205.out 0
         have hfz92_1 := blk_frozen BK205.out 1
         have hnb93 := NB211_181.out
         have hnc93 := NB181_211.out
         have hnb94 := NB211_182.out
         have hnc94 := NB182_211.out
         have hnb95 := NB211_197.out
         have hnc95 := NB197_211.out
         have hcz96_0 : w50.cell? ⟨gb211, 0, none⟩ = some (.int .i64 0) := (blk_cell BK211.out 0).trans rfl
         have hcz96_1 : w50.cell? ⟨gb211, 1, none⟩ = some (.int .i64 0) := (blk_cell BK211.out 1).trans rfl
         have hfz96_0 := blk_frozen BK211.out 0
         have hfz96_1 := blk_frozen BK211.out 1
         go_wp2
         go_meet
         case rel => exact ⟨_, (true), (by first | rfl | (simp; done) | (simp [*]; done)), H', ⟨by have := HJ6.out; first | omega | exact Nat.le_refl _⟩, ⟨by (with_reducible repeat (first | apply Kd.R_alloc | apply Kd.R_drewN | apply Kd.R_drew)); exact Kd.R_mono (Kd.R_far (p := ⟨gb211, 1, none⟩) (Kd.R_far (p := ⟨gb211, 0, none⟩) (Kd.R_types HO_8.out BK211.out (by decide)) (fun _ hk => hk.2) (.int .i64 t209)) (fun _ hk => hk.2) (.int .i64 t210)) (fun _ hk => ⟨hk.1.1.1, ⟨hk.1.1.2, hk.1.2⟩⟩)⟩, ⟨by (with_reducible repeat (first | apply Kd.R_alloc | apply Kd.R_drewN | apply Kd.R_drew)); exact Kd.R_mono (Kd.R_far (p := ⟨gb211, 1, none⟩) (Kd.R_far (p := ⟨gb211, 0, none⟩) (Kd.R_types HO202.out BK211.out (by decide)) (fun _ hk => hk.2) (.int .i64 t209)) (fun _ hk => hk.2) (.int .i64 t210)) (fun _ hk => ⟨hk.1.1.1.1, ⟨hk.1.1.2, hk.1.2⟩⟩)⟩, ⟨by (with_reducible repeat (first | apply Kd.R_alloc | apply Kd.R_drewN | apply Kd.R_drew)); exact Kd.R_mono (Kd.R_far (p := ⟨gb211, 1, none⟩) (Kd.R_far (p := ⟨gb211, 0, none⟩) (Kd.R_types HO208.out BK211.out (by decide)) (fun _ hk => hk.2) (.int .i64 t209)) (fun _ hk => hk.2) (.int .i64 t210)) (fun _ hk => ⟨hk.1.1.1.1, ⟨hk.1.1.2, hk.1.2⟩⟩)⟩, ⟨by (with_reducible repeat (first | apply Kd.V_alloc | apply Kd.V_drewN | apply Kd.V_drew)); exact Kd.V_mono (Kd.V_far (p := ⟨gb211, 1, none⟩) (Kd.V_far (p := ⟨gb211, 0, none⟩) (Kd.V_mono HO_183000.out (fun k_ hk => (⟨hk, hk.2⟩ : _ ∧ k_ ≠ gb211))) (fun _ hk => hk.2) (.int .i64 t209)) (fun _ hk => hk.2) (.int .i64 t210)) (fun _ hk => ⟨hk.1.1.1.1.1.1, ⟨hk.1.1.1.1.1.2.1, ⟨hk.1.1.1.1.2, ⟨hk.1.1.2, ⟨hk.1.1.1.1.1.2.2.1, ⟨hk.1.1.1.1.1.2.2.2.1, ⟨hk.1.1.1.1.1.2.2.2.2, ⟨hk.1.1.1.2, hk.1.2⟩⟩⟩⟩⟩⟩⟩⟩)⟩, ⟨by (with_reducible repeat (first | apply Kd.V_alloc | apply Kd.V_drewN | apply Kd.V_drew)); exact Kd.V_mono (Kd.V_far (p := ⟨gb211, 1, none⟩) (Kd.V_far (p := ⟨gb211, 0, none⟩) (Kd.V_mono HO_183001.out (fun k_ hk => (⟨hk, hk.2⟩ : _ ∧ k_ ≠ gb211))) (fun _ hk => hk.2) (.int .i64 t209)) (fun _ hk => hk.2) (.int .i64 t210)) (fun _ hk => ⟨hk.1.1.1.1.1.1, ⟨hk.1.1.1.1.1.2.1, ⟨hk.1.1.1.1.2, ⟨hk.1.1.2, ⟨hk.1.1.1.1.1.2.2.1, ⟨hk.1.1.1.1.1.2.2.2.1, ⟨hk.1.1.1.1.1.2.2.2.2, ⟨hk.1.1.1.2, hk.1.2⟩⟩⟩⟩⟩⟩⟩⟩)⟩, ⟨by (with_reducible repeat (first | refine blk_drewN ?_ _ | refine blk_drew ?_ | refine blk_alloc ?_ _)); refine blk_far ?_ NB181_211.out _; (with_reducible repeat (first | refine blk_drewN ?_ _ | refine blk_drew ?_ | refine blk_alloc ?_ _)); refine blk_far ?_ NB181_211.out _; (with_reducible repeat (first | refine blk_drewN ?_ _ | refine blk_drew ?_ | refine blk_alloc ?_ _)); exact BK181.out⟩, ⟨by (with_reducible repeat (first | refine blk_drewN ?_ _ | refine blk_drew ?_ | refine blk_alloc ?_ _)); refine blk_far ?_ NB182_211.out _; (with_reducible repeat (first | refine blk_drewN ?_ _ | refine blk_drew ?_ | refine blk_alloc ?_ _)); refine blk_far ?_ NB182_211.out _; (with_reducible repeat (first | refine blk_drewN ?_ _ | refine blk_drew ?_ | refine blk_alloc ?_ _)); exact BK182.out⟩, ⟨by (with_reducible repeat (first | refine blk_drewN ?_ _ | refine blk_drew ?_ | refine blk_alloc ?_ _)); refine blk_far ?_ NB197_211.out _; (with_reducible repeat (first | refine blk_drewN ?_ _ | refine blk_drew ?_ | refine blk_alloc ?_ _)); refine blk_far ?_ NB197_211.out _; (with_reducible repeat (first | refine blk_drewN ?_ _ | refine blk_drew ?_ | refine blk_alloc ?_ _)); exact BK197.out⟩, ⟨by (with_reducible repeat (first | refine blk_drewN ?_ _ | refine blk_drew ?_ | refine blk_alloc ?_ _)); refine blk_far ?_ NB205_211.out _; (with_reducible repeat (first | refine blk_drewN ?_ _ | refine blk_drew ?_ | refine blk_alloc ?_ _)); refine blk_far ?_ NB205_211.out _; (with_reducible repeat (first | refine blk_drewN ?_ _ | refine blk_drew ?_ | refine blk_alloc ?_ _)); exact BK205.out⟩, ⟨by (with_reducible repeat (first | refine blk_drewN ?_ _ | refine blk_drew ?_ | refine blk_alloc ?_ _)); refine blk_put (cs := #[.int .i64 t209, .int .i64 0]) ?_ 1 _ rfl; (with_reducible repeat (first | refine blk_drewN ?_ _ | refine blk_drew ?_ | refine blk_alloc ?_ _)); refine blk_put (cs := #[.int .i64 0, .int .i64 0]) ?_ 0 _ rfl; (with_reducible repeat (first | refine blk_drewN ?_ _ | refine blk_drew ?_ | refine blk_alloc ?_ _)); exact BK211.out⟩, ⟨by repeat (first | (with_reducible first | exact HB.out | apply below_alloc | apply pw_below_drewN | apply below_drew1 | refine below_set ?_ GE181.out | refine below_set ?_ GE182.out | refine below_set ?_ GE197.out | refine below_set ?_ GE205.out | refine below_set ?_ GE211.out) | exact HB.out)⟩⟩
       ·rw [if_neg c56] at H
        have c56b0 : (t203 == 0) = false := beq_eq_false_iff_ne.mpr c56
        have c56b1 : (t203 != 0) = true := bne_iff_ne.mpr c56
        (first | rw [c56b0] | (simp only [i64_w, i32_w]; rw [c56b0]) | skip)
        have H' := Aside0.mk H
        clear H
        have hnb97 := NB205_181.out
        have hnc97 := NB181_205.out
        have hnb98 := NB205_182.out
        have hnc98 := NB182_205.out
        have hnb99 := NB205_197.out
        have hnc99 := NB197_205.out
        have hnb100 := NB205_211.out
        have hnc100 := NB211_205.out
        have hcz101_0 : w50.cell? ⟨gb205, 0, none⟩ = some (.int .i64 t203) := (blk_cell BK205.out 0).trans rfl
        have hcz101_1 : w50.cell? ⟨gb205, 1, none⟩ = some (.int .i64 t204) := (blk_cell BK205.out 1).trans rfl
        have hfz101_0 := blk_frozen BK205.out 0
        have hfz101_1 := blk_frozen BK205.out 1
        go_wp2
        go_meet
        case rel => exact ⟨_, (true), (by first | rfl | (simp; done) | (simp [*]; done)), H', ⟨by have := HJ6.out; first | omega | exact Nat.le_refl _⟩, ⟨by (with_reducible repeat (first | apply Kd.R_alloc | apply Kd.R_drewN | apply Kd.R_drew)); exact Kd.R_mono (Kd.R_far (p := ⟨gb211, 1, none⟩) (Kd.R_far (p := ⟨gb211, 0, none⟩) (Kd.R_types HO_8.out BK211.out (by decide)) (fun _ hk => hk.2) (.int .i64 t209)) (fun _ hk => hk.2) (.int .i64 t210)) (fun _ hk => ⟨hk.1.1.1, ⟨hk.1.1.2, hk.1.2⟩⟩)⟩, ⟨by (with_reducible repeat (first | apply Kd.R_alloc | apply Kd.R_drewN | apply Kd.R_drew)); exact Kd.R_mono (Kd.R_far (p := ⟨gb211, 1, none⟩) (Kd.R_far (p := ⟨gb211, 0, none⟩) (Kd.R_types HO202.out BK211.out (by decide)) (fun _ hk => hk.2) (.int .i64 t209)) (fun _ hk => hk.2) (.int .i64 t210)) (fun _ hk => ⟨hk.1.1.1.1, ⟨hk.1.1.2, hk.1.2⟩⟩)⟩, ⟨by (with_reducible repeat (first | apply Kd.R_alloc | apply Kd.R_drewN | apply Kd.R_drew)); exact Kd.R_mono (Kd.R_far (p := ⟨gb211, 1, none⟩) (Kd.R_far (p := ⟨gb211, 0, none⟩) (Kd.R_types HO208.out BK211.out (by decide)) (fun _ hk => hk.2) (.int .i64 t209)) (fun _ hk => hk.2) (.int .i64 t210)) (fun _ hk => ⟨hk.1.1.1.1, ⟨hk.1.1.2, hk.1.2⟩⟩)⟩, ⟨by (with_reducible repeat (first | apply Kd.V_alloc | apply Kd.V_drewN | apply Kd.V_drew)); exact Kd.V_mono (Kd.V_far (p := ⟨gb211, 1, none⟩) (Kd.V_far (p := ⟨gb211, 0, none⟩) (Kd.V_mono HO_183000.out (fun k_ hk => (⟨hk, hk.2⟩ : _ ∧ k_ ≠ gb211))) (fun _ hk => hk.2) (.int .i64 t209)) (fun _ hk => hk.2) (.int .i64 t210)) (fun _ hk => ⟨hk.1.1.1.1.1.1, ⟨hk.1.1.1.1.1.2.1, ⟨hk.1.1.1.1.2, ⟨hk.1.1.2, ⟨hk.1.1.1.1.1.2.2.1, ⟨hk.1.1.1.1.1.2.2.2.1, ⟨hk.1.1.1.1.1.2.2.2.2, ⟨hk.1.1.1.2, hk.1.2⟩⟩⟩⟩⟩⟩⟩⟩)⟩, ⟨by (with_reducible repeat (first | apply Kd.V_alloc | apply Kd.V_drewN | apply Kd.V_drew)); exact Kd.V_mono (Kd.V_far (p := ⟨gb211, 1, none⟩) (Kd.V_far (p := ⟨gb211, 0, none⟩) (Kd.V_mono HO_183001.out (fun k_ hk => (⟨hk, hk.2⟩ : _ ∧ k_ ≠ gb211))) (fun _ hk => hk.2) (.int .i64 t209)) (fun _ hk => hk.2) (.int .i64 t210)) (fun _ hk => ⟨hk.1.1.1.1.1.1, ⟨hk.1.1.1.1.1.2.1, ⟨hk.1.1.1.1.2, ⟨hk.1.1.2, ⟨hk.1.1.1.1.1.2.2.1, ⟨hk.1.1.1.1.1.2.2.2.1, ⟨hk.1.1.1.1.1.2.2.2.2, ⟨hk.1.1.1.2, hk.1.2⟩⟩⟩⟩⟩⟩⟩⟩)⟩, ⟨by (with_reducible repeat (first | refine blk_drewN ?_ _ | refine blk_drew ?_ | refine blk_alloc ?_ _)); refine blk_far ?_ NB181_211.out _; (with_reducible repeat (first | refine blk_drewN ?_ _ | refine blk_drew ?_ | refine blk_alloc ?_ _)); refine blk_far ?_ NB181_211.out _; (with_reducible repeat (first | refine blk_drewN ?_ _ | refine blk_drew ?_ | refine blk_alloc ?_ _)); exact BK181.out⟩, ⟨by (with_reducible repeat (first | refine blk_drewN ?_ _ | refine blk_drew ?_ | refine blk_alloc ?_ _)); refine blk_far ?_ NB182_211.out _; (with_reducible repeat (first | refine blk_drewN ?_ _ | refine blk_drew ?_ | refine blk_alloc ?_ _)); refine blk_far ?_ NB182_211.out _; (with_reducible repeat (first | refine blk_drewN ?_ _ | refine blk_drew ?_ | refine blk_alloc ?_ _)); exact BK182.out⟩, ⟨by (with_reducible repeat (first | refine blk_drewN ?_ _ | refine blk_drew ?_ | refine blk_alloc ?_ _)); refine blk_far ?_ NB197_211.out _; (with_reducible repeat (first | refine blk_drewN ?_ _ | refine blk_drew ?_ | refine blk_alloc ?_ _)); refine blk_far ?_ NB197_211.out _; (with_reducible repeat (first | refine blk_drewN ?_ _ | refine blk_drew ?_ | refine blk_alloc ?_ _)); exact BK197.out⟩, ⟨by (with_reducible repeat (first | refine blk_drewN ?_ _ | refine blk_drew ?_ | refine blk_alloc ?_ _)); refine blk_far ?_ NB205_211.out _; (with_reducible repeat (first | refine blk_drewN ?_ _ | refine blk_drew ?_ | refine blk_alloc ?_ _)); refine blk_far ?_ NB205_211.out _; (with_reducible repeat (first | refine blk_drewN ?_ _ | refine blk_drew ?_ | refine blk_alloc ?_ _)); exact BK205.out⟩, ⟨by (with_reducible repeat (first | refine blk_drewN ?_ _ | refine blk_drew ?_ | refine blk_alloc ?_ _)); refine blk_put (cs := #[.int .i64 t209, .int .i64 0]) ?_ 1 _ rfl; (with_reducible repeat (first | refine blk_drewN ?_ _ | refine blk_drew ?_ | refine blk_alloc ?_ _)); refine blk_put (cs := #[.int .i64 0, .int .i64 0]) ?_ 0 _ rfl; (with_reducible repeat (first | refine blk_drewN ?_ _ | refine blk_drew ?_ | refine blk_alloc ?_ _)); exact BK211.out⟩, ⟨by repeat (first | (with_reducible first | exact HB.out | apply below_alloc | apply pw_below_drewN | apply below_drew1 | refine below_set ?_ GE181.out | refine below_set ?_ GE182.out | refine below_set ?_ GE197.out | refine below_set ?_ GE205.out | refine below_set ?_ GE211.out) | exact HB.out)⟩⟩
      case rest =>
       clear HC35
       try clear c1
       try clear c2
       try clear p2
       try clear c3
       try clear c4
       try clear c5
       try clear c6
       try clear p6
       try clear c7
       try clear q7
       try clear c8
       try clear c9
       try clear c10
       try clear c15
       try clear c20
       try clear c21
       try clear c24
       try clear c26
       try clear c27
       try clear c30
       try clear c36
       try clear c37
       try clear c39
       try clear c43
       try clear c44
       try clear c45
       try clear c51
       try clear c52
       try clear c53
       try clear c54
       try clear c56
       try clear c56b0
       try clear c56b1
       try clear c57
       try clear c57b0
       try clear c57b1
       try clear c58
       try clear c58b0
       try clear c58b1
       try clear c59
       try clear c59b0
       try clear c59b1
       try clear c60
       try clear c60b0
       try clear c60b1
       try clear c63
       try clear c64
       try clear p64
       try clear c65
       try clear c66
       try clear c68
       try clear c69
       try clear c70
       try clear q75
       try clear c76
       try clear c77
       try clear c78
       try clear c79
       try clear c81
       try clear c82
       try clear c83
       try clear c88
       try clear c89
       try clear c90
       try clear c91
       try clear c93
       try clear c94
       try clear c95
       try clear c97
       try clear c98
       try clear c99
       try clear c100
       try clear hcz101_0
       try clear hcz101_1
       try clear hcz16_0
       try clear hcz16_1
       try clear hcz16_2
       try clear hcz16_3
       try clear hcz16_4
       try clear hcz16_5
       try clear hcz16_6
       try clear hcz16_7
       try clear hcz22_0
       try clear hcz22_1
       try clear hcz28_0
       try clear hcz28_1
       try clear hcz38_0
       try clear hcz38_1
       try clear hcz38_2
       try clear hcz38_3
       try clear hcz38_4
       try clear hcz38_5
       try clear hcz38_6
       try clear hcz38_7
       try clear hcz40_0
       try clear hcz40_1
       try clear hcz46_0
       try clear hcz46_1
       try clear hcz47_0
       try clear hcz47_1
       try clear hcz47_2
       try clear hcz47_3
       try clear hcz47_4
       try clear hcz47_5
       try clear hcz47_6
       try clear hcz47_7
       try clear hcz48_0
       try clear hcz48_1
       try clear hcz55_0
       try clear hcz55_1
       try clear hcz67_0
       try clear hcz67_1
       try clear hcz71_0
       try clear hcz71_1
       try clear hcz80_0
       try clear hcz80_1
       try clear hcz84_0
       try clear hcz84_1
       try clear hcz92_0
       try clear hcz92_1
       try clear hcz96_0
       try clear hcz96_1
       try clear hfz101_0
       try clear hfz101_1
       try clear hfz16_0
       try clear hfz16_1
       try clear hfz16_2
       try clear hfz16_3
       try clear hfz16_4
       try clear hfz16_5
       try clear hfz16_6
       try clear hfz16_7
       try clear hfz22_0
       try clear hfz22_1
       try clear hfz28_0
       try clear hfz28_1
       try clear hfz38_0
       try clear hfz38_1
       try clear hfz38_2
       try clear hfz38_3
       try clear hfz38_4
       try clear hfz38_5
       try clear hfz38_6
       try clear hfz38_7
       try clear hfz40_0
       try clear hfz40_1
       try clear hfz46_0
       try clear hfz46_1
       try clear hfz47_0
       try clear hfz47_1
       try clear hfz47_2
       try clear hfz47_3
       try clear hfz47_4
       try clear hfz47_5
       try clear hfz47_6
       try clear hfz47_7
       try clear hfz48_0
       try clear hfz48_1
       try clear hfz55_0
       try clear hfz55_1
       try clear hfz67_0
       try clear hfz67_1
       try clear hfz71_0
       try clear hfz71_1
       try clear hfz80_0
       try clear hfz80_1
       try clear hfz84_0
       try clear hfz84_1
       try clear hfz92_0
       try clear hfz92_1
       try clear hfz96_0
       try clear hfz96_1
       try clear p2
       try clear q75
       obtain ⟨kq, x78_34, rfl, HA, HJ34, HO_8, HO_10, HO_12, HO_183000, HO_183001, BK181, BK182, BK197, BK205, BK211, HB⟩ := hcut
       cases kq with
       | zero => exact absurd HA.out (by simp [variorumlaw09_ItemParts.j1])
       | succ kj34 =>
        have H := HA.out
        clear HA
        simp only [variorumlaw09_ItemParts.j1] at H
        by_cases c102 : x78_34 = true
        ·subst c102
         have H1 : (none) = some r := by rw [if_pos rfl] at H; exact H
         clear H
         have H := H1
         clear H1
         exact absurd H (by simp)
        ·replace c102 := Bool.eq_false_iff.mpr c102
         subst c102
         have H1 : ((item_Boxes.f kj34 t200).bind fun t218 => ((item_Boxes.f kj34 t206).bind fun t221 => ((item_Boxes.f kj34 t192).bind fun t224 => (if (wrap64 ((t218.length : Int) + (t221.length : Int))) = (t224.length : Int) then (if 0 ≤ (t200.length : Int) then (if (t200.length : Int) ≤ (t192.length : Int) then ((item_May.f kj34 (t192.drop ((t200.length : Int) : Int).toNat)).bind fun t232 => (some t232)) else (none)) else (none)) else (none))))) = some r := by rw [if_neg (show ¬ (false = true) by decide)] at H; exact H
         clear H
         have H := H1
         clear H1
         replace H := Option.bind_eq_some_iff.mp H
         obtain ⟨t218, A1030, H⟩ := H
         replace H : ((item_Boxes.f kj34 t206).bind fun t221 => ((item_Boxes.f kj34 t192).bind fun t224 => (if (wrap64 ((t218.length : Int) + (t221.length : Int))) = (t224.length : Int) then (if 0 ≤ (t200.length : Int) then (if (t200.length : Int) ≤ (t192.length : Int) then ((item_May.f kj34 (t192.drop ((t200.length : Int) : Int).toNat)).bind fun t232 => (some t232)) else (none)) else (none)) else (none)))) = some r := H
         have A103 := Aside0.mk A1030
         clear A1030
         replace H := Option.bind_eq_some_iff.mp H
         obtain ⟨t221, A1040, H⟩ := H
         replace H : ((item_Boxes.f kj34 t192).bind fun t224 => (if (wrap64 ((t218.length : Int) + (t221.length : Int))) = (t224.length : Int) then (if 0 ≤ (t200.length : Int) then (if (t200.length : Int) ≤ (t192.length : Int) then ((item_May.f kj34 (t192.drop ((t200.length : Int) : Int).toNat)).bind fun t232 => (some t232)) else (none)) else (none)) else (none))) = some r := H
         have A104 := Aside0.mk A1040
         clear A1040
         replace H := Option.bind_eq_some_iff.mp H
         obtain ⟨t224, A1050, H⟩ := H
         replace H : (if (wrap64 ((t218.length : Int) + (t221.length : Int))) = (t224.length : Int) then (if 0 ≤ (t200.length : Int) then (if (t200.length : Int) ≤ (t192.length : Int) then ((item_May.f kj34 (t192.drop ((t200.length : Int) : Int).toNat)).bind fun t232 => (some t232)) else (none)) else (none)) else (none)) = some r := H
         have A105 := Aside0.mk A1050
         clear A1050
         by_cases c106 : (wrap64 ((t218.length : Int) + (t221.length : Int))) = (t224.length : Int)
         ·rw [if_pos c106] at H
          have c106b0 : ((wrap64 ((t218.length : Int) + (t221.length : Int))) == (t224.length : Int)) = true := beq_iff_eq.mpr c106
          have c106b1 : ((wrap64 ((t218.length : Int) + (t221.length : Int))) != (t224.length : Int)) = false := bne_eq_false_iff_eq.mpr c106
          clear c106
          by_cases c107 : 0 ≤ (t200.length : Int)
          ·rw [if_pos c107] at H
           have c107b0 := eq_true c107
           have c107b1 : decide (0 ≤ (t200.length : Int)) = true := decide_eq_true c107
           clear c107
           by_cases c108 : (t200.length : Int) ≤ (t192.length : Int)
           ·rw [if_pos c108] at H
            have c108b0 := eq_true c108
            have c108b1 : decide ((t200.length : Int) ≤ (t192.length : Int)) = true := decide_eq_true c108
            clear c108
            obtain ⟨y227, hy227⟩ : ∃ y_ : List (S45), y_ = (t192.drop ((t200.length : Int) : Int).toNat) := ⟨_, rfl⟩
            replace H : ((item_May.f kj34 y227).bind fun t232 => (some t232)) = some r := by first | (rw [hy227]; with_reducible exact H) | (have H2_ := (Option.bind_some _ _).symm.trans H; rw [hy227]; with_reducible exact H2_) | (have H2_ := (Option.bind_some _ _).symm.trans H; with_reducible exact H2_) | with_reducible exact H | (rw [hy227]; exact H) | exact H
            have Ny227 := Aside0.mk hy227
            clear hy227
            replace H := Option.bind_eq_some_iff.mp H
            obtain ⟨t232, A1090, H⟩ := H
            replace H : (some t232) = some r := H
            have A109 := Aside0.mk A1090
            clear A1090
            obtain rfl := Option.some.inj H
            obtain ⟨Ao110, co110, eo110⟩ := Kd.R_slice HO_10.out
            subst eo110
            go_wp2_with (first | ((with_reducible refine gate_callee (f := 14) rfl ?_); refine goesL_ (some 80) rfl rfl Try.func14 (by kernel_rfl) rfl #[.slice Ao110 t200.length co110] rfl (by (try simp only [List.map_toArray, List.map_cons, List.map_nil]); first | done | rfl | (simp only [List.length_drop, List.length_take]; rfl) | (simp only [*]; first | done | rfl)) ?_; (with_reducible refine (item_Boxes.calls kj34 _ _ t200 t218 _ ?side1 ?side2 A103.out).mono ?_); (case side1 => repeat (first | exact (Kd.R_reads' HO_10.out).2.2 | (with_reducible refine Kd.C_alloc ?_ _) | (with_reducible refine Kd.C_drewN ?_ _) | (with_reducible refine Kd.C_drew ?_))); (case side2 => exact (Kd.R_reads' HO_10.out).2.1); rintro e w111 ⟨v219, rfl, ho0, hb⟩; refine ⟨_, rfl, ?_⟩; have n0_ := Aside0.mk (Kd.R_elder' (by (with_reducible repeat (first | apply Kd.R_alloc | apply Kd.R_drewN | apply Kd.R_drew)); exact HO_8.out) (Kd.R_base ho0) hb); have n1_ := Aside0.mk (Kd.R_elder' (by (with_reducible repeat (first | apply Kd.R_alloc | apply Kd.R_drewN | apply Kd.R_drew)); exact HO_10.out) (Kd.R_base ho0) hb); have n2_ := Aside0.mk (Kd.R_elder' (by (with_reducible repeat (first | apply Kd.R_alloc | apply Kd.R_drewN | apply Kd.R_drew)); exact HO_12.out) (Kd.R_base ho0) hb); have n3_ := Aside0.mk (Kd.V_elder' (by (with_reducible repeat (first | apply Kd.V_alloc | apply Kd.V_drewN | apply Kd.V_drew)); exact HO_183000.out) (Kd.R_base ho0) hb); have n4_ := Aside0.mk (Kd.V_elder' (by (with_reducible repeat (first | apply Kd.V_alloc | apply Kd.V_drewN | apply Kd.V_drew)); exact HO_183001.out) (Kd.R_base ho0) hb); have n5_ := Aside0.mk (Kd.R_lower (Kd.R_new' (Kd.R_new' (Kd.R_new' (Kd.R_newM (M := fun k_ => (w.heap.size ≤ k_)) ho0 (below_size (by repeat (first | (with_reducible first | exact HB.out | apply below_alloc | apply pw_below_drewN | apply below_drew1 | refine below_set ?_ GE181.out | refine below_set ?_ GE182.out | refine below_set ?_ GE197.out | refine below_set ?_ GE205.out | refine below_set ?_ GE211.out) | exact HB.out))) (fun k_ h_ => h_)) (Kd.R_lt (by (with_reducible repeat (first | apply Kd.R_alloc | apply Kd.R_drewN | apply Kd.R_drew)); exact HO_8.out))) (Kd.R_lt (by (with_reducible repeat (first | apply Kd.R_alloc | apply Kd.R_drewN | apply Kd.R_drew)); exact HO_10.out))) (Kd.R_lt (by (with_reducible repeat (first | apply Kd.R_alloc | apply Kd.R_drewN | apply Kd.R_drew)); exact HO_12.out))) (below_size (by repeat (first | (with_reducible first | exact HB.out | apply below_alloc | apply pw_below_drewN | apply below_drew1 | refine below_set ?_ GE181.out | refine below_set ?_ GE182.out | refine below_set ?_ GE197.out | refine below_set ?_ GE205.out | refine below_set ?_ GE211.out) | exact HB.out)))); have n6_ := Aside0.mk (blk_below (g := gb181) (o := .cells #[.int .i64 a0_0, .int .i64 a0_1, .int .i64 a0_2, .int .i64 a0_3, .int .i32 a0_4, .slice A0_5 l0_5.length c0_5, .slice A0_6 l0_6.length c0_6, .slice A0_7 l0_7.length c0_7] 28 (0, 0)) (by (with_reducible repeat (first | refine blk_drewN ?_ _ | refine blk_drew ?_ | refine blk_alloc ?_ _)); exact BK181.out) hb); have n7_ := Aside0.mk (blk_below (g := gb182) (o := .cells #[.slice A2_0 l2_0.length c2_0, .slice A2_1 l2_1.length c2_1] 49 (0, 0)) (by (with_reducible repeat (first | refine blk_drewN ?_ _ | refine blk_drew ?_ | refine blk_alloc ?_ _)); exact BK182.out) hb); have n8_ := Aside0.mk (blk_below (g := gb197) (o := .cells #[.int .i64 t195, .int .i64 t196] 33 (0, 0)) (by (with_reducible repeat (first | refine blk_drewN ?_ _ | refine blk_drew ?_ | refine blk_alloc ?_ _)); exact BK197.out) hb); have n9_ := Aside0.mk (blk_below (g := gb205) (o := .cells #[.int .i64 t203, .int .i64 t204] 33 (0, 0)) (by (with_reducible repeat (first | refine blk_drewN ?_ _ | refine blk_drew ?_ | refine blk_alloc ?_ _)); exact BK205.out) hb); have n10_ := Aside0.mk (blk_below (g := gb211) (o := .cells #[.int .i64 t209, .int .i64 t210] 33 (0, 0)) (by (with_reducible repeat (first | refine blk_drewN ?_ _ | refine blk_drew ?_ | refine blk_alloc ?_ _)); exact BK211.out) hb); have n11_ := Aside0.mk (below_step (by repeat (first | (with_reducible first | exact HB.out | apply below_alloc | apply pw_below_drewN | apply below_drew1 | refine below_set ?_ GE181.out | refine below_set ?_ GE182.out | refine below_set ?_ GE197.out | refine below_set ?_ GE205.out | refine below_set ?_ GE211.out) | exact HB.out)) hb); clear HO_8; clear HO_10; clear HO_12; clear HO_183000; clear HO_183001; clear BK181; clear BK182; clear BK197; clear BK205; clear BK211; clear HB; have HO_8 := n0_; have HO_10 := n1_; have HO_12 := n2_; have HO_183000 := n3_; have HO_183001 := n4_; have HO220 := n5_; have BK181 := n6_; have BK182 := n7_; have BK197 := n8_; have BK205 := n9_; have BK211 := n10_; have HB := n11_; clear n0_ n1_ n2_ n3_ n4_ n5_ n6_ n7_ n8_ n9_ n10_ n11_; (try clear hb); (try clear hb2); (try clear hk); (try clear hi); (try clear ho0); obtain ⟨Ao112, co112, eo112⟩ := Kd.R_slice HO220.out; subst eo112; obtain ⟨Ao113, co113, eo113⟩ := Kd.R_slice HO_12.out; subst eo113) | ((with_reducible refine gate_callee (f := 14) rfl ?_); refine goesL_ (some 83) rfl rfl Try.func14 (by kernel_rfl) rfl #[.slice Ao113 t206.length co113] rfl (by (try simp only [List.map_toArray, List.map_cons, List.map_nil]); first | done | rfl | (simp only [List.length_drop, List.length_take]; rfl) | (simp only [*]; first | done | rfl)) ?_; (with_reducible refine (item_Boxes.calls kj34 _ _ t206 t221 _ ?side1 ?side2 A104.out).mono ?_); (case side1 => repeat (first | exact (Kd.R_reads' HO_12.out).2.2 | (with_reducible refine Kd.C_alloc ?_ _) | (with_reducible refine Kd.C_drewN ?_ _) | (with_reducible refine Kd.C_drew ?_))); (case side2 => exact (Kd.R_reads' HO_12.out).2.1); rintro e w114 ⟨v222, rfl, ho0, hb⟩; refine ⟨_, rfl, ?_⟩; have n0_ := Aside0.mk (Kd.R_elder' (by (with_reducible repeat (first | apply Kd.R_alloc | apply Kd.R_drewN | apply Kd.R_drew)); exact HO_8.out) (Kd.R_base ho0) hb); have n1_ := Aside0.mk (Kd.R_elder' (by (with_reducible repeat (first | apply Kd.R_alloc | apply Kd.R_drewN | apply Kd.R_drew)); exact HO_10.out) (Kd.R_base ho0) hb); have n2_ := Aside0.mk (Kd.R_elder' (by (with_reducible repeat (first | apply Kd.R_alloc | apply Kd.R_drewN | apply Kd.R_drew)); exact HO_12.out) (Kd.R_base ho0) hb); have n3_ := Aside0.mk (Kd.V_elder' (by (with_reducible repeat (first | apply Kd.V_alloc | apply Kd.V_drewN | apply Kd.V_drew)); exact HO_183000.out) (Kd.R_base ho0) hb); have n4_ := Aside0.mk (Kd.V_elder' (by (with_reducible repeat (first | apply Kd.V_alloc | apply Kd.V_drewN | apply Kd.V_drew)); exact HO_183001.out) (Kd.R_base ho0) hb); have n5_ := Aside0.mk (Kd.R_elder' (by (with_reducible repeat (first | apply Kd.R_alloc | apply Kd.R_drewN | apply Kd.R_drew)); exact HO220.out) (Kd.R_base ho0) hb); have n6_ := Aside0.mk (Kd.R_lower (Kd.R_new' (Kd.R_new' (Kd.R_new' (Kd.R_new' (Kd.R_newM (M := fun k_ => (w.heap.size ≤ k_)) ho0 (below_size (by repeat (first | (with_reducible first | exact HB.out | apply below_alloc | apply pw_below_drewN | apply below_drew1 | refine below_set ?_ GE181.out | refine below_set ?_ GE182.out | refine below_set ?_ GE197.out | refine below_set ?_ GE205.out | refine below_set ?_ GE211.out) | exact HB.out))) (fun k_ h_ => h_)) (Kd.R_lt (by (with_reducible repeat (first | apply Kd.R_alloc | apply Kd.R_drewN | apply Kd.R_drew)); exact HO_8.out))) (Kd.R_lt (by (with_reducible repeat (first | apply Kd.R_alloc | apply Kd.R_drewN | apply Kd.R_drew)); exact HO_10.out))) (Kd.R_lt (by (with_reducible repeat (first | apply Kd.R_alloc | apply Kd.R_drewN | apply Kd.R_drew)); exact HO_12.out))) (Kd.R_lt (by (with_reducible repeat (first | apply Kd.R_alloc | apply Kd.R_drewN | apply Kd.R_drew)); exact HO220.out))) (below_size (by repeat (first | (with_reducible first | exact HB.out | apply below_alloc | apply pw_below_drewN | apply below_drew1 | refine below_set ?_ GE181.out | refine below_set ?_ GE182.out | refine below_set ?_ GE197.out | refine below_set ?_ GE205.out | refine below_set ?_ GE211.out) | exact HB.out)))); have n7_ := Aside0.mk (blk_below (g := gb181) (o := .cells #[.int .i64 a0_0, .int .i64 a0_1, .int .i64 a0_2, .int .i64 a0_3, .int .i32 a0_4, .slice A0_5 l0_5.length c0_5, .slice A0_6 l0_6.length c0_6, .slice A0_7 l0_7.length c0_7] 28 (0, 0)) (by (with_reducible repeat (first | refine blk_drewN ?_ _ | refine blk_drew ?_ | refine blk_alloc ?_ _)); exact BK181.out) hb); have n8_ := Aside0.mk (blk_below (g := gb182) (o := .cells #[.slice A2_0 l2_0.length c2_0, .slice A2_1 l2_1.length c2_1] 49 (0, 0)) (by (with_reducible repeat (first | refine blk_drewN ?_ _ | refine blk_drew ?_ | refine blk_alloc ?_ _)); exact BK182.out) hb); have n9_ := Aside0.mk (blk_below (g := gb197) (o := .cells #[.int .i64 t195, .int .i64 t196] 33 (0, 0)) (by (with_reducible repeat (first | refine blk_drewN ?_ _ | refine blk_drew ?_ | refine blk_alloc ?_ _)); exact BK197.out) hb); have n10_ := Aside0.mk (blk_below (g := gb205) (o := .cells #[.int .i64 t203, .int .i64 t204] 33 (0, 0)) (by (with_reducible repeat (first | refine blk_drewN ?_ _ | refine blk_drew ?_ | refine blk_alloc ?_ _)); exact BK205.out) hb); have n11_ := Aside0.mk (blk_below (g := gb211) (o := .cells #[.int .i64 t209, .int .i64 t210] 33 (0, 0)) (by (with_reducible repeat (first | refine blk_drewN ?_ _ | refine blk_drew ?_ | refine blk_alloc ?_ _)); exact BK211.out) hb); have n12_ := Aside0.mk (below_step (by repeat (first | (with_reducible first | exact HB.out | apply below_alloc | apply pw_below_drewN | apply below_drew1 | refine below_set ?_ GE181.out | refine below_set ?_ GE182.out | refine below_set ?_ GE197.out | refine below_set ?_ GE205.out | refine below_set ?_ GE211.out) | exact HB.out)) hb); clear HO_8; clear HO_10; clear HO_12; clear HO_183000; clear HO_183001; clear HO220; clear BK181; clear BK182; clear BK197; clear BK205; clear BK211; clear HB; have HO_8 := n0_; have HO_10 := n1_; have HO_12 := n2_; have HO_183000 := n3_; have HO_183001 := n4_; have HO220 := n5_; have HO223 := n6_; have BK181 := n7_; have BK182 := n8_; have BK197 := n9_; have BK205 := n10_; have BK211 := n11_; have HB := n12_; clear n0_ n1_ n2_ n3_ n4_ n5_ n6_ n7_ n8_ n9_ n10_ n11_ n12_; (try clear hb); (try clear hb2); (try clear hk); (try clear hi); (try clear ho0); obtain ⟨Ao115, co115, eo115⟩ := Kd.R_slice HO223.out; subst eo115; obtain ⟨Ao116, co116, eo116⟩ := Kd.R_slice HO_8.out; subst eo116) | ((with_reducible refine gate_callee (f := 14) rfl ?_); refine goesL_ (some 87) rfl rfl Try.func14 (by kernel_rfl) rfl #[.slice Ao116 t192.length co116] rfl (by (try simp only [List.map_toArray, List.map_cons, List.map_nil]); first | done | rfl | (simp only [List.length_drop, List.length_take]; rfl) | (simp only [*]; first | done | rfl)) ?_; (with_reducible refine (item_Boxes.calls kj34 _ _ t192 t224 _ ?side1 ?side2 A105.out).mono ?_); (case side1 => repeat (first | exact (Kd.R_reads' HO_8.out).2.2 | (with_reducible refine Kd.C_alloc ?_ _) | (with_reducible refine Kd.C_drewN ?_ _) | (with_reducible refine Kd.C_drew ?_))); (case side2 => exact (Kd.R_reads' HO_8.out).2.1); rintro e w117 ⟨v225, rfl, ho0, hb⟩; refine ⟨_, rfl, ?_⟩; have n0_ := Aside0.mk (Kd.R_elder' (by (with_reducible repeat (first | apply Kd.R_alloc | apply Kd.R_drewN | apply Kd.R_drew)); exact HO_8.out) (Kd.R_base ho0) hb); have n1_ := Aside0.mk (Kd.R_elder' (by (with_reducible repeat (first | apply Kd.R_alloc | apply Kd.R_drewN | apply Kd.R_drew)); exact HO_10.out) (Kd.R_base ho0) hb); have n2_ := Aside0.mk (Kd.R_elder' (by (with_reducible repeat (first | apply Kd.R_alloc | apply Kd.R_drewN | apply Kd.R_drew)); exact HO_12.out) (Kd.R_base ho0) hb); have n3_ := Aside0.mk (Kd.V_elder' (by (with_reducible repeat (first | apply Kd.V_alloc | apply Kd.V_drewN | apply Kd.V_drew)); exact HO_183000.out) (Kd.R_base ho0) hb); have n4_ := Aside0.mk (Kd.V_elder' (by (with_reducible repeat (first | apply Kd.V_alloc | apply Kd.V_drewN | apply Kd.V_drew)); exact HO_183001.out) (Kd.R_base ho0) hb); have n5_ := Aside0.mk (Kd.R_elder' (by (with_reducible repeat (first | apply Kd.R_alloc | apply Kd.R_drewN | apply Kd.R_drew)); exact HO220.out) (Kd.R_base ho0) hb); have n6_ := Aside0.mk (Kd.R_elder' (by (with_reducible repeat (first | apply Kd.R_alloc | apply Kd.R_drewN | apply Kd.R_drew)); exact HO223.out) (Kd.R_base ho0) hb); have n7_ := Aside0.mk (Kd.R_lower (Kd.R_new' (Kd.R_new' (Kd.R_new' (Kd.R_new' (Kd.R_new' (Kd.R_newM (M := fun k_ => (w.heap.size ≤ k_)) ho0 (below_size (by repeat (first | (with_reducible first | exact HB.out | apply below_alloc | apply pw_below_drewN | apply below_drew1 | refine below_set ?_ GE181.out | refine below_set ?_ GE182.out | refine below_set ?_ GE197.out | refine below_set ?_ GE205.out | refine below_set ?_ GE211.out) | exact HB.out))) (fun k_ h_ => h_)) (Kd.R_lt (by (with_reducible repeat (first | apply Kd.R_alloc | apply Kd.R_drewN | apply Kd.R_drew)); exact HO_8.out))) (Kd.R_lt (by (with_reducible repeat (first | apply Kd.R_alloc | apply Kd.R_drewN | apply Kd.R_drew)); exact HO_10.out))) (Kd.R_lt (by (with_reducible repeat (first | apply Kd.R_alloc | apply Kd.R_drewN | apply Kd.R_drew)); exact HO_12.out))) (Kd.R_lt (by (with_reducible repeat (first | apply Kd.R_alloc | apply Kd.R_drewN | apply Kd.R_drew)); exact HO220.out))) (Kd.R_lt (by (with_reducible repeat (first | apply Kd.R_alloc | apply Kd.R_drewN | apply Kd.R_drew)); exact HO223.out))) (below_size (by repeat (first | (with_reducible first | exact HB.out | apply below_alloc | apply pw_below_drewN | apply below_drew1 | refine below_set ?_ GE181.out | refine below_set ?_ GE182.out | refine below_set ?_ GE197.out | refine below_set ?_ GE205.out | refine below_set ?_ GE211.out) | exact HB.out)))); have n8_ := Aside0.mk (blk_below (g := gb181) (o := .cells #[.int .i64 a0_0, .int .i64 a0_1, .int .i64 a0_2, .int .i64 a0_3, .int .i32 a0_4, .slice A0_5 l0_5.length c0_5, .slice A0_6 l0_6.length c0_6, .slice A0_7 l0_7.length c0_7] 28 (0, 0)) (by (with_reducible repeat (first | refine blk_drewN ?_ _ | refine blk_drew ?_ | refine blk_alloc ?_ _)); exact BK181.out) hb); have n9_ := Aside0.mk (blk_below (g := gb182) (o := .cells #[.slice A2_0 l2_0.length c2_0, .slice A2_1 l2_1.length c2_1] 49 (0, 0)) (by (with_reducible repeat (first | refine blk_drewN ?_ _ | refine blk_drew ?_ | refine blk_alloc ?_ _)); exact BK182.out) hb); have n10_ := Aside0.mk (blk_below (g := gb197) (o := .cells #[.int .i64 t195, .int .i64 t196] 33 (0, 0)) (by (with_reducible repeat (first | refine blk_drewN ?_ _ | refine blk_drew ?_ | refine blk_alloc ?_ _)); exact BK197.out) hb); have n11_ := Aside0.mk (blk_below (g := gb205) (o := .cells #[.int .i64 t203, .int .i64 t204] 33 (0, 0)) (by (with_reducible repeat (first | refine blk_drewN ?_ _ | refine blk_drew ?_ | refine blk_alloc ?_ _)); exact BK205.out) hb); have n12_ := Aside0.mk (blk_below (g := gb211) (o := .cells #[.int .i64 t209, .int .i64 t210] 33 (0, 0)) (by (with_reducible repeat (first | refine blk_drewN ?_ _ | refine blk_drew ?_ | refine blk_alloc ?_ _)); exact BK211.out) hb); have n13_ := Aside0.mk (below_step (by repeat (first | (with_reducible first | exact HB.out | apply below_alloc | apply pw_below_drewN | apply below_drew1 | refine below_set ?_ GE181.out | refine below_set ?_ GE182.out | refine below_set ?_ GE197.out | refine below_set ?_ GE205.out | refine below_set ?_ GE211.out) | exact HB.out)) hb); clear HO_8; clear HO_10; clear HO_12; clear HO_183000; clear HO_183001; clear HO220; clear HO223; clear BK181; clear BK182; clear BK197; clear BK205; clear BK211; clear HB; have HO_8 := n0_; have HO_10 := n1_; have HO_12 := n2_; have HO_183000 := n3_; have HO_183001 := n4_; have HO220 := n5_; have HO223 := n6_; have HO226 := n7_; have BK181 := n8_; have BK182 := n9_; have BK197 := n10_; have BK205 := n11_; have BK211 := n12_; have HB := n13_; clear n0_ n1_ n2_ n3_ n4_ n5_ n6_ n7_ n8_ n9_ n10_ n11_ n12_ n13_; (try clear hb); (try clear hb2); (try clear hk); (try clear hi); (try clear ho0); obtain ⟨Ao118, co118, eo118⟩ := Kd.R_slice HO226.out; subst eo118; have q119 : ((t200.length : Int) : Int) ≤ ((t192.length : Int) : Int) := of_decide_eq_true (by first | (with_reducible assumption) | assumption); obtain ⟨i0119, hi0119, _, hsz119, _⟩ := info_parts info45; have hroom119 : t192.length ≤ co116 := (Kd.R_reads' HO_8.out).2.1; have hC119 : Kd.F k45 _ _ Ao116 t192.length t192 := (Kd.V_at (base := w.heap.size) (Kd.V_mono (ok' := (fun k_ => (((((((((((P2_0_ k_ ∨ P2_1_ k_) ∨ w.heap.size ≤ k_) ∧ (some k_ ≠ (.slice Ao110 t200.length co110 : Value).ownBlock ∧ some k_ ≠ (.slice Ao113 t206.length co113 : Value).ownBlock)) ∧ some k_ ≠ (.slice Ao112 t218.length co112 : Value).ownBlock) ∧ some k_ ≠ (.slice Ao115 t221.length co115 : Value).ownBlock) ∧ some k_ ≠ (.slice Ao118 t224.length co118 : Value).ownBlock) ∧ k_ ≠ gb181) ∧ k_ ≠ gb182) ∧ k_ ≠ gb197) ∧ k_ ≠ gb205) ∧ k_ ≠ gb211))) (Kd.R_V (Kd.R_types (Kd.R_types (Kd.R_types (Kd.R_types (Kd.R_types (HO_8.out) BK181.out (by decide)) BK182.out (by decide)) BK197.out (by decide)) BK205.out (by decide)) BK211.out (by decide))) (fun k_ hk => ⟨⟨⟨⟨⟨⟨⟨⟨⟨(.inr (hk.1.1.1.1.1.1.1.1.1)), ⟨hk.1.1.1.1.1.1.1.1.2.1, hk.1.1.1.1.1.1.1.1.2.2⟩⟩, hk.1.1.1.1.1.1.1.2⟩, hk.1.1.1.1.1.1.2⟩, hk.1.1.1.1.1.2⟩, hk.1.1.1.1.2⟩, hk.1.1.1.2⟩, hk.1.1.2⟩, hk.1.2⟩, hk.2⟩))).2.2; have q0119 : (0 : Int) ≤ ((t200.length : Int) : Int) := of_decide_eq_true (by first | (with_reducible assumption) | assumption); have hcut119 := cut_from (P := Try.prog) 30 45 .i64 Try.underlying30 hi0119 9 hsz119 Ao116 t192.length co116 (t200.length : Int) q0119 q119; have hr119 := Kd.F_cut (m := ((t200.length : Int) : Int).toNat) (c := co116) hC119 (by omega) hroom119; obtain ⟨A119, hA119⟩ : ∃ A1, A1 = (if co116 = ((t200.length : Int) : Int).toNat then Ao116 else (Ao116 : Option Addr).map (·.add (((t200.length : Int) : Int).toNat * 9))) := ⟨_, rfl⟩; obtain ⟨c119, hc119⟩ : ∃ c1, c1 = co116 - ((t200.length : Int) : Int).toNat := ⟨_, rfl⟩; have hy119 : y227.length = t192.length - ((t200.length : Int) : Int).toNat := (by rw [Ny227.out, List.length_drop] <;> omega); rw [show (t192).drop ((t200.length : Int) : Int).toNat = y227 from Ny227.out.symm] at hr119; replace hr119 : Kd.F k45 _ _ A119 y227.length y227 := (by rw [hA119]; exact hr119); rw [← hy119, ← hA119, ← hc119] at hcut119; have HO231 := Aside0.mk (show Kd.V k45 45 _ w.heap.size _ (.slice A119 y227.length c119) y227 from Kd.V_mk (by rw [hy119, hc119]; exact Nat.sub_le_sub_right hroom119 _) hr119); have HC231 := Aside0.mk (show y227.length ≤ c119 from by rw [hy119, hc119]; exact Nat.sub_le_sub_right hroom119 _); clear hr119 hC119 hroom119 hi0119 hsz119 hc119; have KY119 := Aside0.mk hy119; have KA119 := Aside0.mk hA119; clear hy119 hA119; replace q119 := eq_true q119) | (go_at_call 12; (with_reducible refine (item_May.calls kj34 _ _ y227 t232 _ ?side1 ?side2 A109.out).mono ?_); (case side1 => repeat (first | exact (Kd.V_reads' HO231.out).2.2 | (with_reducible refine Kd.C_alloc ?_ _) | (with_reducible refine Kd.C_drewN ?_ _) | (with_reducible refine Kd.C_drew ?_))); (case side2 => exact (Kd.V_reads' HO231.out).2.1); rintro e w120 ⟨rfl, hb⟩; have n0_ := Aside0.mk (Kd.R_below (by (with_reducible repeat (first | apply Kd.R_alloc | apply Kd.R_drewN | apply Kd.R_drew)); exact HO_8.out) hb); have n1_ := Aside0.mk (Kd.R_below (by (with_reducible repeat (first | apply Kd.R_alloc | apply Kd.R_drewN | apply Kd.R_drew)); exact HO_10.out) hb); have n2_ := Aside0.mk (Kd.R_below (by (with_reducible repeat (first | apply Kd.R_alloc | apply Kd.R_drewN | apply Kd.R_drew)); exact HO_12.out) hb); have n3_ := Aside0.mk (Kd.V_below (by (with_reducible repeat (first | apply Kd.V_alloc | apply Kd.V_drewN | apply Kd.V_drew)); exact HO_183000.out) hb); have n4_ := Aside0.mk (Kd.V_below (by (with_reducible repeat (first | apply Kd.V_alloc | apply Kd.V_drewN | apply Kd.V_drew)); exact HO_183001.out) hb); have n5_ := Aside0.mk (Kd.R_below (by (with_reducible repeat (first | apply Kd.R_alloc | apply Kd.R_drewN | apply Kd.R_drew)); exact HO220.out) hb); have n6_ := Aside0.mk (Kd.R_below (by (with_reducible repeat (first | apply Kd.R_alloc | apply Kd.R_drewN | apply Kd.R_drew)); exact HO223.out) hb); have n7_ := Aside0.mk (Kd.R_below (by (with_reducible repeat (first | apply Kd.R_alloc | apply Kd.R_drewN | apply Kd.R_drew)); exact HO226.out) hb); have n8_ := Aside0.mk (Kd.V_below (by (with_reducible repeat (first | apply Kd.V_alloc | apply Kd.V_drewN | apply Kd.V_drew)); exact HO231.out) hb); have n9_ := Aside0.mk (blk_below (g := gb181) (o := .cells #[.int .i64 a0_0, .int .i64 a0_1, .int .i64 a0_2, .int .i64 a0_3, .int .i32 a0_4, .slice A0_5 l0_5.length c0_5, .slice A0_6 l0_6.length c0_6, .slice A0_7 l0_7.length c0_7] 28 (0, 0)) (by (with_reducible repeat (first | refine blk_drewN ?_ _ | refine blk_drew ?_ | refine blk_alloc ?_ _)); exact BK181.out) hb); have n10_ := Aside0.mk (blk_below (g := gb182) (o := .cells #[.slice A2_0 l2_0.length c2_0, .slice A2_1 l2_1.length c2_1] 49 (0, 0)) (by (with_reducible repeat (first | refine blk_drewN ?_ _ | refine blk_drew ?_ | refine blk_alloc ?_ _)); exact BK182.out) hb); have n11_ := Aside0.mk (blk_below (g := gb197) (o := .cells #[.int .i64 t195, .int .i64 t196] 33 (0, 0)) (by (with_reducible repeat (first | refine blk_drewN ?_ _ | refine blk_drew ?_ | refine blk_alloc ?_ _)); exact BK197.out) hb); have n12_ := Aside0.mk (blk_below (g := gb205) (o := .cells #[.int .i64 t203, .int .i64 t204] 33 (0, 0)) (by (with_reducible repeat (first | refine blk_drewN ?_ _ | refine blk_drew ?_ | refine blk_alloc ?_ _)); exact BK205.out) hb); have n13_ := Aside0.mk (blk_below (g := gb211) (o := .cells #[.int .i64 t209, .int .i64 t210] 33 (0, 0)) (by (with_reducible repeat (first | refine blk_drewN ?_ _ | refine blk_drew ?_ | refine blk_alloc ?_ _)); exact BK211.out) hb); have n14_ := Aside0.mk (below_step (by repeat (first | (with_reducible first | exact HB.out | apply below_alloc | apply pw_below_drewN | apply below_drew1 | refine below_set ?_ GE181.out | refine below_set ?_ GE182.out | refine below_set ?_ GE197.out | refine below_set ?_ GE205.out | refine below_set ?_ GE211.out) | exact HB.out)) hb); clear HO_8; clear HO_10; clear HO_12; clear HO_183000; clear HO_183001; clear HO220; clear HO223; clear HO226; clear HO231; clear BK181; clear BK182; clear BK197; clear BK205; clear BK211; clear HB; have HO_8 := n0_; have HO_10 := n1_; have HO_12 := n2_; have HO_183000 := n3_; have HO_183001 := n4_; have HO220 := n5_; have HO223 := n6_; have HO226 := n7_; have HO231 := n8_; have BK181 := n9_; have BK182 := n10_; have BK197 := n11_; have BK205 := n12_; have BK211 := n13_; have HB := n14_; clear n0_ n1_ n2_ n3_ n4_ n5_ n6_ n7_ n8_ n9_ n10_ n11_ n12_ n13_ n14_; (try clear hb); (try clear hb2); (try clear hk); (try clear hi)))
            go_ret
            exact ⟨by first | rfl | (simp [errW_none, errW_some] <;> rfl) | (simp [*, errW_none, errW_some] <;> rfl), by repeat (first | (with_reducible first | exact HB.out | apply below_alloc | apply pw_below_drewN | apply below_drew1 | refine below_set ?_ GE181.out | refine below_set ?_ GE182.out | refine below_set ?_ GE197.out | refine below_set ?_ GE205.out | refine below_set ?_ GE211.out) | exact HB.out)⟩
           ·rw [if_neg c108] at H
            exact absurd H (by simp)
          ·rw [if_neg c107] at H
           exact absurd H (by simp)
         ·rw [if_neg c106] at H
          exact absurd H (by simp)
  ·rw [if_neg c5] at H
   exact absurd H (by simp)
 ·rw [if_neg c4] at H
  exact absurd H (by simp)

/-- The one statement about numbers and lists that is left of the law. -/
def variorumlaw09_ItemParts.Pure : Prop := ∀ (x0 : S28) (x1 : Int) (x2 : S49), (((Lit.int .i64 x0.f0.f0).wf = true ∧ ((Lit.int .i64 x0.f0.f1).wf = true ∧ ((Lit.int .i64 x0.f0.f2).wf = true ∧ ((Lit.int .i64 x0.f0.f3).wf = true)))) ∧ ((Lit.int .i32 x0.f1).wf = true ∧ ((x0.f2.length * 32 ≤ 140737488351232 ∧ ∀ y0 ∈ x0.f2, ((Lit.int .i32 y0.f0).wf = true ∧ ((Lit.int .i64 y0.f1).wf = true ∧ ((Lit.int .i64 y0.f2).wf = true ∧ ((Lit.int .i64 y0.f3).wf = true))))) ∧ ((x0.f3.length * 16 ≤ 140737488351232 ∧ ∀ y0 ∈ x0.f3, ((Lit.int .i32 y0.f0).wf = true ∧ ((Lit.int .i32 y0.f1).wf = true ∧ ((Lit.int .i64 y0.f2).wf = true)))) ∧ ((x0.f4.length * 12 ≤ 140737488351232 ∧ ∀ y0 ∈ x0.f4, ((Lit.int .i32 y0.f0).wf = true ∧ ((Lit.int .i32 y0.f1).wf = true ∧ ((Lit.int .i32 y0.f2).wf = true))))))))) → (1 + (1 + (Go.Proofs.Ytbdaaiagpknaoaa.OpenB.bulkOf (fun _ => 1) x0.f2 + (Go.Proofs.Ytbdaaiagpknaoaa.OpenB.bulkOf (fun _ => 1) x0.f3 + (Go.Proofs.Ytbdaaiagpknaoaa.OpenB.bulkOf (fun _ => 1) x0.f4)))) ≤ 1048576) → (Lit.int .i64 x1).wf = true → ((x2.f0.length * 24 ≤ 140737488351232 ∧ ∀ y0 ∈ x2.f0, (y0.length * 24 ≤ 140737488351232 ∧ ∀ y1 ∈ y0, (y1.length * 40 ≤ 140737488351232 ∧ ∀ y2 ∈ y1, (y2.f0.size ≤ 140737488351232 ∧ ((Lit.int .i64 y2.f1).wf = true ∧ ((Lit.int .i64 y2.f2).wf = true ∧ ((Lit.int .i64 y2.f3).wf = true))))))) ∧ ((x2.f1.length * 24 ≤ 140737488351232 ∧ ∀ y0 ∈ x2.f1, (y0.length * 24 ≤ 140737488351232 ∧ ∀ y1 ∈ y0, (y1.length * 40 ≤ 140737488351232 ∧ ∀ y2 ∈ y1, (y2.f0.size ≤ 140737488351232 ∧ ((Lit.int .i64 y2.f1).wf = true ∧ ((Lit.int .i64 y2.f2).wf = true ∧ ((Lit.int .i64 y2.f3).wf = true))))))))) → (Go.Proofs.Ytbdaaiagpknaoaa.OpenB.bulkOf (Go.Proofs.Ytbdaaiagpknaoaa.OpenB.bulkOf (Go.Proofs.Ytbdaaiagpknaoaa.OpenB.bulkOf (fun _ => 1))) x2.f0 + (Go.Proofs.Ytbdaaiagpknaoaa.OpenB.bulkOf (Go.Proofs.Ytbdaaiagpknaoaa.OpenB.bulkOf (Go.Proofs.Ytbdaaiagpknaoaa.OpenB.bulkOf (fun _ => 1))) x2.f1) ≤ 1048576) → ∃ k, variorumlaw09_ItemParts.f k x0.f0.f0 x0.f0.f1 x0.f0.f2 x0.f0.f3 x0.f1 x0.f2 x0.f3 x0.f4 x1 x2.f0 x2.f1 = some true

end Go.Proofs.Ytbdaaiagpknaoaa.PUq

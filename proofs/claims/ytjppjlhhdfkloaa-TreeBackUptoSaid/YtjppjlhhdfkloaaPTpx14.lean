/- Written by a program of this session: functions of the given program as plain Lean functions, the walks that show it, and the row of each law, for every input that its statement speaks of. -/
import Derived.Test.YtjppjlhhdfkloaaPTpx0
namespace Go.Proofs.Ytjppjlhhdfkloaa.PTp
open Go.RowKit Go.Proofs.YtjppjlhhdfkloaaW.PrintWords Go.Proofs.YtjppjlhhdfkloaaW.PrintLast Go.Proofs.YtjppjlhhdfkloaaW.PrintMore
attribute [local go_sem] max2_int min2_int max_two min_two max_three min_three max_four min_four   -- for this text's walks alone
set_option linter.unusedVariables false
set_option linter.unusedSimpArgs false

/-! ### tree_Same: function 16 -/
mutual
def tree_Same.l0 : Nat → List (S38) → List (S38) → Int → Int → Option (Bool)
 | 0, _, _, _, _ => none
 | k + 1, x1, x14, x15, x16 => if x16 < x15 then (if 0 ≤ x16 then (if x16 < (x14.length : Int) then (if x16 < (x1.length : Int) then (if (((rd_T38 x14 x16).f0) != ((rd_T38 x1 x16).f0)) = true then (tree_Same.j1 k x1 x14 x15 x16 true ((rd_T38 x14 x16).f0) ((rd_T38 x14 x16).f1) ((rd_T38 x14 x16).f2) ((rd_T38 x14 x16).f3) ((rd_T38 x1 x16).f0) ((rd_T38 x1 x16).f1) ((rd_T38 x1 x16).f2) ((rd_T38 x1 x16).f3)) else (if ((rd_T38 x14 x16).f1).toList = ((rd_T38 x1 x16).f1).toList then (tree_Same.j1 k x1 x14 x15 x16 ((((rd_T38 x14 x16).f2).length : Int) != (((rd_T38 x1 x16).f2).length : Int)) ((rd_T38 x14 x16).f0) ((rd_T38 x14 x16).f1) ((rd_T38 x14 x16).f2) ((rd_T38 x14 x16).f3) ((rd_T38 x1 x16).f0) ((rd_T38 x1 x16).f1) ((rd_T38 x1 x16).f2) ((rd_T38 x1 x16).f3)) else (tree_Same.j1 k x1 x14 x15 x16 true ((rd_T38 x14 x16).f0) ((rd_T38 x14 x16).f1) ((rd_T38 x14 x16).f2) ((rd_T38 x14 x16).f3) ((rd_T38 x1 x16).f0) ((rd_T38 x1 x16).f1) ((rd_T38 x1 x16).f2) ((rd_T38 x1 x16).f3)))) else (none)) else (none)) else (none)) else (some true)
def tree_Same.j1 : Nat → List (S38) → List (S38) → Int → Int → Bool → Bool → ByteArray → List (List (S38)) → Int → Bool → ByteArray → List (List (S38)) → Int → Option (Bool)
 | 0, _, _, _, _, _, _, _, _, _, _, _, _, _ => none
 | k + 1, x1, x14, x15, x16, x45, x187000, x187001, x187002, x187003, x189000, x189001, x189002, x189003 => if x45 = true then (some false) else (tree_Same.l1 k x1 x14 x15 x16 (x187002.length : Int) 0 x187000 x187001 x187002 x187003 x189000 x189001 x189002 x189003)
def tree_Same.l1 : Nat → List (S38) → List (S38) → Int → Int → Int → Int → Bool → ByteArray → List (List (S38)) → Int → Bool → ByteArray → List (List (S38)) → Int → Option (Bool)
 | 0, _, _, _, _, _, _, _, _, _, _, _, _, _, _ => none
 | k + 1, x1, x14, x15, x16, x48, x49, x187000, x187001, x187002, x187003, x189000, x189001, x189002, x189003 => if x49 < x48 then (if 0 ≤ x49 then (if x49 < (x187002.length : Int) then (if x49 < (x189002.length : Int) then ((tree_Same.f k (rd_L5 x187002 x49) (rd_L5 x189002 x49)).bind fun t191 => (if t191 = true then (tree_Same.l1 k x1 x14 x15 x16 x48 (wrap64 (x49 + 1)) x187000 x187001 x187002 x187003 x189000 x189001 x189002 x189003) else (some false))) else (none)) else (none)) else (none)) else (tree_Same.l0 k x1 x14 x15 (wrap64 (x16 + 1)))
def tree_Same.f : Nat → List (S38) → List (S38) → Option (Bool)
 | 0, _, _ => none
 | k + 1, l0, l1 => if (l0.length : Int) = (l1.length : Int) then (tree_Same.l0 k l1 l0 (l0.length : Int) 0) else (some false)
end
theorem tree_Same.mono_l : ∀ k, (∀ y0 y1, LeO (tree_Same.f k y0 y1) (tree_Same.f (k + 1) y0 y1)) ∧ (∀ y0 y1 y2 y3, LeO (tree_Same.l0 k y0 y1 y2 y3) (tree_Same.l0 (k + 1) y0 y1 y2 y3)) ∧ (∀ y0 y1 y2 y3 y4 y5 y6 y7 y8 y9 y10 y11 y12, LeO (tree_Same.j1 k y0 y1 y2 y3 y4 y5 y6 y7 y8 y9 y10 y11 y12) (tree_Same.j1 (k + 1) y0 y1 y2 y3 y4 y5 y6 y7 y8 y9 y10 y11 y12)) ∧ (∀ y0 y1 y2 y3 y4 y5 y6 y7 y8 y9 y10 y11 y12 y13, LeO (tree_Same.l1 k y0 y1 y2 y3 y4 y5 y6 y7 y8 y9 y10 y11 y12 y13) (tree_Same.l1 (k + 1) y0 y1 y2 y3 y4 y5 y6 y7 y8 y9 y10 y11 y12 y13))
 | 0 => ⟨fun _ _ r h => by simp [tree_Same.f] at h, fun _ _ _ _ r h => by simp [tree_Same.l0] at h, fun _ _ _ _ _ _ _ _ _ _ _ _ _ r h => by simp [tree_Same.j1] at h, fun _ _ _ _ _ _ _ _ _ _ _ _ _ _ r h => by simp [tree_Same.l1] at h⟩
 | k + 1 => by
  obtain ⟨ih0, ih1, ih2, ih3⟩ := tree_Same.mono_l k
  refine ⟨?_, ?_, ?_, ?_⟩
  ·intro y0 y1
   unfold tree_Same.f
   repeat' first | (with_reducible first | exact ih0 _ _ | exact ih1 _ _ _ _ | exact ih2 _ _ _ _ _ _ _ _ _ _ _ _ _ | exact ih3 _ _ _ _ _ _ _ _ _ _ _ _ _ _ | exact LeO.refl _ | exact LeO.none _ | refine LeO.ite ?_ ?_ | refine LeO.bind ?_ (fun _ => ?_)) | exact LeO.none _ | refine LeO.ite ?_ ?_ | refine LeO.bind ?_ (fun _ => ?_)
  ·intro y0 y1 y2 y3
   unfold tree_Same.l0
   repeat' first | (with_reducible first | exact ih0 _ _ | exact ih1 _ _ _ _ | exact ih2 _ _ _ _ _ _ _ _ _ _ _ _ _ | exact ih3 _ _ _ _ _ _ _ _ _ _ _ _ _ _ | exact LeO.refl _ | exact LeO.none _ | refine LeO.ite ?_ ?_ | refine LeO.bind ?_ (fun _ => ?_)) | exact LeO.none _ | refine LeO.ite ?_ ?_ | refine LeO.bind ?_ (fun _ => ?_)
  ·intro y0 y1 y2 y3 y4 y5 y6 y7 y8 y9 y10 y11 y12
   unfold tree_Same.j1
   repeat' first | (with_reducible first | exact ih0 _ _ | exact ih1 _ _ _ _ | exact ih2 _ _ _ _ _ _ _ _ _ _ _ _ _ | exact ih3 _ _ _ _ _ _ _ _ _ _ _ _ _ _ | exact LeO.refl _ | exact LeO.none _ | refine LeO.ite ?_ ?_ | refine LeO.bind ?_ (fun _ => ?_)) | exact LeO.none _ | refine LeO.ite ?_ ?_ | refine LeO.bind ?_ (fun _ => ?_)
  ·intro y0 y1 y2 y3 y4 y5 y6 y7 y8 y9 y10 y11 y12 y13
   unfold tree_Same.l1
   repeat' first | (with_reducible first | exact ih0 _ _ | exact ih1 _ _ _ _ | exact ih2 _ _ _ _ _ _ _ _ _ _ _ _ _ | exact ih3 _ _ _ _ _ _ _ _ _ _ _ _ _ _ | exact LeO.refl _ | exact LeO.none _ | refine LeO.ite ?_ ?_ | refine LeO.bind ?_ (fun _ => ?_)) | exact LeO.none _ | refine LeO.ite ?_ ?_ | refine LeO.bind ?_ (fun _ => ?_)
theorem tree_Same.mono : ∀ a0 a1 k, LeO (tree_Same.f k a0 a1) (tree_Same.f (k + 1) a0 a1) := by
 intro a0 a1 k
 obtain ⟨ih0, ih1, ih2, ih3⟩ := tree_Same.mono_l k
 exact ih0 a0 a1
def tree_Same.T12 : Bool × List (List Nat × List Nat) := (true, [([], []), ([0], [0]), ([], []), ([1, 2], [1, 2]), ([3], [3]), ([], []), ([5], [5]), ([], []), ([6, 7], [6, 7]), ([8], [8]), ([4, 9], [4, 9]), ([10], [10])])
def tree_Same.B12 : List Nat := [0, 1, 0, 7, 15, 0, 32, 0, 224, 480, 1023, 2047]
theorem tree_Same.tab12 : rtab .any (opsOf Try.f16 12) = tree_Same.T12 := by kernel_rfl
theorem tree_Same.bits12 : waitsOk tree_Same.T12.2 tree_Same.B12 = true := by kernel_rfl
set_option maxHeartbeats 8000000 in
set_option maxRecDepth 100000 in
theorem tree_Same.calls (k : Nat) : ∀ (A0 : Option Addr) (c0 : Nat) (l0 : List (S38)) (A1 : Option Addr) (c1 : Nat) (l1 : List (S38)) (r : Bool) (w : World) (hr0 : Kd.C k38 w A0 l0.length l0) (hc0 : l0.length ≤ c0) (hr1 : Kd.C k38 w A1 l1.length l1) (hc1 : l1.length ≤ c1) (h : tree_Same.f k l0 l1 = some r),
  Calls Try.prog 16 #[.slice A0 l0.length c0, .slice A1 l1.length c1] w fun e w' => e = .returned (.bool r) ∧ Below w.heap.size w w' := by
 induction k using Nat.strongRecOn with
 | _ k ih =>
 intro A0 c0 l0 A1 c1 l1 r w hr0 hc0 hr1 hc1 h
 cases k with
 | zero => exact absurd h (by simp [tree_Same.f])
 | succ k =>
 simp only [tree_Same.f] at h
 have hu38 := Try.underlying38
 have HR0 := a_ hr0
 have HC0 := a_ hc0
 clear hr0 hc0
 have HR1 := a_ hr1
 have HC1 := a_ hc1
 clear hr1 hc1
 have HB := a_ (Below.refl w.heap.size w)
 have H : (if (l0.length : Int) = (l1.length : Int) then (tree_Same.l0 k l1 l0 (l0.length : Int) 0) else (some false)) = some r := h
 clear h
 by_cases c3 : (l0.length : Int) = (l1.length : Int)
 ·rw [if_pos c3] at H
  have c3b0 : ((l0.length : Int) == (l1.length : Int)) = true := beq_iff_eq.mpr c3
  have c3b1 : ((l0.length : Int) != (l1.length : Int)) = false := bne_eq_false_iff_eq.mpr c3
  have c3b2 : (l0.length == l1.length) = true := by first | simpa using c3 | (simp at c3 ⊢; omega)
  clear c3
  have H' := a_ H
  clear H
  go_enter Try.func16, Try.ntmps16
  go_wp2
  go_loopg [16] k (fun kq v16 w' => ∃ (x16_1 : Int), v16 = .int .i64 x16_1 ∧ Aside0 (tree_Same.l0 kq l1 l0 (l0.length : Int) x16_1 = some r) ∧ Aside0 (kq ≤ k) ∧ Aside0 (Below w.heap.size w w'))
  case atStart => exact ⟨(0), (by first | rfl | (simp; done) | (simp [*]; done)), H', ⟨Nat.le_refl _⟩, ⟨bv_ HB.out⟩⟩
  case round =>
   clear H'
   try clear c1
   try clear p2
   try clear c3
   try clear c3b0
   try clear c3b1
   try clear c3b2
   obtain ⟨x16_1, rfl, HA, HK1, HB⟩ := hrel
   cases gk with
   | zero => exact absurd HA.out (by simp [tree_Same.l0])
   | succ k1 =>
    have H := HA.out
    clear HA
    simp only [tree_Same.l0] at H
    by_cases c4 : x16_1 < (l0.length : Int)
    ·rw [if_pos c4] at H
     have c4b0 : decide (x16_1 < (l0.length : Int)) = true := decide_eq_true c4
     clear c4
     by_cases c5 : 0 ≤ x16_1
     ·rw [if_pos c5] at H
      have c5b0 : decide (0 ≤ x16_1) = true := decide_eq_true c5
      clear c5
      by_cases c6 : x16_1 < (l0.length : Int)
      ·rw [if_pos c6] at H
       have c6b0 : decide (x16_1 < (l0.length : Int)) = true := decide_eq_true c6
       clear c6
       by_cases c7 : x16_1 < (l1.length : Int)
       ·rw [if_pos c7] at H
        have c7b0 : decide (x16_1 < (l1.length : Int)) = true := decide_eq_true c7
        clear c7
        have HC8 := a_ H
        clear H
        have p185 : 0 ≤ (x16_1 : Int) := od_
        have q185 : x16_1 < (l0.length : Int) := od_
        obtain ⟨ad185, A185_2, c185_2, e185, hx185_0, hx185_1, hx185_2, hx185_3, hl185_2, hi185_2⟩ := at_T38 HR0.out x16_1 p185 q185
        cases e185
        try replace hx185_0 := up_ HB.out hx185_0
        try replace hx185_1 := up_ HB.out hx185_1
        try replace hx185_2 := up_ HB.out hx185_2
        try replace hx185_3 := up_ HB.out hx185_3
        have HR185_2 := a_ hi185_2
        have HC185_2 := a_ hl185_2
        clear hi185_2 hl185_2
        replace p185 := eq_true p185
        replace q185 := eq_true q185
        go_upto_region 7 with (first | ((with_reducible refine gate_dst (N := 6) rfl ?_); (try (refine gate_guard (by rfl) ?_; dsimp only)); refine box_event ?hg (N := 6) ?hd (cs := #[.bool false, .string (⟨#[]⟩ : ByteArray), .slice none 0 0, .int .i64 0]) (t := 38) ?hr ?_; (case hd => rfl); (case hg => rfl); (case hr => first | (go_simp; done) | (go_simp; rfl)); intro gb186 hg w9 hbox hb; have n0_ := a_ (bs_ HB.out hb); have n1_ := a_ (hbox); have n2_ := a_ ((by rw [hg]; exact (below_size (bv_ HB.out)) : w.heap.size ≤ gb186)); have n3_ := a_ ((by rw [hg]; exact (below_size (bv_ HB.out)) : w.heap.size ≤ gb186)); clear HB; have HB := n0_; have BK186 := n1_; have GW186 := n2_; have GE186 := n3_; clear n0_ n1_ n2_ n3_; clear hb hbox hg; obtain ⟨⟨Z10_0, Y10_0⟩, ⟨Z10_1, Y10_1⟩, ⟨Z10_2, Y10_2⟩, Z10_3, Y10_3⟩ := cs4_ BK186.out; have p187 : 0 ≤ (x16_1 : Int) := od_; have q187 : x16_1 < (l1.length : Int) := od_; obtain ⟨ad187, A187_2, c187_2, e187, hx187_0, hx187_1, hx187_2, hx187_3, hl187_2, hi187_2⟩ := at_T38 HR1.out x16_1 p187 q187; cases e187; have hn187_0 : ad187.block ≠ gb186 := Nat.ne_of_lt (Nat.lt_of_lt_of_le (by have := World.block_lt_of_cell? _ _ hx187_0; first | rwa [add_block] at this | exact this) GW186.out); have hn187_1 : ad187.block ≠ gb186 := Nat.ne_of_lt (Nat.lt_of_lt_of_le (by have := World.block_lt_of_cell? _ _ hx187_0; first | rwa [add_block] at this | exact this) GW186.out); have hn187_2 : ad187.block ≠ gb186 := Nat.ne_of_lt (Nat.lt_of_lt_of_le (by have := World.block_lt_of_cell? _ _ hx187_0; first | rwa [add_block] at this | exact this) GW186.out); have hn187_3 : ad187.block ≠ gb186 := Nat.ne_of_lt (Nat.lt_of_lt_of_le (by have := World.block_lt_of_cell? _ _ hx187_0; first | rwa [add_block] at this | exact this) GW186.out); replace hx187_0 := up_ HB.out hx187_0; replace hx187_1 := up_ HB.out hx187_1; replace hx187_2 := up_ HB.out hx187_2; replace hx187_3 := up_ HB.out hx187_3; have HR187_2 := a_ hi187_2; have HC187_2 := a_ hl187_2; clear hi187_2 hl187_2; replace hx187_0 := (cell_far (p := ⟨gb186, 0, none⟩) (by first | (rw [add_block]; exact hn187_0) | (show (Addr.add _ _).block ≠ _; rw [add_block]; exact hn187_0) | exact hn187_0) (.bool ((rd_T38 l0 x16_1).f0))).trans hx187_0; replace hx187_1 := (cell_far (p := ⟨gb186, 0, none⟩) (by first | (rw [add_block]; exact hn187_0) | (show (Addr.add _ _).block ≠ _; rw [add_block]; exact hn187_0) | exact hn187_0) (.bool ((rd_T38 l0 x16_1).f0))).trans hx187_1; replace hx187_2 := (cell_far (p := ⟨gb186, 0, none⟩) (by first | (rw [add_block]; exact hn187_0) | (show (Addr.add _ _).block ≠ _; rw [add_block]; exact hn187_0) | exact hn187_0) (.bool ((rd_T38 l0 x16_1).f0))).trans hx187_2; replace hx187_3 := (cell_far (p := ⟨gb186, 0, none⟩) (by first | (rw [add_block]; exact hn187_0) | (show (Addr.add _ _).block ≠ _; rw [add_block]; exact hn187_0) | exact hn187_0) (.bool ((rd_T38 l0 x16_1).f0))).trans hx187_3; replace hx187_0 := (cell_far (p := ⟨gb186, 1, none⟩) (by first | (rw [add_block]; exact hn187_1) | (show (Addr.add _ _).block ≠ _; rw [add_block]; exact hn187_1) | exact hn187_1) (.string ((rd_T38 l0 x16_1).f1))).trans hx187_0; replace hx187_1 := (cell_far (p := ⟨gb186, 1, none⟩) (by first | (rw [add_block]; exact hn187_1) | (show (Addr.add _ _).block ≠ _; rw [add_block]; exact hn187_1) | exact hn187_1) (.string ((rd_T38 l0 x16_1).f1))).trans hx187_1; replace hx187_2 := (cell_far (p := ⟨gb186, 1, none⟩) (by first | (rw [add_block]; exact hn187_1) | (show (Addr.add _ _).block ≠ _; rw [add_block]; exact hn187_1) | exact hn187_1) (.string ((rd_T38 l0 x16_1).f1))).trans hx187_2; replace hx187_3 := (cell_far (p := ⟨gb186, 1, none⟩) (by first | (rw [add_block]; exact hn187_1) | (show (Addr.add _ _).block ≠ _; rw [add_block]; exact hn187_1) | exact hn187_1) (.string ((rd_T38 l0 x16_1).f1))).trans hx187_3; replace hx187_0 := (cell_far (p := ⟨gb186, 2, none⟩) (by first | (rw [add_block]; exact hn187_2) | (show (Addr.add _ _).block ≠ _; rw [add_block]; exact hn187_2) | exact hn187_2) (.slice A185_2 ((rd_T38 l0 x16_1).f2).length c185_2)).trans hx187_0; replace hx187_1 := (cell_far (p := ⟨gb186, 2, none⟩) (by first | (rw [add_block]; exact hn187_2) | (show (Addr.add _ _).block ≠ _; rw [add_block]; exact hn187_2) | exact hn187_2) (.slice A185_2 ((rd_T38 l0 x16_1).f2).length c185_2)).trans hx187_1; replace hx187_2 := (cell_far (p := ⟨gb186, 2, none⟩) (by first | (rw [add_block]; exact hn187_2) | (show (Addr.add _ _).block ≠ _; rw [add_block]; exact hn187_2) | exact hn187_2) (.slice A185_2 ((rd_T38 l0 x16_1).f2).length c185_2)).trans hx187_2; replace hx187_3 := (cell_far (p := ⟨gb186, 2, none⟩) (by first | (rw [add_block]; exact hn187_2) | (show (Addr.add _ _).block ≠ _; rw [add_block]; exact hn187_2) | exact hn187_2) (.slice A185_2 ((rd_T38 l0 x16_1).f2).length c185_2)).trans hx187_3; replace hx187_0 := (cell_far (p := ⟨gb186, 3, none⟩) (by first | (rw [add_block]; exact hn187_3) | (show (Addr.add _ _).block ≠ _; rw [add_block]; exact hn187_3) | exact hn187_3) (.int .i64 ((rd_T38 l0 x16_1).f3))).trans hx187_0; replace hx187_1 := (cell_far (p := ⟨gb186, 3, none⟩) (by first | (rw [add_block]; exact hn187_3) | (show (Addr.add _ _).block ≠ _; rw [add_block]; exact hn187_3) | exact hn187_3) (.int .i64 ((rd_T38 l0 x16_1).f3))).trans hx187_1; replace hx187_2 := (cell_far (p := ⟨gb186, 3, none⟩) (by first | (rw [add_block]; exact hn187_3) | (show (Addr.add _ _).block ≠ _; rw [add_block]; exact hn187_3) | exact hn187_3) (.int .i64 ((rd_T38 l0 x16_1).f3))).trans hx187_2; replace hx187_3 := (cell_far (p := ⟨gb186, 3, none⟩) (by first | (rw [add_block]; exact hn187_3) | (show (Addr.add _ _).block ≠ _; rw [add_block]; exact hn187_3) | exact hn187_3) (.int .i64 ((rd_T38 l0 x16_1).f3))).trans hx187_3; clear hn187_0; clear hn187_1; clear hn187_2; clear hn187_3; replace p187 := eq_true p187; replace q187 := eq_true q187) | ((with_reducible refine gate_dst (N := 7) rfl ?_); (try (refine gate_guard (by rfl) ?_; dsimp only)); refine box_event ?hg (N := 7) ?hd (cs := #[.bool false, .string (⟨#[]⟩ : ByteArray), .slice none 0 0, .int .i64 0]) (t := 38) ?hr ?_; (case hd => rfl); (case hg => rfl); (case hr => first | (go_simp; done) | (go_simp; rfl)); intro gb188 hg w11 hbox hb; have n0_ := a_ (blk_below (g := gb186) (o := .cells #[.bool ((rd_T38 l0 x16_1).f0), .string ((rd_T38 l0 x16_1).f1), .slice A185_2 ((rd_T38 l0 x16_1).f2).length c185_2, .int .i64 ((rd_T38 l0 x16_1).f3)] 38 (0, 0)) (kp0_ BK186.out) hb); have n1_ := a_ (below_step (bS1_ HB.out GE186.out) hb); have n2_ := a_ (hbox); have n3_ := a_ ((by rw [hg]; exact (below_size (bS1_ HB.out GE186.out)) : w.heap.size ≤ gb188)); have n4_ := a_ ((by rw [hg]; exact (below_size (bS1_ HB.out GE186.out)) : w.heap.size ≤ gb188)); have n5_ := a_ ((by rw [hg]; exact Nat.ne_of_lt (blk_lt (g := gb186) (o := .cells #[.bool ((rd_T38 l0 x16_1).f0), .string ((rd_T38 l0 x16_1).f1), .slice A185_2 ((rd_T38 l0 x16_1).f2).length c185_2, .int .i64 ((rd_T38 l0 x16_1).f3)] 38 (0, 0)) (kp0_ BK186.out)) : gb186 ≠ gb188)); have n6_ := a_ ((by rw [hg]; exact Nat.ne_of_gt (blk_lt (g := gb186) (o := .cells #[.bool ((rd_T38 l0 x16_1).f0), .string ((rd_T38 l0 x16_1).f1), .slice A185_2 ((rd_T38 l0 x16_1).f2).length c185_2, .int .i64 ((rd_T38 l0 x16_1).f3)] 38 (0, 0)) (kp0_ BK186.out)) : gb188 ≠ gb186)); clear BK186; clear HB; have BK186 := n0_; have HB := n1_; have BK188 := n2_; have GW188 := n3_; have GE188 := n4_; have NB186_188 := n5_; have NB188_186 := n6_; clear n0_ n1_ n2_ n3_ n4_ n5_ n6_; clear hb hbox hg; have hnb12 := NB188_186.out; have hnc12 := NB186_188.out; obtain ⟨⟨Z13_0, Y13_0⟩, ⟨Z13_1, Y13_1⟩, ⟨Z13_2, Y13_2⟩, Z13_3, Y13_3⟩ := cs4_ BK188.out))
        (try simp only [Act.put, List.setIfInBounds_toArray, List.set_cons_zero, List.set_cons_succ])
        go_cut [45] (fun v45 wc => ∃ (kq : Nat) (x45_7 : Bool), v45 = .bool x45_7 ∧ Aside0 (tree_Same.j1 kq l1 l0 (l0.length : Int) x16_1 x45_7 ((rd_T38 l0 x16_1).f0) ((rd_T38 l0 x16_1).f1) ((rd_T38 l0 x16_1).f2) ((rd_T38 l0 x16_1).f3) ((rd_T38 l1 x16_1).f0) ((rd_T38 l1 x16_1).f1) ((rd_T38 l1 x16_1).f2) ((rd_T38 l1 x16_1).f3) = some r) ∧ Aside0 (kq ≤ k1) ∧ Aside0 (wc.heap[gb186]? = some (.cells #[.bool ((rd_T38 l0 x16_1).f0), .string ((rd_T38 l0 x16_1).f1), (.slice A185_2 ((rd_T38 l0 x16_1).f2).length c185_2), .int .i64 ((rd_T38 l0 x16_1).f3)] 38 (0, 0))) ∧ Aside0 (wc.heap[gb188]? = some (.cells #[.bool ((rd_T38 l1 x16_1).f0), .string ((rd_T38 l1 x16_1).f1), (.slice A187_2 ((rd_T38 l1 x16_1).f2).length c187_2), .int .i64 ((rd_T38 l1 x16_1).f3)] 38 (0, 0))) ∧ Aside0 (Below w.heap.size w wc))
        case first =>
         have H := HC8.out
         clear HC8
         by_cases c14 : (((rd_T38 l0 x16_1).f0) != ((rd_T38 l1 x16_1).f0)) = true
         ·rw [if_pos c14] at H
          have c14b0 : (((rd_T38 l0 x16_1).f0) != ((rd_T38 l1 x16_1).f0)) = true := c14
          (try (have c14b1 : decide (((rd_T38 l0 x16_1).f0) = ((rd_T38 l1 x16_1).f0)) = false := by simpa using c14))
          (try (have c14b2 : (((rd_T38 l0 x16_1).f0) == ((rd_T38 l1 x16_1).f0)) = false := by simpa using c14))
          (try (have c14b3 : ¬ (((rd_T38 l0 x16_1).f0) = ((rd_T38 l1 x16_1).f0)) := by simpa using c14))
          clear c14
          (first | rw [c14b0] | (simp only [i64_w, i32_w]; rw [c14b0]) | skip)
          have H' := a_ H
          clear H
          have hnb15 := NB186_188.out
          have hnc15 := NB188_186.out
          obtain ⟨⟨Z16_0, Y16_0⟩, ⟨Z16_1, Y16_1⟩, ⟨Z16_2, Y16_2⟩, Z16_3, Y16_3⟩ := cs4_ BK186.out
          obtain ⟨⟨Z17_0, Y17_0⟩, ⟨Z17_1, Y17_1⟩, ⟨Z17_2, Y17_2⟩, Z17_3, Y17_3⟩ := cs4_ BK188.out
          go_wp2
          go_meet
          case rel => exact ⟨_, (true), (by first | rfl | (simp; done) | (simp [*]; done)), H', ⟨by have := HK1.out; first | omega | exact Nat.le_refl _⟩, ⟨kf1_ BK186.out NB186_188.out⟩, ⟨kp0_ BK188.out⟩, ⟨bS2_ HB.out GE186.out GE188.out⟩⟩
         ·rw [if_neg c14] at H
          have c14b0 : (((rd_T38 l0 x16_1).f0) != ((rd_T38 l1 x16_1).f0)) = false := by simpa using c14
          (try (have c14b1 : decide (((rd_T38 l0 x16_1).f0) = ((rd_T38 l1 x16_1).f0)) = true := by simpa using c14))
          (try (have c14b2 : (((rd_T38 l0 x16_1).f0) == ((rd_T38 l1 x16_1).f0)) = true := by simpa using c14))
          clear c14
          (first | rw [c14b0] | (simp only [i64_w, i32_w]; rw [c14b0]) | skip)
          by_cases c18 : ((rd_T38 l0 x16_1).f1).toList = ((rd_T38 l1 x16_1).f1).toList
          ·rw [if_pos c18] at H
           have c18b0 : (((rd_T38 l0 x16_1).f1).toList == ((rd_T38 l1 x16_1).f1).toList) = true := beq_iff_eq.mpr c18
           have c18b1 : (((rd_T38 l0 x16_1).f1).toList != ((rd_T38 l1 x16_1).f1).toList) = false := bne_eq_false_iff_eq.mpr c18
           clear c18
           have H' := a_ H
           clear H
           have hnb19 := NB186_188.out
           have hnc19 := NB188_186.out
           obtain ⟨⟨Z20_0, Y20_0⟩, ⟨Z20_1, Y20_1⟩, ⟨Z20_2, Y20_2⟩, Z20_3, Y20_3⟩ := cs4_ BK186.out
           obtain ⟨⟨Z21_0, Y21_0⟩, ⟨Z21_1, Y21_1⟩, ⟨Z21_2, Y21_2⟩, Z21_3, Y21_3⟩ := cs4_ BK188.out
           go_wp2
           go_meet
           case rel => exact ⟨_, (((((rd_T38 l0 x16_1).f2).length : Int) != (((rd_T38 l1 x16_1).f2).length : Int))), (by first | rfl | (simp; done) | (simp [*]; done)), H', ⟨by have := HK1.out; first | omega | exact Nat.le_refl _⟩, ⟨kf1_ BK186.out NB186_188.out⟩, ⟨kp0_ BK188.out⟩, ⟨bS2_ HB.out GE186.out GE188.out⟩⟩
          ·rw [if_neg c18] at H
           have c18b0 : (((rd_T38 l0 x16_1).f1).toList == ((rd_T38 l1 x16_1).f1).toList) = false := beq_eq_false_iff_ne.mpr c18
           have c18b1 : (((rd_T38 l0 x16_1).f1).toList != ((rd_T38 l1 x16_1).f1).toList) = true := bne_iff_ne.mpr c18
           have H' := a_ H
           clear H
           have hnb22 := NB186_188.out
           have hnc22 := NB188_186.out
           obtain ⟨⟨Z23_0, Y23_0⟩, ⟨Z23_1, Y23_1⟩, ⟨Z23_2, Y23_2⟩, Z23_3, Y23_3⟩ := cs4_ BK186.out
           obtain ⟨⟨Z24_0, Y24_0⟩, ⟨Z24_1, Y24_1⟩, ⟨Z24_2, Y24_2⟩, Z24_3, Y24_3⟩ := cs4_ BK188.out
           go_wp2
           go_meet
           case rel => exact ⟨_, (true), (by first | rfl | (simp; done) | (simp [*]; done)), H', ⟨by have := HK1.out; first | omega | exact Nat.le_refl _⟩, ⟨kf1_ BK186.out NB186_188.out⟩, ⟨kp0_ BK188.out⟩, ⟨bS2_ HB.out GE186.out GE188.out⟩⟩
        case rest =>
         clear HC8
         try clear c1
         try clear p1
         try clear q1
         try clear hx1
         try clear c2
         try clear p2
         try clear c3
         try clear c3b0
         try clear c3b1
         try clear c3b2
         try clear c4
         try clear c4b0
         try clear c5
         try clear c5b0
         try clear c6
         try clear c6b0
         try clear c7
         try clear c7b0
         try clear c12
         try clear c14
         try clear c14b0
         try clear c14b1
         try clear c14b2
         try clear c15
         try clear c16
         try clear c18
         try clear c18b0
         try clear c18b1
         try clear p18
         try clear q18
         try clear hx18
         try clear c19
         try clear c22
         try clear Z10_0
         try clear Z10_1
         try clear Z10_2
         try clear Z10_3
         try clear Z13_0
         try clear Z13_1
         try clear Z13_2
         try clear Z13_3
         try clear Z16_0
         try clear Z16_1
         try clear Z16_2
         try clear Z16_3
         try clear Z17_0
         try clear Z17_1
         try clear Z17_2
         try clear Z17_3
         try clear Z20_0
         try clear Z20_1
         try clear Z20_2
         try clear Z20_3
         try clear Z21_0
         try clear Z21_1
         try clear Z21_2
         try clear Z21_3
         try clear Z23_0
         try clear Z23_1
         try clear Z23_2
         try clear Z23_3
         try clear Z24_0
         try clear Z24_1
         try clear Z24_2
         try clear Z24_3
         try clear Y10_0
         try clear Y10_1
         try clear Y10_2
         try clear Y10_3
         try clear Y13_0
         try clear Y13_1
         try clear Y13_2
         try clear Y13_3
         try clear Y16_0
         try clear Y16_1
         try clear Y16_2
         try clear Y16_3
         try clear Y17_0
         try clear Y17_1
         try clear Y17_2
         try clear Y17_3
         try clear Y20_0
         try clear Y20_1
         try clear Y20_2
         try clear Y20_3
         try clear Y21_0
         try clear Y21_1
         try clear Y21_2
         try clear Y21_3
         try clear Y23_0
         try clear Y23_1
         try clear Y23_2
         try clear Y23_3
         try clear Y24_0
         try clear Y24_1
         try clear Y24_2
         try clear Y24_3
         try clear hx185_0
         try clear hx185_1
         try clear hx185_2
         try clear hx185_3
         try clear hx187_0
         try clear hx187_1
         try clear hx187_2
         try clear hx187_3
         try clear p185
         try clear p187
         try clear p2
         try clear q185
         try clear q187
         obtain ⟨kq, x45_7, rfl, HA, HJ7, BK186, BK188, HB⟩ := hcut
         cases kq with
         | zero => exact absurd HA.out (by simp [tree_Same.j1])
         | succ kj7 =>
          have H := HA.out
          clear HA
          simp only [tree_Same.j1] at H
          by_cases c25 : x45_7 = true
          ·subst c25
           have H1 : (some false) = some r := by rw [if_pos rfl] at H; exact H
           clear H
           have H := H1
           clear H1
           obtain rfl := Option.some.inj H
           go_wp2
           go_ret
           exact ⟨by first | rfl | (simp [errW_none, errW_some] <;> rfl) | (simp [*, errW_none, errW_some] <;> rfl), bS2_ HB.out GE186.out GE188.out⟩
          ·replace c25 := Bool.eq_false_iff.mpr c25
           subst c25
           have H1 : (tree_Same.l1 kj7 l1 l0 (l0.length : Int) x16_1 (((rd_T38 l0 x16_1).f2).length : Int) 0 ((rd_T38 l0 x16_1).f0) ((rd_T38 l0 x16_1).f1) ((rd_T38 l0 x16_1).f2) ((rd_T38 l0 x16_1).f3) ((rd_T38 l1 x16_1).f0) ((rd_T38 l1 x16_1).f1) ((rd_T38 l1 x16_1).f2) ((rd_T38 l1 x16_1).f3)) = some r := by rw [if_neg (show ¬ (false = true) by decide)] at H; exact H
           clear H
           have H := H1
           clear H1
           have H' := a_ H
           clear H
           have hnb26 := NB186_188.out
           have hnc26 := NB188_186.out
           obtain ⟨⟨Z27_0, Y27_0⟩, ⟨Z27_1, Y27_1⟩, ⟨Z27_2, Y27_2⟩, Z27_3, Y27_3⟩ := cs4_ BK186.out
           go_wp2
           go_loopg [49] kj7 (fun kq v49 w' => ∃ (x49_3 : Int), v49 = .int .i64 x49_3 ∧ Aside0 (tree_Same.l1 kq l1 l0 (l0.length : Int) x16_1 (((rd_T38 l0 x16_1).f2).length : Int) x49_3 ((rd_T38 l0 x16_1).f0) ((rd_T38 l0 x16_1).f1) ((rd_T38 l0 x16_1).f2) ((rd_T38 l0 x16_1).f3) ((rd_T38 l1 x16_1).f0) ((rd_T38 l1 x16_1).f1) ((rd_T38 l1 x16_1).f2) ((rd_T38 l1 x16_1).f3) = some r) ∧ Aside0 (kq ≤ kj7) ∧ Aside0 (w'.heap[gb186]? = some (.cells #[.bool ((rd_T38 l0 x16_1).f0), .string ((rd_T38 l0 x16_1).f1), (.slice A185_2 ((rd_T38 l0 x16_1).f2).length c185_2), .int .i64 ((rd_T38 l0 x16_1).f3)] 38 (0, 0))) ∧ Aside0 (w'.heap[gb188]? = some (.cells #[.bool ((rd_T38 l1 x16_1).f0), .string ((rd_T38 l1 x16_1).f1), (.slice A187_2 ((rd_T38 l1 x16_1).f2).length c187_2), .int .i64 ((rd_T38 l1 x16_1).f3)] 38 (0, 0))) ∧ Aside0 (Below w.heap.size w w'))
           case atStart => exact ⟨(0), (by first | rfl | (simp; done) | (simp [*]; done)), H', ⟨Nat.le_refl _⟩, ⟨kv_ BK186.out⟩, ⟨kv_ BK188.out⟩, ⟨bS2_ HB.out GE186.out GE188.out⟩⟩
           case round =>
            clear H'
            try clear c1
            try clear p1
            try clear q1
            try clear hx1
            try clear c2
            try clear p2
            try clear c3
            try clear c3b0
            try clear c3b1
            try clear c3b2
            try clear c4
            try clear c4b0
            try clear c5
            try clear c5b0
            try clear c6
            try clear c6b0
            try clear c7
            try clear c7b0
            try clear c12
            try clear c14
            try clear c14b0
            try clear c14b1
            try clear c14b2
            try clear c15
            try clear c16
            try clear c18
            try clear c18b0
            try clear c18b1
            try clear p18
            try clear q18
            try clear hx18
            try clear c19
            try clear c22
            try clear c25
            try clear c26
            try clear Z10_0
            try clear Z10_1
            try clear Z10_2
            try clear Z10_3
            try clear Z13_0
            try clear Z13_1
            try clear Z13_2
            try clear Z13_3
            try clear Z16_0
            try clear Z16_1
            try clear Z16_2
            try clear Z16_3
            try clear Z17_0
            try clear Z17_1
            try clear Z17_2
            try clear Z17_3
            try clear Z20_0
            try clear Z20_1
            try clear Z20_2
            try clear Z20_3
            try clear Z21_0
            try clear Z21_1
            try clear Z21_2
            try clear Z21_3
            try clear Z23_0
            try clear Z23_1
            try clear Z23_2
            try clear Z23_3
            try clear Z24_0
            try clear Z24_1
            try clear Z24_2
            try clear Z24_3
            try clear Z27_0
            try clear Z27_1
            try clear Z27_2
            try clear Z27_3
            try clear Y10_0
            try clear Y10_1
            try clear Y10_2
            try clear Y10_3
            try clear Y13_0
            try clear Y13_1
            try clear Y13_2
            try clear Y13_3
            try clear Y16_0
            try clear Y16_1
            try clear Y16_2
            try clear Y16_3
            try clear Y17_0
            try clear Y17_1
            try clear Y17_2
            try clear Y17_3
            try clear Y20_0
            try clear Y20_1
            try clear Y20_2
            try clear Y20_3
            try clear Y21_0
            try clear Y21_1
            try clear Y21_2
            try clear Y21_3
            try clear Y23_0
            try clear Y23_1
            try clear Y23_2
            try clear Y23_3
            try clear Y24_0
            try clear Y24_1
            try clear Y24_2
            try clear Y24_3
            try clear Y27_0
            try clear Y27_1
            try clear Y27_2
            try clear Y27_3
            try clear hx185_0
            try clear hx185_1
            try clear hx185_2
            try clear hx185_3
            try clear hx187_0
            try clear hx187_1
            try clear hx187_2
            try clear hx187_3
            try clear p1
            try clear p18
            try clear p185
            try clear p187
            try clear p2
            try clear q1
            try clear q18
            try clear q185
            try clear q187
            obtain ⟨x49_3, rfl, HA, HK3, BK186, BK188, HB⟩ := hrel
            cases gk with
            | zero => exact absurd HA.out (by simp [tree_Same.l1])
            | succ k3 =>
             have H := HA.out
             clear HA
             simp only [tree_Same.l1] at H
             by_cases c28 : x49_3 < (((rd_T38 l0 x16_1).f2).length : Int)
             ·rw [if_pos c28] at H
              have c28b0 : decide (x49_3 < (((rd_T38 l0 x16_1).f2).length : Int)) = true := decide_eq_true c28
              clear c28
              by_cases c29 : 0 ≤ x49_3
              ·rw [if_pos c29] at H
               have c29b0 : decide (0 ≤ x49_3) = true := decide_eq_true c29
               clear c29
               by_cases c30 : x49_3 < (((rd_T38 l0 x16_1).f2).length : Int)
               ·rw [if_pos c30] at H
                have c30b0 : decide (x49_3 < (((rd_T38 l0 x16_1).f2).length : Int)) = true := decide_eq_true c30
                clear c30
                by_cases c31 : x49_3 < (((rd_T38 l1 x16_1).f2).length : Int)
                ·rw [if_pos c31] at H
                 have c31b0 : decide (x49_3 < (((rd_T38 l1 x16_1).f2).length : Int)) = true := decide_eq_true c31
                 clear c31
                 replace H := Option.bind_eq_some_iff.mp H
                 obtain ⟨t191, A320, H⟩ := H
                 replace H : (if t191 = true then (tree_Same.l1 k3 l1 l0 (l0.length : Int) x16_1 (((rd_T38 l0 x16_1).f2).length : Int) (wrap64 (x49_3 + 1)) ((rd_T38 l0 x16_1).f0) ((rd_T38 l0 x16_1).f1) ((rd_T38 l0 x16_1).f2) ((rd_T38 l0 x16_1).f3) ((rd_T38 l1 x16_1).f0) ((rd_T38 l1 x16_1).f1) ((rd_T38 l1 x16_1).f2) ((rd_T38 l1 x16_1).f3)) else (some false)) = some r := H
                 have A32 := a_ A320
                 clear A320
                 by_cases c33 : t191 = true
                 ·subst c33
                  have H1 : (tree_Same.l1 k3 l1 l0 (l0.length : Int) x16_1 (((rd_T38 l0 x16_1).f2).length : Int) (wrap64 (x49_3 + 1)) ((rd_T38 l0 x16_1).f0) ((rd_T38 l0 x16_1).f1) ((rd_T38 l0 x16_1).f2) ((rd_T38 l0 x16_1).f3) ((rd_T38 l1 x16_1).f0) ((rd_T38 l1 x16_1).f1) ((rd_T38 l1 x16_1).f2) ((rd_T38 l1 x16_1).f3)) = some r := by rw [if_pos rfl] at H; exact H
                  clear H
                  have H := H1
                  clear H1
                  have H' := a_ H
                  clear H
                  try go_wp2
                  have n0_ := a_ (blk_drew BK186.out)
                  have n1_ := a_ (blk_drew BK188.out)
                  have n2_ := a_ (below_drew1 HB.out)
                  clear BK186
                  clear BK188
                  clear HB
                  have BK186 := n0_
                  have BK188 := n1_
                  have HB := n2_
                  clear n0_ n1_ n2_
                  have p189 : 0 ≤ (x49_3 : Int) := od_
                  have q189 : x49_3 < (((rd_T38 l0 x16_1).f2).length : Int) := od_
                  obtain ⟨ad189, A189_0, c189_0, e189, hx189_0, hl189_0, hi189_0⟩ := at_L5 HR185_2.out x49_3 p189 q189
                  have hw189_0 := hx189_0
                  cases e189
                  try replace hx189_0 := up_ HB.out hx189_0
                  have HR189_0 := a_ hi189_0
                  have HC189_0 := a_ hl189_0
                  clear hi189_0 hl189_0
                  replace p189 := eq_true p189
                  replace q189 := eq_true q189
                  have p190 : 0 ≤ (x49_3 : Int) := od_
                  have q190 : x49_3 < (((rd_T38 l1 x16_1).f2).length : Int) := od_
                  obtain ⟨ad190, A190_0, c190_0, e190, hx190_0, hl190_0, hi190_0⟩ := at_L5 HR187_2.out x49_3 p190 q190
                  have hw190_0 := hx190_0
                  cases e190
                  try replace hx190_0 := up_ HB.out hx190_0
                  have HR190_0 := a_ hi190_0
                  have HC190_0 := a_ hl190_0
                  clear hi190_0 hl190_0
                  replace p190 := eq_true p190
                  replace q190 := eq_true q190
                  refine start_ (n := 12) (S := fun w' => w'.cell? ⟨gb186, 0, none⟩ = some (.bool ((rd_T38 l0 x16_1).f0)) ∧ w'.cell? ⟨gb186, 1, none⟩ = some (.string ((rd_T38 l0 x16_1).f1)) ∧ w'.cell? ⟨gb186, 2, none⟩ = some (.slice (some ad189) ((rd_T38 l0 x16_1).f2).length c185_2) ∧ w'.cell? ⟨gb186, 3, none⟩ = some (.int .i64 ((rd_T38 l0 x16_1).f3)) ∧ w'.cell? ⟨gb188, 0, none⟩ = some (.bool ((rd_T38 l1 x16_1).f0)) ∧ w'.cell? ⟨gb188, 1, none⟩ = some (.string ((rd_T38 l1 x16_1).f1)) ∧ w'.cell? ⟨gb188, 2, none⟩ = some (.slice (some ad190) ((rd_T38 l1 x16_1).f2).length c187_2) ∧ w'.cell? ⟨gb188, 3, none⟩ = some (.int .i64 ((rd_T38 l1 x16_1).f3)) ∧ w'.cell? (ad189.add (x49_3).toNat) = some (.slice A189_0 (rd_L5 ((rd_T38 l0 x16_1).f2) x49_3).length c189_0) ∧ w'.cell? (ad190.add (x49_3).toNat) = some (.slice A190_0 (rd_L5 ((rd_T38 l1 x16_1).f2) x49_3).length c190_0)) (ds := []) #[false, false, false, false, false, false, false, false, false, false, false, false] (by kernel_rfl) rfl rfl ⟨(blk_cell BK186.out 0).trans rfl, (blk_cell BK186.out 1).trans rfl, (blk_cell BK186.out 2).trans rfl, (blk_cell BK186.out 3).trans rfl, (blk_cell BK188.out 0).trans rfl, (blk_cell BK188.out 1).trans rfl, (blk_cell BK188.out 2).trans rfl, (blk_cell BK188.out 3).trans rfl, (up_ HB.out hw189_0), (up_ HB.out hw190_0)⟩ (fun hHeld => ?_); refine with_tabW tree_Same.tab12 tree_Same.bits12 (fun HT_ HW_ => ?_)
                  generalize wr.drew = w34 at BK186 BK188 HB HR189_0 HR190_0 hx189_0 hx190_0 hHeld ⊢
                  refine pure_ (i := 0) (N := some 52) #[true, false, false, false, false, false, false, false, false, false, false, false] rfl rfl (any_of HT_.out (by kernel_rfl)) (fun _ _ _ h => h) (Or.inl ⟨by rfl, fun w' => by go_simp; with_reducible rfl⟩) (by simp only [Act.put, List.setIfInBounds_toArray, List.set_cons_zero, List.set_cons_succ, i64_w, i32_w]; rfl) ?_
                  refine pure_ (i := 2) (N := some 54) #[true, false, true, false, false, false, false, false, false, false, false, false] rfl rfl (any_of HT_.out (by kernel_rfl)) (fun _ _ _ h => h) (Or.inl ⟨by rfl, fun w' => by go_simp; with_reducible rfl⟩) (by simp only [Act.put, List.setIfInBounds_toArray, List.set_cons_zero, List.set_cons_succ, i64_w, i32_w]; rfl) ?_
                  refine pure_ (i := 5) (N := some 57) #[true, false, true, false, false, true, false, false, false, false, false, false] rfl rfl (any_of HT_.out (by kernel_rfl)) (fun _ _ _ h => h) (Or.inl ⟨by rfl, fun w' => by go_simp; with_reducible rfl⟩) (by simp only [Act.put, List.setIfInBounds_toArray, List.set_cons_zero, List.set_cons_succ, i64_w, i32_w]; rfl) ?_
                  refine pure_ (i := 7) (N := some 59) #[true, false, true, false, false, true, false, true, false, false, false, false] rfl rfl (any_of HT_.out (by kernel_rfl)) (fun _ _ _ h => h) (Or.inl ⟨by rfl, fun w' => by go_simp; with_reducible rfl⟩) (by simp only [Act.put, List.setIfInBounds_toArray, List.set_cons_zero, List.set_cons_succ, i64_w, i32_w]; rfl) ?_
                  refine take_ (i := 1) (N := some 53) (v := ?_) (a' := ?_) #[true, true, true, false, false, true, false, true, false, false, false, false] rfl rfl (take_ofW HT_.out HW_.out (by kernel_rfl)) (fun _ _ _ h => h) (Or.inl ⟨by rfl, ?_⟩) hHeld ?_ ?_
                  rotate_left
                  ·rintro w' ⟨s0, s1, s2, s3, s4, s5, s6, s7, s8, s9⟩
                   go_simp
                   with_reducible rfl
                  rotate_left
                  ·simp only [Act.put, List.setIfInBounds_toArray, List.set_cons_zero, List.set_cons_succ, i64_w, i32_w]
                   rfl
                  refine pure_ (i := 3) (N := some 55) #[true, true, true, true, false, true, false, true, false, false, false, false] rfl rfl (any_of HT_.out (by kernel_rfl)) (fun _ _ _ h => h) (Or.inl ⟨by rfl, fun w' => by go_simp; with_reducible rfl⟩) (by simp only [Act.put, List.setIfInBounds_toArray, List.set_cons_zero, List.set_cons_succ, i64_w, i32_w]; rfl) ?_
                  refine take_ (i := 4) (N := some 56) (v := ?_) (a' := ?_) #[true, true, true, true, true, true, false, true, false, false, false, false] rfl rfl (take_ofW HT_.out HW_.out (by kernel_rfl)) (fun _ _ _ h => h) (Or.inl ⟨by rfl, ?_⟩) hHeld ?_ ?_
                  rotate_left
                  ·rintro w' ⟨s0, s1, s2, s3, s4, s5, s6, s7, s8, s9⟩
                   go_simp
                   with_reducible rfl
                  rotate_left
                  ·simp only [Act.put, List.setIfInBounds_toArray, List.set_cons_zero, List.set_cons_succ, i64_w, i32_w]
                   rfl
                  refine take_ (i := 6) (N := some 58) (v := ?_) (a' := ?_) #[true, true, true, true, true, true, true, true, false, false, false, false] rfl rfl (take_ofW HT_.out HW_.out (by kernel_rfl)) (fun _ _ _ h => h) (Or.inl ⟨by rfl, ?_⟩) hHeld ?_ ?_
                  rotate_left
                  ·rintro w' ⟨s0, s1, s2, s3, s4, s5, s6, s7, s8, s9⟩
                   go_simp
                   with_reducible rfl
                  rotate_left
                  ·simp only [Act.put, List.setIfInBounds_toArray, List.set_cons_zero, List.set_cons_succ, i64_w, i32_w]
                   rfl
                  refine pure_ (i := 8) (N := some 60) #[true, true, true, true, true, true, true, true, true, false, false, false] rfl rfl (any_of HT_.out (by kernel_rfl)) (fun _ _ _ h => h) (Or.inl ⟨by rfl, fun w' => by go_simp; with_reducible rfl⟩) (by simp only [Act.put, List.setIfInBounds_toArray, List.set_cons_zero, List.set_cons_succ, i64_w, i32_w]; rfl) ?_
                  refine take_ (i := 9) (N := some 61) (v := ?_) (a' := ?_) #[true, true, true, true, true, true, true, true, true, true, false, false] rfl rfl (take_ofW HT_.out HW_.out (by kernel_rfl)) (fun _ _ _ h => h) (Or.inl ⟨by rfl, ?_⟩) hHeld ?_ ?_
                  rotate_left
                  ·rintro w' ⟨s0, s1, s2, s3, s4, s5, s6, s7, s8, s9⟩
                   go_simp
                   with_reducible rfl
                  rotate_left
                  ·simp only [Act.put, List.setIfInBounds_toArray, List.set_cons_zero, List.set_cons_succ, i64_w, i32_w]
                   rfl
                  refine one_ (i := 10) (N := some 62) #[true, true, true, true, true, true, true, true, true, true, true, false] rfl rfl (one_of HT_.out (by kernel_rfl)) (by decide) (fun K hK => ?_)
                  refine goes_ Try.func16 (by kernel_rfl) rfl #[.slice A189_0 (rd_L5 ((rd_T38 l0 x16_1).f2) x49_3).length c189_0, .slice A190_0 (rd_L5 ((rd_T38 l1 x16_1).f2) x49_3).length c190_0] (by rfl) rfl rfl (by (try simp only [List.map_toArray, List.map_cons, List.map_nil]); first | done | rfl | (simp only [List.length_drop, List.length_take]; rfl) | (simp only [*]; first | done | rfl)) ?_
                  with_reducible refine (ih k3 (by have := HK1.out; have := HJ7.out; have := HK3.out; omega) _ _ (rd_L5 ((rd_T38 l0 x16_1).f2) x49_3) _ _ (rd_L5 ((rd_T38 l1 x16_1).f2) x49_3) true _ ?side1 ?side2 ?side3 ?side4 A32.out).mono ?_
                  (case side1 => exact cw_ HR189_0.out HB.out)
                  (case side2 => exact HC189_0.out)
                  (case side3 => exact cw_ HR190_0.out HB.out)
                  (case side4 => exact HC190_0.out)
                  rintro e w35 ⟨rfl, hb⟩
                  refine ⟨_, rfl, ?_⟩
                  have n0_ := a_ (kb_ BK186.out hb)
                  have n1_ := a_ (kb_ BK188.out hb)
                  have n2_ := a_ (below_step (bS2_ HB.out GE186.out GE188.out) hb)
                  clear BK186
                  clear BK188
                  clear HB
                  have BK186 := n0_
                  have BK188 := n1_
                  have HB := n2_
                  clear n0_ n1_ n2_
                  (try clear hb)
                  (try clear hb2)
                  (try clear hk)
                  (try clear hi)
                  refine hK.out _ _ ⟨(blk_cell BK186.out 0).trans rfl, (blk_cell BK186.out 1).trans rfl, (blk_cell BK186.out 2).trans rfl, (blk_cell BK186.out 3).trans rfl, (blk_cell BK188.out 0).trans rfl, (blk_cell BK188.out 1).trans rfl, (blk_cell BK188.out 2).trans rfl, (blk_cell BK188.out 3).trans rfl, (up_ HB.out hw189_0), (up_ HB.out hw190_0)⟩ (fun hHeld => ?_)
                  clear hK K
                  refine norm_ (a' := ?_) ?_ ?_
                  rotate_left
                  ·show Act.put _ (some 62) _ = _
                   simp only [Act.put, List.setIfInBounds_toArray, List.set_cons_zero, List.set_cons_succ, i64_w, i32_w]
                   rfl
                  refine pure_ (i := 11) (N := some 63) #[true, true, true, true, true, true, true, true, true, true, true, true] rfl rfl (any_of HT_.out (by kernel_rfl)) (fun _ _ _ h => h) (Or.inl ⟨by rfl, fun w' => by go_simp; with_reducible rfl⟩) (by simp only [Act.put, List.setIfInBounds_toArray, List.set_cons_zero, List.set_cons_succ, i64_w, i32_w]; rfl) ?_
                  refine done_ (done_of HT_.out (by kernel_rfl)) ?_
                  try go_wp2
                  go_roundg k3
                  case measure => have := HK1.out; have := HJ7.out; have := HK3.out; omega
                  case rel => exact ⟨(wrap64 (x49_3 + 1)), (by first | rfl | (simp; done) | (simp [*]; done)), H', ⟨by have := HK1.out; have := HJ7.out; have := HK3.out; omega⟩, ⟨kv_ BK186.out⟩, ⟨kv_ BK188.out⟩, ⟨bS2_ HB.out GE186.out GE188.out⟩⟩
                 ·replace c33 := Bool.eq_false_iff.mpr c33
                  subst c33
                  have H1 : (some false) = some r := by rw [if_neg (show ¬ (false = true) by decide)] at H; exact H
                  clear H
                  have H := H1
                  clear H1
                  obtain rfl := Option.some.inj H
                  try go_wp2
                  have n0_ := a_ (blk_drew BK186.out)
                  have n1_ := a_ (blk_drew BK188.out)
                  have n2_ := a_ (below_drew1 HB.out)
                  clear BK186
                  clear BK188
                  clear HB
                  have BK186 := n0_
                  have BK188 := n1_
                  have HB := n2_
                  clear n0_ n1_ n2_
                  have p189 : 0 ≤ (x49_3 : Int) := od_
                  have q189 : x49_3 < (((rd_T38 l0 x16_1).f2).length : Int) := od_
                  obtain ⟨ad189, A189_0, c189_0, e189, hx189_0, hl189_0, hi189_0⟩ := at_L5 HR185_2.out x49_3 p189 q189
                  have hw189_0 := hx189_0
                  cases e189
                  try replace hx189_0 := up_ HB.out hx189_0
                  have HR189_0 := a_ hi189_0
                  have HC189_0 := a_ hl189_0
                  clear hi189_0 hl189_0
                  replace p189 := eq_true p189
                  replace q189 := eq_true q189
                  have p190 : 0 ≤ (x49_3 : Int) := od_
                  have q190 : x49_3 < (((rd_T38 l1 x16_1).f2).length : Int) := od_
                  obtain ⟨ad190, A190_0, c190_0, e190, hx190_0, hl190_0, hi190_0⟩ := at_L5 HR187_2.out x49_3 p190 q190
                  have hw190_0 := hx190_0
                  cases e190
                  try replace hx190_0 := up_ HB.out hx190_0
                  have HR190_0 := a_ hi190_0
                  have HC190_0 := a_ hl190_0
                  clear hi190_0 hl190_0
                  replace p190 := eq_true p190
                  replace q190 := eq_true q190
                  refine start_ (n := 12) (S := fun w' => w'.cell? ⟨gb186, 0, none⟩ = some (.bool ((rd_T38 l0 x16_1).f0)) ∧ w'.cell? ⟨gb186, 1, none⟩ = some (.string ((rd_T38 l0 x16_1).f1)) ∧ w'.cell? ⟨gb186, 2, none⟩ = some (.slice (some ad189) ((rd_T38 l0 x16_1).f2).length c185_2) ∧ w'.cell? ⟨gb186, 3, none⟩ = some (.int .i64 ((rd_T38 l0 x16_1).f3)) ∧ w'.cell? ⟨gb188, 0, none⟩ = some (.bool ((rd_T38 l1 x16_1).f0)) ∧ w'.cell? ⟨gb188, 1, none⟩ = some (.string ((rd_T38 l1 x16_1).f1)) ∧ w'.cell? ⟨gb188, 2, none⟩ = some (.slice (some ad190) ((rd_T38 l1 x16_1).f2).length c187_2) ∧ w'.cell? ⟨gb188, 3, none⟩ = some (.int .i64 ((rd_T38 l1 x16_1).f3)) ∧ w'.cell? (ad189.add (x49_3).toNat) = some (.slice A189_0 (rd_L5 ((rd_T38 l0 x16_1).f2) x49_3).length c189_0) ∧ w'.cell? (ad190.add (x49_3).toNat) = some (.slice A190_0 (rd_L5 ((rd_T38 l1 x16_1).f2) x49_3).length c190_0)) (ds := []) #[false, false, false, false, false, false, false, false, false, false, false, false] (by kernel_rfl) rfl rfl ⟨(blk_cell BK186.out 0).trans rfl, (blk_cell BK186.out 1).trans rfl, (blk_cell BK186.out 2).trans rfl, (blk_cell BK186.out 3).trans rfl, (blk_cell BK188.out 0).trans rfl, (blk_cell BK188.out 1).trans rfl, (blk_cell BK188.out 2).trans rfl, (blk_cell BK188.out 3).trans rfl, (up_ HB.out hw189_0), (up_ HB.out hw190_0)⟩ (fun hHeld => ?_); refine with_tabW tree_Same.tab12 tree_Same.bits12 (fun HT_ HW_ => ?_)
                  generalize wr.drew = w36 at BK186 BK188 HB HR189_0 HR190_0 hx189_0 hx190_0 hHeld ⊢
                  refine pure_ (i := 0) (N := some 52) #[true, false, false, false, false, false, false, false, false, false, false, false] rfl rfl (any_of HT_.out (by kernel_rfl)) (fun _ _ _ h => h) (Or.inl ⟨by rfl, fun w' => by go_simp; with_reducible rfl⟩) (by simp only [Act.put, List.setIfInBounds_toArray, List.set_cons_zero, List.set_cons_succ, i64_w, i32_w]; rfl) ?_
                  refine pure_ (i := 2) (N := some 54) #[true, false, true, false, false, false, false, false, false, false, false, false] rfl rfl (any_of HT_.out (by kernel_rfl)) (fun _ _ _ h => h) (Or.inl ⟨by rfl, fun w' => by go_simp; with_reducible rfl⟩) (by simp only [Act.put, List.setIfInBounds_toArray, List.set_cons_zero, List.set_cons_succ, i64_w, i32_w]; rfl) ?_
                  refine pure_ (i := 5) (N := some 57) #[true, false, true, false, false, true, false, false, false, false, false, false] rfl rfl (any_of HT_.out (by kernel_rfl)) (fun _ _ _ h => h) (Or.inl ⟨by rfl, fun w' => by go_simp; with_reducible rfl⟩) (by simp only [Act.put, List.setIfInBounds_toArray, List.set_cons_zero, List.set_cons_succ, i64_w, i32_w]; rfl) ?_
                  refine pure_ (i := 7) (N := some 59) #[true, false, true, false, false, true, false, true, false, false, false, false] rfl rfl (any_of HT_.out (by kernel_rfl)) (fun _ _ _ h => h) (Or.inl ⟨by rfl, fun w' => by go_simp; with_reducible rfl⟩) (by simp only [Act.put, List.setIfInBounds_toArray, List.set_cons_zero, List.set_cons_succ, i64_w, i32_w]; rfl) ?_
                  refine take_ (i := 1) (N := some 53) (v := ?_) (a' := ?_) #[true, true, true, false, false, true, false, true, false, false, false, false] rfl rfl (take_ofW HT_.out HW_.out (by kernel_rfl)) (fun _ _ _ h => h) (Or.inl ⟨by rfl, ?_⟩) hHeld ?_ ?_
                  rotate_left
                  ·rintro w' ⟨s0, s1, s2, s3, s4, s5, s6, s7, s8, s9⟩
                   go_simp
                   with_reducible rfl
                  rotate_left
                  ·simp only [Act.put, List.setIfInBounds_toArray, List.set_cons_zero, List.set_cons_succ, i64_w, i32_w]
                   rfl
                  refine pure_ (i := 3) (N := some 55) #[true, true, true, true, false, true, false, true, false, false, false, false] rfl rfl (any_of HT_.out (by kernel_rfl)) (fun _ _ _ h => h) (Or.inl ⟨by rfl, fun w' => by go_simp; with_reducible rfl⟩) (by simp only [Act.put, List.setIfInBounds_toArray, List.set_cons_zero, List.set_cons_succ, i64_w, i32_w]; rfl) ?_
                  refine take_ (i := 4) (N := some 56) (v := ?_) (a' := ?_) #[true, true, true, true, true, true, false, true, false, false, false, false] rfl rfl (take_ofW HT_.out HW_.out (by kernel_rfl)) (fun _ _ _ h => h) (Or.inl ⟨by rfl, ?_⟩) hHeld ?_ ?_
                  rotate_left
                  ·rintro w' ⟨s0, s1, s2, s3, s4, s5, s6, s7, s8, s9⟩
                   go_simp
                   with_reducible rfl
                  rotate_left
                  ·simp only [Act.put, List.setIfInBounds_toArray, List.set_cons_zero, List.set_cons_succ, i64_w, i32_w]
                   rfl
                  refine take_ (i := 6) (N := some 58) (v := ?_) (a' := ?_) #[true, true, true, true, true, true, true, true, false, false, false, false] rfl rfl (take_ofW HT_.out HW_.out (by kernel_rfl)) (fun _ _ _ h => h) (Or.inl ⟨by rfl, ?_⟩) hHeld ?_ ?_
                  rotate_left
                  ·rintro w' ⟨s0, s1, s2, s3, s4, s5, s6, s7, s8, s9⟩
                   go_simp
                   with_reducible rfl
                  rotate_left
                  ·simp only [Act.put, List.setIfInBounds_toArray, List.set_cons_zero, List.set_cons_succ, i64_w, i32_w]
                   rfl
                  refine pure_ (i := 8) (N := some 60) #[true, true, true, true, true, true, true, true, true, false, false, false] rfl rfl (any_of HT_.out (by kernel_rfl)) (fun _ _ _ h => h) (Or.inl ⟨by rfl, fun w' => by go_simp; with_reducible rfl⟩) (by simp only [Act.put, List.setIfInBounds_toArray, List.set_cons_zero, List.set_cons_succ, i64_w, i32_w]; rfl) ?_
                  refine take_ (i := 9) (N := some 61) (v := ?_) (a' := ?_) #[true, true, true, true, true, true, true, true, true, true, false, false] rfl rfl (take_ofW HT_.out HW_.out (by kernel_rfl)) (fun _ _ _ h => h) (Or.inl ⟨by rfl, ?_⟩) hHeld ?_ ?_
                  rotate_left
                  ·rintro w' ⟨s0, s1, s2, s3, s4, s5, s6, s7, s8, s9⟩
                   go_simp
                   with_reducible rfl
                  rotate_left
                  ·simp only [Act.put, List.setIfInBounds_toArray, List.set_cons_zero, List.set_cons_succ, i64_w, i32_w]
                   rfl
                  refine one_ (i := 10) (N := some 62) #[true, true, true, true, true, true, true, true, true, true, true, false] rfl rfl (one_of HT_.out (by kernel_rfl)) (by decide) (fun K hK => ?_)
                  refine goes_ Try.func16 (by kernel_rfl) rfl #[.slice A189_0 (rd_L5 ((rd_T38 l0 x16_1).f2) x49_3).length c189_0, .slice A190_0 (rd_L5 ((rd_T38 l1 x16_1).f2) x49_3).length c190_0] (by rfl) rfl rfl (by (try simp only [List.map_toArray, List.map_cons, List.map_nil]); first | done | rfl | (simp only [List.length_drop, List.length_take]; rfl) | (simp only [*]; first | done | rfl)) ?_
                  with_reducible refine (ih k3 (by have := HK1.out; have := HJ7.out; have := HK3.out; omega) _ _ (rd_L5 ((rd_T38 l0 x16_1).f2) x49_3) _ _ (rd_L5 ((rd_T38 l1 x16_1).f2) x49_3) false _ ?side1 ?side2 ?side3 ?side4 A32.out).mono ?_
                  (case side1 => exact cw_ HR189_0.out HB.out)
                  (case side2 => exact HC189_0.out)
                  (case side3 => exact cw_ HR190_0.out HB.out)
                  (case side4 => exact HC190_0.out)
                  rintro e w37 ⟨rfl, hb⟩
                  refine ⟨_, rfl, ?_⟩
                  have n0_ := a_ (kb_ BK186.out hb)
                  have n1_ := a_ (kb_ BK188.out hb)
                  have n2_ := a_ (below_step (bS2_ HB.out GE186.out GE188.out) hb)
                  clear BK186
                  clear BK188
                  clear HB
                  have BK186 := n0_
                  have BK188 := n1_
                  have HB := n2_
                  clear n0_ n1_ n2_
                  (try clear hb)
                  (try clear hb2)
                  (try clear hk)
                  (try clear hi)
                  refine hK.out _ _ ⟨(blk_cell BK186.out 0).trans rfl, (blk_cell BK186.out 1).trans rfl, (blk_cell BK186.out 2).trans rfl, (blk_cell BK186.out 3).trans rfl, (blk_cell BK188.out 0).trans rfl, (blk_cell BK188.out 1).trans rfl, (blk_cell BK188.out 2).trans rfl, (blk_cell BK188.out 3).trans rfl, (up_ HB.out hw189_0), (up_ HB.out hw190_0)⟩ (fun hHeld => ?_)
                  clear hK K
                  refine norm_ (a' := ?_) ?_ ?_
                  rotate_left
                  ·show Act.put _ (some 62) _ = _
                   simp only [Act.put, List.setIfInBounds_toArray, List.set_cons_zero, List.set_cons_succ, i64_w, i32_w]
                   rfl
                  refine pure_ (i := 11) (N := some 63) #[true, true, true, true, true, true, true, true, true, true, true, true] rfl rfl (any_of HT_.out (by kernel_rfl)) (fun _ _ _ h => h) (Or.inl ⟨by rfl, fun w' => by go_simp; with_reducible rfl⟩) (by simp only [Act.put, List.setIfInBounds_toArray, List.set_cons_zero, List.set_cons_succ, i64_w, i32_w]; rfl) ?_
                  refine done_ (done_of HT_.out (by kernel_rfl)) ?_
                  try go_wp2
                  go_ret
                  exact ⟨by first | rfl | (simp [errW_none, errW_some] <;> rfl) | (simp [*, errW_none, errW_some] <;> rfl), bS2_ HB.out GE186.out GE188.out⟩
                ·rw [if_neg c31] at H
                 exact absurd H (by simp)
               ·rw [if_neg c30] at H
                exact absurd H (by simp)
              ·rw [if_neg c29] at H
               exact absurd H (by simp)
             ·rw [if_neg c28] at H
              have c28b0 : decide (x49_3 < (((rd_T38 l0 x16_1).f2).length : Int)) = false := decide_eq_false c28
              clear c28
              have H' := a_ H
              clear H
              go_wp2
              go_roundg k3
              case measure => have := HK1.out; have := HJ7.out; have := HK3.out; omega
              case rel => exact ⟨(wrap64 (x16_1 + 1)), (by first | rfl | (simp; done) | (simp [*]; done)), H', ⟨by have := HK1.out; have := HJ7.out; have := HK3.out; omega⟩, ⟨bS2_ HB.out GE186.out GE188.out⟩⟩
       ·rw [if_neg c7] at H
        exact absurd H (by simp)
      ·rw [if_neg c6] at H
       exact absurd H (by simp)
     ·rw [if_neg c5] at H
      exact absurd H (by simp)
    ·rw [if_neg c4] at H
     have c4b0 : decide (x16_1 < (l0.length : Int)) = false := decide_eq_false c4
     clear c4
     obtain rfl := Option.some.inj H
     go_wp2
     go_ret
     exact ⟨by first | rfl | (simp [errW_none, errW_some] <;> rfl) | (simp [*, errW_none, errW_some] <;> rfl), bv_ HB.out⟩
 ·rw [if_neg c3] at H
  have c3b0 : ((l0.length : Int) == (l1.length : Int)) = false := beq_eq_false_iff_ne.mpr c3
  have c3b1 : ((l0.length : Int) != (l1.length : Int)) = true := bne_iff_ne.mpr c3
  have c3b2 : (l0.length == l1.length) = false := by first | simpa using c3 | (simp at c3 ⊢; omega)
  obtain rfl := Option.some.inj H
  go_enter Try.func16, Try.ntmps16
  go_wp2
  go_ret
  exact ⟨by first | rfl | (simp [errW_none, errW_some] <;> rfl) | (simp [*, errW_none, errW_some] <;> rfl), bv_ HB.out⟩

end Go.Proofs.Ytjppjlhhdfkloaa.PTp

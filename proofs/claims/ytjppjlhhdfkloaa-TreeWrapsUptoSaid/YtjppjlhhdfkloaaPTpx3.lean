/- Written by a program of this session: functions of the given program as plain Lean functions, the walks that show it, and the row of each law, for every input that its statement speaks of. -/
import Derived.Test.YtjppjlhhdfkloaaPTpx0
import Derived.Test.YtjppjlhhdfkloaaPTpx2
namespace Go.Proofs.Ytjppjlhhdfkloaa.PTp
open Go.RowKit Go.Proofs.YtjppjlhhdfkloaaW.PrintWords Go.Proofs.YtjppjlhhdfkloaaW.PrintLast Go.Proofs.YtjppjlhhdfkloaaW.PrintMore
attribute [local go_sem] max2_int min2_int max_two min_two max_three min_three max_four min_four   -- for this text's walks alone
set_option linter.unusedVariables false
set_option linter.unusedSimpArgs false

/-! ### parser.peek: function 31, by hand -/
def tpeek.f : Nat → List S44 → Int → Option (Int × S44 × Bool)
 | 0, _, _ => none
 | k + 1, l, a => if a < (l.length : Int) then (if 0 ≤ a then (if (rd_T44 l a).f0 ≥ 0 then (if (rd_T44 l a).f0 < 4 then some (a, rd_T44 l a, true) else tpeek.f k l (wrap64 (a + 1))) else tpeek.f k l (wrap64 (a + 1))) else none) else some (a, z44, false)
theorem tpeek.mono : ∀ k l a, LeO (tpeek.f k l a) (tpeek.f (k + 1) l a)
 | 0 => fun _ _ r h => by simp [tpeek.f] at h
 | k + 1 => by
  intro l a
  have ih := tpeek.mono k
  unfold tpeek.f
  exact LeO.ite (LeO.ite (LeO.ite (LeO.ite (LeO.refl _) (ih _ _)) (ih _ _)) (LeO.refl _)) (LeO.refl _)
set_option maxHeartbeats 8000000 in
set_option maxRecDepth 100000 in
theorem tpeek.calls (k : Nat) (g : Nat) (l : List S44) (at_ fc fa : Int) (at' : Int) (t : S44) (b : Bool) (w0 w : World) (hI : IsS48 w0 w g l at_ fc fa) (hB : Below w0.heap.size w0 w) (h : tpeek.f k l at_ = some (at', t, b)) :
  Calls Try.prog 31 #[.pointer (some ⟨g, 0, none⟩)] w fun e w' => e = .returned (.tuple #[.agg #[.int .i64 t.f0, .string t.f1, .int .i64 t.f2], .bool b]) ∧ IsS48 w0 w' g l at' fc fa ∧ Below w0.heap.size w0 w' ∧ KeepBut w w' g none := by
 have hu44 := Try.underlying44
 have hu22 := Try.underlying22
 have hu48 := Try.underlying48
 have HI := Aside0.mk hI
 have HK := Aside0.mk (KeepBut.refl w g none)
 have HB := Aside0.mk hB
 have HB0 := Aside0.mk hB.size
 have H' := Aside0.mk h
 clear hI hB h
 go_enter Try.func31, Try.ntmps31
 go_wp2_with (first | ((with_reducible refine gate_dst (N := 2) rfl ?_); refine box_event ?hg (N := 2) ?hd (cs := #[.int .i64 0, .string ⟨#[]⟩, .int .i64 0]) (t := 44) ?hr ?_; (case hd => rfl); (case hg => rfl); (case hr => first | (go_simp; done) | (go_simp; rfl)); intro g2 hg w1 hbox hb; have BX := Aside0.mk hbox; have IS := Aside0.mk (IsS48.below HI.out hb); have HB1 := Aside0.mk (below_then HB.out HB.out.size hb); have HK1 := Aside0.mk (KeepBut.trans HK.out (KeepBut.of_below hb g none) (.inl rfl)); have G2 := Aside0.mk (show w.heap.size ≤ g2 by rw [hg]; exact Nat.le_refl _); have NG2 := Aside0.mk (show g2 ≠ g by rw [hg]; exact Nat.ne_of_gt (IsS48.lt HI.out)); have NG2g := Aside0.mk (show g ≠ g2 by rw [hg]; exact Nat.ne_of_lt (IsS48.lt HI.out)); clear hb hbox hg HI HB HK))
 go_loopg [] k (fun kq w' => ∃ (a : Int), Aside0 (tpeek.f kq l a = some (at', t, b)) ∧ Aside0 (kq ≤ k) ∧ Aside0 (IsS48 w0 w' g l a fc fa) ∧ Aside0 (Below w0.heap.size w0 w') ∧ Aside0 (KeepBut w w' g none) ∧ Aside0 (w'.heap[g2]? = some (.cells #[.int .i64 0, .string ⟨#[]⟩, .int .i64 0] 44 (0, 0))))
 case atStart => exact ⟨_, H', ⟨Nat.le_refl _⟩, IS, HB1, HK1, BX⟩
 case round =>
  clear H' IS HB1 HK1 BX
  obtain ⟨a, HA, HK0, IS, HB, HK, BX⟩ := hrel
  have G2W := Aside0.mk (show w0.heap.size ≤ g2 by have := G2.out; have := HB0.out; omega)
  cases gk with
  | zero => exact absurd HA.out (by simp [tpeek.f])
  | succ k1 =>
   have H := HA.out
   clear HA
   simp only [tpeek.f] at H
   obtain ⟨A0, c0, hk, hge, hr⟩ := IS.out
   have hc0 := cellS48_0 hk
   have hc1 := cellS48_1 hk
   by_cases c5 : a < (l.length : Int)
   ·rw [if_pos c5] at H
    by_cases c6 : 0 ≤ a
    ·rw [if_pos c6] at H
     obtain ⟨ad, e1, hx0, hx1, hx2⟩ := at_T44 hr a c6 c5
     cases e1
     have AD := Aside0.mk (World.block_lt_of_cell? w0 _ hx0)
     replace hx0 := (HB.out.cell (World.block_lt_of_cell? w0 _ hx0)).trans hx0
     replace hx1 := (HB.out.cell (World.block_lt_of_cell? w0 _ hx1)).trans hx1
     replace hx2 := (HB.out.cell (World.block_lt_of_cell? w0 _ hx2)).trans hx2
     have c5b := decide_eq_true c5
     replace c6 := eq_true c6
     replace c5 := eq_true c5
     have H2 := Aside0.mk H
     clear H hk hge
     go_upto_region 1 with (fail)
     go_still_tail 9, (by kernel_rfl)
     (try simp only [List.drop_succ_cons, List.drop_zero])
     change wpList _ _ _ _ _ wr.drew
     generalize hwd : wr.drew = w5
     have nIS := Aside0.mk (show IsS48 w0 w5 g l a fc fa by rw [← hwd]; exact IsS48.drew IS.out)
     have nHB := Aside0.mk (show Below w0.heap.size w0 w5 by rw [← hwd]; exact below_drew HB.out)
     have nHK := Aside0.mk (show KeepBut w w5 g none by rw [← hwd]; exact keep_drew HK.out)
     have nBX := Aside0.mk (show w5.heap[g2]? = some (.cells #[.int .i64 0, .string ⟨#[]⟩, .int .i64 0] 44 (0, 0)) by rw [← hwd]; exact blk_drew BX.out)
     replace hc0 : w5.cell? ⟨g, 0, none⟩ = some (.slice (some ad) l.length c0) := by rw [← hwd]; exact hc0
     replace hc1 : w5.cell? ⟨g, 1, none⟩ = some (.int .i64 a) := by rw [← hwd]; exact hc1
     replace hx0 : w5.cell? (ad.add (a.toNat * 3)) = some (.int .i64 (rd_T44 l a).f0) := by rw [← hwd]; exact hx0
     replace hx1 : w5.cell? ⟨(ad.add (a.toNat * 3)).block, (ad.add (a.toNat * 3)).off + 1, none⟩ = some (.string (rd_T44 l a).f1) := by rw [← hwd]; exact hx1
     replace hx2 : w5.cell? ⟨(ad.add (a.toNat * 3)).block, (ad.add (a.toNat * 3)).off + 2, none⟩ = some (.int .i64 (rd_T44 l a).f2) := by rw [← hwd]; exact hx2
     clear hwd IS HB HK BX
     have IS := nIS
     have HB := nHB
     have HK := nHK
     have BX := nBX
     clear nIS nHB nHK nBX
     go_wp2
     refine start_ (n := 12) (S := fun w' => w'.cell? ⟨g, 0, none⟩ = some (.slice (some ad) l.length c0) ∧ w'.cell? ⟨g, 1, none⟩ = some (.int .i64 a) ∧ w'.cell? (ad.add (a.toNat * 3)) = some (.int .i64 (rd_T44 l a).f0) ∧ w'.cell? ⟨(ad.add (a.toNat * 3)).block, (ad.add (a.toNat * 3)).off + 1, none⟩ = some (.string (rd_T44 l a).f1) ∧ w'.cell? ⟨(ad.add (a.toNat * 3)).block, (ad.add (a.toNat * 3)).off + 2, none⟩ = some (.int .i64 (rd_T44 l a).f2)) (ds := []) #[false, false, false, false, false, false, false, false, false, false, false, false] (by kernel_rfl) rfl rfl ⟨hc0, hc1, hx0, hx1, hx2⟩ (fun hHeld => ?_)
     generalize hwd : w5.drew = w6 at hHeld ⊢
     have nIS := Aside0.mk (show IsS48 w0 w6 g l a fc fa by rw [← hwd]; exact IsS48.drew IS.out)
     have nHB := Aside0.mk (show Below w0.heap.size w0 w6 by rw [← hwd]; exact below_drew HB.out)
     have nHK := Aside0.mk (show KeepBut w w6 g none by rw [← hwd]; exact keep_drew HK.out)
     have nBX := Aside0.mk (show w6.heap[g2]? = some (.cells #[.int .i64 0, .string ⟨#[]⟩, .int .i64 0] 44 (0, 0)) by rw [← hwd]; exact blk_drew BX.out)
     replace hc0 : w6.cell? ⟨g, 0, none⟩ = some (.slice (some ad) l.length c0) := by rw [← hwd]; exact hc0
     replace hc1 : w6.cell? ⟨g, 1, none⟩ = some (.int .i64 a) := by rw [← hwd]; exact hc1
     replace hx0 : w6.cell? (ad.add (a.toNat * 3)) = some (.int .i64 (rd_T44 l a).f0) := by rw [← hwd]; exact hx0
     replace hx1 : w6.cell? ⟨(ad.add (a.toNat * 3)).block, (ad.add (a.toNat * 3)).off + 1, none⟩ = some (.string (rd_T44 l a).f1) := by rw [← hwd]; exact hx1
     replace hx2 : w6.cell? ⟨(ad.add (a.toNat * 3)).block, (ad.add (a.toNat * 3)).off + 2, none⟩ = some (.int .i64 (rd_T44 l a).f2) := by rw [← hwd]; exact hx2
     clear hwd IS HB HK BX
     have IS := nIS
     have HB := nHB
     have HK := nHK
     have BX := nBX
     clear nIS nHB nHK nBX
     refine pure_ (i := 0) (N := some 15) (v := ?_) (a' := ?_) #[true, false, false, false, false, false, false, false, false, false, false, false] rfl rfl (by kernel_rfl) (fun _ _ _ h => h) (Or.inl ⟨by rfl, ?_⟩) ?_ ?_
     rotate_left
     ·intro w'
      go_simp
      with_reducible rfl
     rotate_left
     ·simp only [Act.put, List.setIfInBounds_toArray, List.set_cons_zero, List.set_cons_succ, i64_w, i32_w]
      rfl
     refine pure_ (i := 1) (N := some 16) (v := ?_) (a' := ?_) #[true, true, false, false, false, false, false, false, false, false, false, false] rfl rfl (by kernel_rfl) (fun _ _ _ h => h) (Or.inl ⟨by rfl, ?_⟩) ?_ ?_
     rotate_left
     ·intro w'
      go_simp
      with_reducible rfl
     rotate_left
     ·simp only [Act.put, List.setIfInBounds_toArray, List.set_cons_zero, List.set_cons_succ, i64_w, i32_w]
      rfl
     refine pure_ (i := 2) (N := some 17) (v := ?_) (a' := ?_) #[true, true, true, false, false, false, false, false, false, false, false, false] rfl rfl (by kernel_rfl) (fun _ _ _ h => h) (Or.inl ⟨by rfl, ?_⟩) ?_ ?_
     rotate_left
     ·intro w'
      go_simp
      with_reducible rfl
     rotate_left
     ·simp only [Act.put, List.setIfInBounds_toArray, List.set_cons_zero, List.set_cons_succ, i64_w, i32_w]
      rfl
     refine take_ (i := 3) (N := some 18) (v := ?_) (a' := ?_) #[true, true, true, true, false, false, false, false, false, false, false, false] rfl rfl (by kernel_rfl) (fun _ _ _ h => h) (Or.inl ⟨by rfl, ?_⟩) hHeld ?_ ?_
     rotate_left
     ·rintro w' ⟨s0, s1, s2, s3, s4⟩
      go_simp
      with_reducible rfl
     rotate_left
     ·simp only [Act.put, List.setIfInBounds_toArray, List.set_cons_zero, List.set_cons_succ, i64_w, i32_w]
      rfl
     refine pure_ (i := 4) (N := some 19) (v := ?_) (a' := ?_) #[true, true, true, true, true, false, false, false, false, false, false, false] rfl rfl (by kernel_rfl) (fun _ _ _ h => h) (Or.inl ⟨by rfl, ?_⟩) ?_ ?_
     rotate_left
     ·intro w'
      go_simp
      with_reducible rfl
     rotate_left
     ·simp only [Act.put, List.setIfInBounds_toArray, List.set_cons_zero, List.set_cons_succ, i64_w, i32_w]
      rfl
     refine pure_ (i := 5) (N := some 20) (v := ?_) (a' := ?_) #[true, true, true, true, true, true, false, false, false, false, false, false] rfl rfl (by kernel_rfl) (fun _ _ _ h => h) (Or.inl ⟨by rfl, ?_⟩) ?_ ?_
     rotate_left
     ·intro w'
      go_simp
      with_reducible rfl
     rotate_left
     ·simp only [Act.put, List.setIfInBounds_toArray, List.set_cons_zero, List.set_cons_succ, i64_w, i32_w]
      rfl
     refine pure_ (i := 6) (N := some 21) (v := ?_) (a' := ?_) #[true, true, true, true, true, true, true, false, false, false, false, false] rfl rfl (by kernel_rfl) (fun _ _ _ h => h) (Or.inl ⟨by rfl, ?_⟩) ?_ ?_
     rotate_left
     ·intro w'
      go_simp
      with_reducible rfl
     rotate_left
     ·simp only [Act.put, List.setIfInBounds_toArray, List.set_cons_zero, List.set_cons_succ, i64_w, i32_w]
      rfl
     refine take_ (i := 7) (N := some 22) (v := ?_) (a' := ?_) #[true, true, true, true, true, true, true, true, false, false, false, false] rfl rfl (by kernel_rfl) (fun _ _ _ h => h) (Or.inl ⟨by rfl, ?_⟩) hHeld ?_ ?_
     rotate_left
     ·rintro w' ⟨s0, s1, s2, s3, s4⟩
      go_simp
      with_reducible rfl
     rotate_left
     ·simp only [Act.put, List.setIfInBounds_toArray, List.set_cons_zero, List.set_cons_succ, i64_w, i32_w]
      rfl
     refine pure_ (i := 8) (N := some 23) (v := ?_) (a' := ?_) #[true, true, true, true, true, true, true, true, true, false, false, false] rfl rfl (by kernel_rfl) (fun _ _ _ h => h) (Or.inl ⟨by rfl, ?_⟩) ?_ ?_
     rotate_left
     ·intro w'
      go_simp
      with_reducible rfl
     rotate_left
     ·simp only [Act.put, List.setIfInBounds_toArray, List.set_cons_zero, List.set_cons_succ, i64_w, i32_w]
      rfl
     refine take_ (i := 9) (N := some 24) (v := ?_) (a' := ?_) #[true, true, true, true, true, true, true, true, true, true, false, false] rfl rfl (by kernel_rfl) (fun _ _ _ h => h) (Or.inl ⟨by rfl, ?_⟩) hHeld ?_ ?_
     rotate_left
     ·rintro w' ⟨s0, s1, s2, s3, s4⟩
      go_simp
      with_reducible rfl
     rotate_left
     ·simp only [Act.put, List.setIfInBounds_toArray, List.set_cons_zero, List.set_cons_succ, i64_w, i32_w]
      rfl
     refine one_ (i := 10) (N := some 4) #[true, true, true, true, true, true, true, true, true, true, true, false] rfl rfl (by kernel_rfl) (by decide) (fun K hK => ?_)
     refine box_step ?hg (N := 4) ?hd (cs := #[.int .i64 0, .string ⟨#[]⟩, .int .i64 0]) (t := 44) ?hr ?_; (case hd => rfl); (case hg => rfl); (case hr => first | (go_simp; done) | (go_simp; rfl))
     intro g4 hg w7 hbox hb
     have G4 := Aside0.mk (show w.heap.size ≤ g4 by rw [hg]; exact keep_size HK.out)
     have NG4 := Aside0.mk (show g ≠ g4 by rw [hg]; exact Nat.ne_of_lt (IsS48.lt IS.out))
     have N24 := Aside0.mk (show g2 ≠ g4 by rw [hg]; exact Nat.ne_of_lt (blk_lt BX.out))
     have G4W := Aside0.mk (show w0.heap.size ≤ g4 by have := G4.out; have := HB0.out; omega)
     have NAD := Aside0.mk (show (ad.add (a.toNat * 3)).block ≠ g4 by have := AD.out; have := G4W.out; omega)
     have BT := Aside0.mk hbox
     have nIS := Aside0.mk (IsS48.below IS.out hb)
     have nHB := Aside0.mk (below_then HB.out HB.out.size hb)
     have nHK := Aside0.mk (KeepBut.trans HK.out (KeepBut.of_below hb g none) (.inl rfl))
     have nBX := Aside0.mk (blk_below BX.out hb)
     replace hc0 := (hb.cell (World.block_lt_of_cell? w6 _ hc0)).trans hc0
     replace hc1 := (hb.cell (World.block_lt_of_cell? w6 _ hc1)).trans hc1
     replace hx0 := (hb.cell (World.block_lt_of_cell? w6 _ hx0)).trans hx0
     replace hx1 := (hb.cell (World.block_lt_of_cell? w6 _ hx1)).trans hx1
     replace hx2 := (hb.cell (World.block_lt_of_cell? w6 _ hx2)).trans hx2
     clear hg hbox hb hHeld IS HB HK BX
     have IS := nIS
     have HB := nHB
     have HK := nHK
     have BX := nBX
     clear nIS nHB nHK nBX
     refine hK.out _ _ ⟨hc0, hc1, hx0, hx1, hx2⟩ (fun hHeld => ?_)
     clear hK K
     refine norm_ (a' := ?_) ?_ ?_
     rotate_left
     ·show Act.put _ (some 4) _ = _
      simp only [Act.put, List.setIfInBounds_toArray, List.set_cons_zero, List.set_cons_succ, i64_w, i32_w]
      rfl
     refine one_ (i := 11) (N := none) #[true, true, true, true, true, true, true, true, true, true, true, true] rfl rfl (by kernel_rfl) (by decide) (fun K hK => ?_)
     have ht0 : w7.cell? ⟨g4, 0, none⟩ = some (.int .i64 0) := (blk_cell BT.out 0).trans rfl
     have ht1 : w7.cell? ⟨g4, 1, none⟩ = some (.string ⟨#[]⟩) := (blk_cell BT.out 1).trans rfl
     have ht2 : w7.cell? ⟨g4, 2, none⟩ = some (.int .i64 0) := (blk_cell BT.out 2).trans rfl
     have htf0 := blk_frozen BT.out 0
     have htf1 := blk_frozen BT.out 1
     have htf2 := blk_frozen BT.out 2
     refine skip_ (w1 := ?_) (by rfl) rfl ?_ ?_
     rotate_left
     ·go_simp
      rfl
     obtain ⟨w9, hw9⟩ : ∃ w9, w9 = (((w7.setCell ⟨g4, 0, none⟩ (.int .i64 (rd_T44 l a).f0)).setCell ⟨g4, 1, none⟩ (.string (rd_T44 l a).f1)).setCell ⟨g4, 2, none⟩ (.int .i64 (rd_T44 l a).f2)) := ⟨_, rfl⟩
     rw [← hw9]
     have nBT := Aside0.mk (show w9.heap[g4]? = some (.cells #[.int .i64 (rd_T44 l a).f0, .string (rd_T44 l a).f1, .int .i64 (rd_T44 l a).f2] 44 (0, 0)) by rw [hw9]; exact blk_put (cs := #[.int .i64 (rd_T44 l a).f0, .string (rd_T44 l a).f1, .int .i64 0]) (blk_put (cs := #[.int .i64 (rd_T44 l a).f0, .string ⟨#[]⟩, .int .i64 0]) (blk_put (cs := #[.int .i64 0, .string ⟨#[]⟩, .int .i64 0]) (BT.out) 0 _ rfl) 1 _ rfl) 2 _ rfl)
     have nBX := Aside0.mk (show w9.heap[g2]? = some (.cells #[.int .i64 0, .string ⟨#[]⟩, .int .i64 0] 44 (0, 0)) by rw [hw9]; exact blk_far (blk_far (blk_far (BX.out) (p := ⟨g4, 0, none⟩) N24.out _) (p := ⟨g4, 1, none⟩) N24.out _) (p := ⟨g4, 2, none⟩) N24.out _)
     have nIS := Aside0.mk (show IsS48 w0 w9 g l a fc fa by rw [hw9]; exact IsS48.far (p := ⟨g4, 2, none⟩) (IsS48.far (p := ⟨g4, 1, none⟩) (IsS48.far (p := ⟨g4, 0, none⟩) (IS.out) NG4.out _) NG4.out _) NG4.out _)
     have nHB := Aside0.mk (show Below w0.heap.size w0 w9 by rw [hw9]; exact Below.setCell (Below.setCell (Below.setCell (HB.out) G4W.out _) G4W.out _) G4W.out _)
     have nHK := Aside0.mk (show KeepBut w w9 g none by rw [hw9]; exact keep_far (p := ⟨g4, 2, none⟩) (keep_far (p := ⟨g4, 1, none⟩) (keep_far (p := ⟨g4, 0, none⟩) (HK.out) G4.out _) G4.out _) G4.out _)
     have hke : ∀ p v, w7.cell? p = some v → p.block ≠ g4 → w9.cell? p = some v := fun p v hp hn => by rw [hw9, World.cell?_setCell_far _ _ _ _ (fun e => hn e.symm), World.cell?_setCell_far _ _ _ _ (fun e => hn e.symm), World.cell?_setCell_far _ _ _ _ (fun e => hn e.symm)]; exact hp
     replace hc0 := hke _ _ hc0 NG4.out
     replace hc1 := hke _ _ hc1 NG4.out
     replace hx0 := hke _ _ hx0 NAD.out
     replace hx1 := hke _ _ hx1 NAD.out
     replace hx2 := hke _ _ hx2 NAD.out
     clear hke hw9 IS HB HK BX BT ht0 ht1 ht2 htf0 htf1 htf2
     have IS := nIS
     have HB := nHB
     have HK := nHK
     have BX := nBX
     have BT := nBT
     clear nIS nHB nHK nBX nBT
     refine hK.out _ _ ⟨hc0, hc1, hx0, hx1, hx2⟩ (fun hHeld => ?_)
     clear hK K
     refine done_ (by kernel_rfl) ?_
     have ht0 : w9.cell? ⟨g4, 0, none⟩ = some (.int .i64 (rd_T44 l a).f0) := (blk_cell BT.out 0).trans rfl
     have ht1 : w9.cell? ⟨g4, 1, none⟩ = some (.string (rd_T44 l a).f1) := (blk_cell BT.out 1).trans rfl
     have ht2 : w9.cell? ⟨g4, 2, none⟩ = some (.int .i64 (rd_T44 l a).f2) := (blk_cell BT.out 2).trans rfl
     have H := H2.out
     clear H2
     have G2W := Aside0.mk (show w0.heap.size ≤ g2 by have := G2.out; have := HB0.out; omega)
     by_cases d1 : (rd_T44 l a).f0 ≥ 0
     rotate_left
     ·rw [if_neg d1] at H
      have d1b : decide (0 ≤ (rd_T44 l a).f0) = false := decide_eq_false d1
      clear d1
      have H' := Aside0.mk H
      clear H
      obtain ⟨A9, c9, hk, hge, hr9⟩ := IS.out
      replace hc0 := cellS48_0 hk
      replace hc1 := cellS48_1 hk
      have hf1 := blk_frozen hk 1
      clear hk hge
      go_wp2
      go_roundg k1
      case measure => omega
      case rel => exact ⟨_, H', ⟨by have := HK0.out; omega⟩, ⟨IsS48.set_1 IS.out _⟩, ⟨below_set HB.out (IsS48.ge IS.out)⟩, ⟨KeepBut.set_ HK.out _ _⟩, ⟨blk_far BX.out (p := ⟨g, 1, none⟩) NG2.out _⟩⟩
     rw [if_pos d1] at H
     have d1b : decide (0 ≤ (rd_T44 l a).f0) = true := decide_eq_true d1
     clear d1
     by_cases d2 : (rd_T44 l a).f0 < 4
     rotate_left
     ·rw [if_neg d2] at H
      have d2b : decide ((rd_T44 l a).f0 < 4) = false := decide_eq_false d2
      clear d2
      have H' := Aside0.mk H
      clear H
      obtain ⟨A9, c9, hk, hge, hr9⟩ := IS.out
      replace hc0 := cellS48_0 hk
      replace hc1 := cellS48_1 hk
      have hf1 := blk_frozen hk 1
      clear hk hge
      go_wp2
      go_roundg k1
      case measure => omega
      case rel => exact ⟨_, H', ⟨by have := HK0.out; omega⟩, ⟨IsS48.set_1 IS.out _⟩, ⟨below_set HB.out (IsS48.ge IS.out)⟩, ⟨KeepBut.set_ HK.out _ _⟩, ⟨blk_far BX.out (p := ⟨g, 1, none⟩) NG2.out _⟩⟩
     rw [if_pos d2] at H
     have d2b : decide ((rd_T44 l a).f0 < 4) = true := decide_eq_true d2
     clear d2
     obtain ⟨rfl, rfl, rfl⟩ : a = at' ∧ rd_T44 l a = t ∧ true = b := by simpa using H
     clear H
     have hz0 : w9.cell? ⟨g2, 0, none⟩ = some (.int .i64 0) := (blk_cell BX.out 0).trans rfl
     have hz1 : w9.cell? ⟨g2, 1, none⟩ = some (.string ⟨#[]⟩) := (blk_cell BX.out 1).trans rfl
     have hz2 : w9.cell? ⟨g2, 2, none⟩ = some (.int .i64 0) := (blk_cell BX.out 2).trans rfl
     have hzf0 := blk_frozen BX.out 0
     have hzf1 := blk_frozen BX.out 1
     have hzf2 := blk_frozen BX.out 2
     go_wp2
     refine bodyPost_ret (results_ct rfl _ _ g2 44 #[.int .i64 (rd_T44 l a).f0, .string (rd_T44 l a).f1, .int .i64 (rd_T44 l a).f2] (0, 0) _ rfl (blk_put (cs := #[.int .i64 (rd_T44 l a).f0, .string (rd_T44 l a).f1, .int .i64 0]) (blk_put (cs := #[.int .i64 (rd_T44 l a).f0, .string ⟨#[]⟩, .int .i64 0]) (blk_put (cs := #[.int .i64 0, .string ⟨#[]⟩, .int .i64 0]) (BX.out) 0 _ rfl) 1 _ rfl) 2 _ rfl) Try.underlying44 rfl (by kernel_rfl)) rfl ?_
     exact ⟨rfl, IsS48.far (p := ⟨g2, 2, none⟩) (IsS48.far (p := ⟨g2, 1, none⟩) (IsS48.far (p := ⟨g2, 0, none⟩) (IS.out) NG2g.out _) NG2g.out _) NG2g.out _, Below.setCell (Below.setCell (Below.setCell (HB.out) G2W.out _) G2W.out _) G2W.out _, keep_far (p := ⟨g2, 2, none⟩) (keep_far (p := ⟨g2, 1, none⟩) (keep_far (p := ⟨g2, 0, none⟩) (HK.out) G2.out _) G2.out _) G2.out _⟩
    ·rw [if_neg c6] at H
     exact absurd H (by simp)
   ·rw [if_neg c5] at H
    obtain ⟨rfl, rfl, rfl⟩ : a = at' ∧ z44 = t ∧ false = b := by simpa using H
    have c5b := decide_eq_false c5
    replace c5 := eq_false c5
    clear H hk hge
    go_upto_region 1 with (fail)
    go_still_tail 9, (by kernel_rfl)
    (try simp only [List.drop_succ_cons, List.drop_zero])
    change wpList _ _ _ _ _ wr.drew
    generalize hwd : wr.drew = w5
    have nIS := Aside0.mk (show IsS48 w0 w5 g l a fc fa by rw [← hwd]; exact IsS48.drew IS.out)
    have nHB := Aside0.mk (show Below w0.heap.size w0 w5 by rw [← hwd]; exact below_drew HB.out)
    have nHK := Aside0.mk (show KeepBut w w5 g none by rw [← hwd]; exact keep_drew HK.out)
    have nBX := Aside0.mk (show w5.heap[g2]? = some (.cells #[.int .i64 0, .string ⟨#[]⟩, .int .i64 0] 44 (0, 0)) by rw [← hwd]; exact blk_drew BX.out)
    clear hwd IS HB HK BX
    have IS := nIS
    have HB := nHB
    have HK := nHK
    have BX := nBX
    clear nIS nHB nHK nBX
    have G2W := Aside0.mk (show w0.heap.size ≤ g2 by have := G2.out; have := HB0.out; omega)
    have hz0 : w5.cell? ⟨g2, 0, none⟩ = some (.int .i64 0) := (blk_cell BX.out 0).trans rfl
    have hz1 : w5.cell? ⟨g2, 1, none⟩ = some (.string ⟨#[]⟩) := (blk_cell BX.out 1).trans rfl
    have hz2 : w5.cell? ⟨g2, 2, none⟩ = some (.int .i64 0) := (blk_cell BX.out 2).trans rfl
    have hzf0 := blk_frozen BX.out 0
    have hzf1 := blk_frozen BX.out 1
    have hzf2 := blk_frozen BX.out 2
    go_wp2
    refine bodyPost_ret (results_ct rfl _ _ g2 44 #[.int .i64 0, .string ⟨#[]⟩, .int .i64 0] (0, 0) _ rfl (blk_put (cs := #[.int .i64 0, .string ⟨#[]⟩, .int .i64 0]) (blk_put (cs := #[.int .i64 0, .string ⟨#[]⟩, .int .i64 0]) (blk_put (cs := #[.int .i64 0, .string ⟨#[]⟩, .int .i64 0]) (BX.out) 0 _ rfl) 1 _ rfl) 2 _ rfl) Try.underlying44 rfl (by kernel_rfl)) rfl ?_
    exact ⟨rfl, IsS48.far (p := ⟨g2, 2, none⟩) (IsS48.far (p := ⟨g2, 1, none⟩) (IsS48.far (p := ⟨g2, 0, none⟩) (IS.out) NG2g.out _) NG2g.out _) NG2g.out _, Below.setCell (Below.setCell (Below.setCell (HB.out) G2W.out _) G2W.out _) G2W.out _, keep_far (p := ⟨g2, 2, none⟩) (keep_far (p := ⟨g2, 1, none⟩) (keep_far (p := ⟨g2, 0, none⟩) (HK.out) G2.out _) G2.out _) G2.out _⟩

/-! ### parser.nodes and parser.args: functions 20 and 32, by hand -/
mutual
def tnodes.l : Nat → List S44 → Int → List S38 → Int → Int → Int → Option (List S38 × Int × Int × Int)
 | 0, _, _, _, _, _, _ => none
 | k + 1, l, d, out, a, fc, fa => if fc = 0 then ((tpeek.f k l a).bind fun p => if p.2.2 = true then (if p.2.1.f0 = 0 then (if out.length < 2513169434916 then tnodes.l k l d (out ++ [(⟨false, p.2.1.f1, [], p.2.1.f2⟩ : S38)]) (wrap64 (p.1 + 1)) fc fa else none) else if p.2.1.f0 = 1 then ((targs.l k l d [] (wrap64 (p.1 + 1)) fc fa).bind fun y => if out.length < 2513169434916 then tnodes.l k l d (out ++ [(⟨true, p.2.1.f1, y.1, p.2.1.f2⟩ : S38)]) y.2.1 y.2.2.1 y.2.2.2 else none) else if p.2.1.f0 = 2 then tnodes.l k l d out p.1 60 p.2.1.f2 else if p.2.1.f0 = 3 then (if d > 0 then some (out, p.1, fc, fa) else tnodes.l k l d out p.1 61 p.2.1.f2) else tnodes.l k l d out p.1 fc fa) else some (out, p.1, fc, fa)) else some (out, a, fc, fa)
def targs.l : Nat → List S44 → Int → List (List S38) → Int → Int → Int → Option (List (List S38) × Int × Int × Int)
 | 0, _, _, _, _, _, _ => none
 | k + 1, l, d, out, a, fc, fa => if fc = 0 then ((tpeek.f k l a).bind fun p => if p.2.2 = true then (if p.2.1.f0 = 2 then (if d ≥ 64 then some (out, p.1, 63, p.2.1.f2) else ((tnodes.l k l (wrap64 (d + 1)) [] (wrap64 (p.1 + 1)) fc fa).bind fun y => (tpeek.f k l y.2.1).bind fun q => if out.length < 5864062014805 then (if q.2.2 = true then (if q.2.1.f0 = 3 then targs.l k l d (out ++ [y.1]) (wrap64 (q.1 + 1)) y.2.2.1 y.2.2.2 else (if y.2.2.1 = 0 then targs.l k l d (out ++ [y.1]) q.1 62 p.2.1.f2 else targs.l k l d (out ++ [y.1]) q.1 y.2.2.1 y.2.2.2)) else (if y.2.2.1 = 0 then targs.l k l d (out ++ [y.1]) q.1 62 p.2.1.f2 else targs.l k l d (out ++ [y.1]) q.1 y.2.2.1 y.2.2.2)) else none)) else some (out, p.1, fc, fa)) else some (out, p.1, fc, fa)) else some (out, a, fc, fa)
end
theorem tnodes.mono_l : ∀ k, (∀ l d out a fc fa, LeO (tnodes.l k l d out a fc fa) (tnodes.l (k + 1) l d out a fc fa)) ∧ (∀ l d out a fc fa, LeO (targs.l k l d out a fc fa) (targs.l (k + 1) l d out a fc fa))
 | 0 => ⟨fun _ _ _ _ _ _ r h => by simp [tnodes.l] at h, fun _ _ _ _ _ _ r h => by simp [targs.l] at h⟩
 | k + 1 => by
  obtain ⟨ih0, ih1⟩ := tnodes.mono_l k
  constructor
  ·intro l d out a fc fa
   unfold tnodes.l
   repeat' first | (with_reducible first | exact ih0 _ _ _ _ _ _ | exact ih1 _ _ _ _ _ _ | exact tpeek.mono _ _ _ | exact LeO.refl _ | exact LeO.none _ | refine LeO.ite ?_ ?_ | refine LeO.bind ?_ (fun _ => ?_)) | exact LeO.none _ | refine LeO.ite ?_ ?_ | refine LeO.bind ?_ (fun _ => ?_)
  ·intro l d out a fc fa
   unfold targs.l
   repeat' first | (with_reducible first | exact ih0 _ _ _ _ _ _ | exact ih1 _ _ _ _ _ _ | exact tpeek.mono _ _ _ | exact LeO.refl _ | exact LeO.none _ | refine LeO.ite ?_ ?_ | refine LeO.bind ?_ (fun _ => ?_)) | exact LeO.none _ | refine LeO.ite ?_ ?_ | refine LeO.bind ?_ (fun _ => ?_)
def tnodes.S (k : Nat) : Prop := ∀ (g : Nat) (l : List S44) (d a fc fa : Int) (r : List S38) (a' fc' fa' : Int) (w0 w : World), IsS48 w0 w g l a fc fa → Below w0.heap.size w0 w → tnodes.l k l d [] a fc fa = some (r, a', fc', fa') →
  Calls Try.prog 20 #[.pointer (some ⟨g, 0, none⟩), .int .i64 d] w fun e w' => ∃ v : Value, e = .returned v ∧ Kd.R k38 38 w' w.heap.size (fun k => k ≠ g) v r ∧ IsS48 w0 w' g l a' fc' fa' ∧ Below w0.heap.size w0 w' ∧ KeepBut w w' g none
def targs.S (k : Nat) : Prop := ∀ (g : Nat) (l : List S44) (d a fc fa : Int) (r : List (List S38)) (a' fc' fa' : Int) (w0 w : World), IsS48 w0 w g l a fc fa → Below w0.heap.size w0 w → targs.l k l d [] a fc fa = some (r, a', fc', fa') →
  Calls Try.prog 32 #[.pointer (some ⟨g, 0, none⟩), .int .i64 d] w fun e w' => ∃ v : Value, e = .returned v ∧ Kd.R (Kd.slice 38 k38) 23 w' w.heap.size (fun k => k ≠ g) v r ∧ IsS48 w0 w' g l a' fc' fa' ∧ Below w0.heap.size w0 w' ∧ KeepBut w w' g none
set_option maxHeartbeats 8000000 in
set_option maxRecDepth 100000 in
theorem tnodes.step (k : Nat) (ihN : ∀ m, m < k → tnodes.S m) (ihA : ∀ m, m < k → targs.S m) : tnodes.S k := by
 intro g l d a fc fa r a' fc' fa' w0 w hI hB h
 have hu44 := Try.underlying44
 have hu22 := Try.underlying22
 have hu23 := Try.underlying23
 have hu36 := Try.underlying36
 have hu38 := Try.underlying38
 have hu48 := Try.underlying48
 have hu26 := Try.underlying26
 have IHN := Aside0.mk ihN
 have IHA := Aside0.mk ihA
 have IS := Aside0.mk hI
 have HB := Aside0.mk hB
 have HB0 := Aside0.mk hB.size
 have HK := Aside0.mk (KeepBut.refl w g none)
 have H' := Aside0.mk h
 clear hI hB h ihN ihA
 go_enter Try.func20, Try.ntmps20
 go_wp2
 go_loopg [5] k (fun kq v5 w' => ∃ (out : List S38) (a fc fa : Int), Aside0 (tnodes.l kq l d out a fc fa = some (r, a', fc', fa')) ∧ Aside0 (kq ≤ k) ∧ Aside0 (IsS48 w0 w' g l a fc fa) ∧ Aside0 (Below w0.heap.size w0 w') ∧ Aside0 (KeepBut w w' g none) ∧ Aside0 (Kd.R k38 38 w' w.heap.size (fun k => k ≠ g) v5 out))
 case atStart => exact ⟨[], a, fc, fa, H', ⟨Nat.le_refl _⟩, IS, HB, HK, ⟨Kd.R_nil _ _ _ _ _⟩⟩
 case round =>
  clear H' IS HB HK a fc fa
  obtain ⟨out, a, fc, fa, HA, HK0, IS, HB, HK, HO⟩ := hrel
  cases gk with
  | zero => exact absurd HA.out (by simp [tnodes.l])
  | succ k1 =>
   have H := HA.out
   clear HA
   simp only [tnodes.l] at H
   obtain ⟨A0, c0, hkp, hgp, hrp⟩ := IS.out
   have hc1 := cellS48_1 hkp
   have hc2 := cellS48_2 hkp
   have hf1 := blk_frozen hkp 1
   clear hkp hgp hrp
   by_cases c0 : fc = 0
   rotate_left
   ·rw [if_neg c0] at H
    obtain ⟨rfl, rfl, rfl, rfl⟩ : out = r ∧ a = a' ∧ fc = fc' ∧ fa = fa' := by simpa using H
    have c0b : (fc == 0) = false := beq_eq_false_iff_ne.mpr c0
    clear c0
    clear H
    go_wp2
    refine bodyPost_ret (results_tmp rfl _ _ _) rfl ?_
    exact ⟨_, rfl, HO.out, IS.out, HB.out, HK.out⟩
   rw [if_pos c0] at H
   subst c0
   obtain ⟨⟨a1, t, b⟩, hp, H⟩ := Option.bind_eq_some_iff.mp H
   dsimp only at H
   have HP := Aside0.mk hp
   have H2 := Aside0.mk H
   clear hp H
   go_upto_region 4 with (first | (go_at_call 31; refine (tpeek.calls k1 g l a 0 fa _ _ _ w0 _ IS.out HB.out HP.out).mono ?_; rintro e w2 ⟨rfl, hi, hb, hk⟩; have nIS := Aside0.mk hi; have nHB := Aside0.mk hb; have nHK := Aside0.mk (KeepBut.trans HK.out hk (.inl rfl)); have nHO := Aside0.mk (Kd.R_keep HO.out hk (fun _ h_ => h_)); clear hi hb hk; clear IS HB HK HO; have IS := nIS; have HB := nHB; have HK := nHK; have HO := nHO; clear nIS nHB nHK nHO) | ((with_reducible refine gate_dst (N := 6) rfl ?_); refine box_event ?hg (N := 6) ?hd (cs := #[.int .i64 0, .string ⟨#[]⟩, .int .i64 0]) (t := 44) ?hr ?_; (case hd => rfl); (case hg => rfl); (case hr => first | (go_simp; done) | (go_simp; rfl)); intro g6 hg w3 hbox hb; have Bg6 := Aside0.mk hbox; have GEg6 := Aside0.mk (show w.heap.size ≤ g6 by rw [hg]; exact keep_size HK.out); have NGg6 := Aside0.mk (show g ≠ g6 by rw [hg]; exact Nat.ne_of_lt (IsS48.lt IS.out)); have NEg6 := Aside0.mk (fun e_ => NGg6.out e_.symm : g6 ≠ g); have nIS := Aside0.mk (IsS48.below IS.out hb); have nHB := Aside0.mk (below_then HB.out HB.out.size hb); have nHK := Aside0.mk (KeepBut.trans HK.out (KeepBut.of_below hb g none) (.inl rfl)); have nHO := Aside0.mk (Kd.R_below HO.out hb); clear hg hbox hb; clear IS HB HK HO; have IS := nIS; have HB := nHB; have HK := nHK; have HO := nHO; clear nIS nHB nHK nHO; have hb0_ : w3.cell? ⟨g6, 0, none⟩ = some (.int .i64 0) := (blk_cell Bg6.out 0).trans rfl; have hb1_ : w3.cell? ⟨g6, 1, none⟩ = some (.string ⟨#[]⟩) := (blk_cell Bg6.out 1).trans rfl; have hb2_ : w3.cell? ⟨g6, 2, none⟩ = some (.int .i64 0) := (blk_cell Bg6.out 2).trans rfl; have hbf0_ := blk_frozen Bg6.out 0; have hbf1_ := blk_frozen Bg6.out 1; have hbf2_ := blk_frozen Bg6.out 2))
   clear hc1 hc2 hf1
   obtain ⟨w4, hw_⟩ : ∃ w_, w_ = (((w3.setCell ⟨g6, 0, none⟩ (.int .i64 t.f0)).setCell ⟨g6, 1, none⟩ (.string t.f1)).setCell ⟨g6, 2, none⟩ (.int .i64 t.f2)) := ⟨_, rfl⟩
   rw [← hw_]
   have GWg6 := Aside0.mk (show w0.heap.size ≤ g6 by have := GEg6.out; have := HB0.out; omega)
   have nIS := Aside0.mk (show IsS48 w0 w4 g l a1 0 fa by rw [hw_]; exact IsS48.far (p := ⟨g6, 2, none⟩) (IsS48.far (p := ⟨g6, 1, none⟩) (IsS48.far (p := ⟨g6, 0, none⟩) (IS.out) NGg6.out _) NGg6.out _) NGg6.out _)
   have nHB := Aside0.mk (show Below w0.heap.size w0 w4 by rw [hw_]; exact Below.setCell (Below.setCell (Below.setCell (HB.out) GWg6.out _) GWg6.out _) GWg6.out _)
   have nHK := Aside0.mk (show KeepBut w w4 g none by rw [hw_]; exact keep_far (p := ⟨g6, 2, none⟩) (keep_far (p := ⟨g6, 1, none⟩) (keep_far (p := ⟨g6, 0, none⟩) (HK.out) GEg6.out _) GEg6.out _) GEg6.out _)
   have nHO := Aside0.mk (show Kd.R k38 38 w4 w.heap.size (fun k => k ≠ g) _ out by rw [hw_]; exact Kd.R_set (Kd.R_set (Kd.R_set (HO.out) (Bg6.out) (by decide) 0 _) (blk_put (cs := #[.int .i64 0, .string ⟨#[]⟩, .int .i64 0]) (Bg6.out) 0 _ rfl) (by decide) 1 _) (blk_put (cs := #[.int .i64 t.f0, .string ⟨#[]⟩, .int .i64 0]) (blk_put (cs := #[.int .i64 0, .string ⟨#[]⟩, .int .i64 0]) (Bg6.out) 0 _ rfl) 1 _ rfl) (by decide) 2 _)
   have nBg6 := Aside0.mk (show w4.heap[g6]? = some (.cells #[.int .i64 t.f0, .string t.f1, .int .i64 t.f2] 44 (0, 0)) by rw [hw_]; exact blk_put (cs := #[.int .i64 t.f0, .string t.f1, .int .i64 0]) (blk_put (cs := #[.int .i64 t.f0, .string ⟨#[]⟩, .int .i64 0]) (blk_put (cs := #[.int .i64 0, .string ⟨#[]⟩, .int .i64 0]) (Bg6.out) 0 _ rfl) 1 _ rfl) 2 _ rfl)
   clear hw_ hb0_ hb1_ hb2_ hbf0_ hbf1_ hbf2_
   clear IS HB HK HO Bg6
   have IS := nIS
   have HB := nHB
   have HK := nHK
   have HO := nHO
   have Bg6 := nBg6
   clear nIS nHB nHK nHO nBg6
   have H := H2.out
   clear H2
   cases b with
   | false =>
    rw [if_neg (by decide)] at H
    obtain ⟨rfl, rfl, rfl, rfl⟩ : out = r ∧ a1 = a' ∧ 0 = fc' ∧ fa = fa' := by simpa using H
    clear H
    go_wp2
    refine bodyPost_ret (results_tmp rfl _ _ _) rfl ?_
    exact ⟨_, rfl, HO.out, IS.out, HB.out, HK.out⟩
   | true =>
    rw [if_pos rfl] at H
    have ht0 : w4.cell? ⟨g6, 0, none⟩ = some (.int .i64 t.f0) := (blk_cell Bg6.out 0).trans rfl
    have ht1 : w4.cell? ⟨g6, 1, none⟩ = some (.string t.f1) := (blk_cell Bg6.out 1).trans rfl
    have ht2 : w4.cell? ⟨g6, 2, none⟩ = some (.int .i64 t.f2) := (blk_cell Bg6.out 2).trans rfl
    by_cases d0 : t.f0 = 0
    ·rw [if_pos d0] at H
     have d0b : (t.f0 == 0) = true := beq_iff_eq.mpr d0
     clear d0
     by_cases lm : out.length < 2513169434916
     rotate_left
     ·rw [if_neg lm] at H
      exact absurd H (by simp)
     rw [if_pos lm] at H
     have LM := Aside0.mk lm
     have H' := Aside0.mk H
     clear H lm
     obtain ⟨A0, c0, hkp, hgp, hrp⟩ := IS.out
     have hc1 := cellS48_1 hkp
     have hc2 := cellS48_2 hkp
     have hf1 := blk_frozen hkp 1
     clear hkp hgp hrp
     go_upto_region 9 with (fail)
     clear hc1 hc2 hf1
     obtain ⟨w5, hw_⟩ : ∃ w_, w_ = (w4.setCell ⟨g, 1, none⟩ (.int .i64 (wrap64 (a1 + 1)))) := ⟨_, rfl⟩
     rw [← hw_]
     have nIS := Aside0.mk (show IsS48 w0 w5 g l (wrap64 (a1 + 1)) 0 fa by rw [hw_]; exact IsS48.set_1 IS.out _)
     have nHB := Aside0.mk (show Below w0.heap.size w0 w5 by rw [hw_]; exact below_set HB.out (IsS48.ge IS.out))
     have nHK := Aside0.mk (show KeepBut w w5 g none by rw [hw_]; exact KeepBut.set_ HK.out _ _)
     have nHO := Aside0.mk (show Kd.R k38 38 w5 w.heap.size (fun k => k ≠ g) _ out by rw [hw_]; exact Kd.R_far HO.out (p := ⟨g, 1, none⟩) (fun _ h_ => h_) _)
     have nBg6 := Aside0.mk (show w5.heap[g6]? = some (.cells #[.int .i64 t.f0, .string t.f1, .int .i64 t.f2] 44 (0, 0)) by rw [hw_]; exact blk_far Bg6.out (p := ⟨g, 1, none⟩) NEg6.out _)
     clear hw_
     clear IS HB HK HO Bg6
     have IS := nIS
     have HB := nHB
     have HK := nHK
     have HO := nHO
     have Bg6 := nBg6
     clear nIS nHB nHK nHO nBg6
     clear ht0 ht1 ht2
     have ht0 : w5.cell? ⟨g6, 0, none⟩ = some (.int .i64 t.f0) := (blk_cell Bg6.out 0).trans rfl
     have ht1 : w5.cell? ⟨g6, 1, none⟩ = some (.string t.f1) := (blk_cell Bg6.out 1).trans rfl
     have ht2 : w5.cell? ⟨g6, 2, none⟩ = some (.int .i64 t.f2) := (blk_cell Bg6.out 2).trans rfl
     go_wp2_with ((with_reducible refine gate_builtin (b := .append) (xs := #[.tmp 33, .tmp 39]) rfl ?_); at_builtin; refine Kd.R_append k38 (w0 := w5) w.heap.size rfl (.tmp 33) (.tmp 39) 23 38 (.agg #[(.bool false), (.string ⟨#[]⟩), (.slice none 0 0), (.int .i64 0)]) 56 rfl Try.underlying23 info38 rfl (by decide) (by omega) u5 out (⟨false, t.f1, [], t.f2⟩ : S38) [.bool false, .string t.f1, .slice none 0 0, .int .i64 t.f2] (fun k => k ≠ g) (fun _ => False) rfl rfl ?aP (fun _ hk => hk.elim) ?aF ?aO ?aB ?aS ?aL ?_; (case aP => exact k38_mkM _ _ _ (⟨false, t.f1, [], t.f2⟩ : S38) (Kd.R_nil _ _ _ _ _)); (case aF => exact (fun k hk e => by have := IsS48.lt IS.out; omega)); (case aO => exact HO.out); (case aB => exact Below.refl _ _); (case aS => exact keep_size HK.out); (case aL => have := LM.out; omega); intro v1 w6 ho hb hg hat; have nIS := Aside0.mk (IsS48.grown IS.out hg (IsS48.own_ne IS.out HO.out (by decide))); have nHB := Aside0.mk (Below.grown HB.out hg HB.out.size (fun k hk => Nat.le_trans HB0.out (Kd.R_base HO.out k hk))); have nHK := Aside0.mk (KeepBut.trans HK.out (KeepBut.of_grown hg g) (Kd.R_base2 HO.out)); have nHO := Aside0.mk ho; clear ho hb hg hat; clear IS HB HK HO; have IS := nIS; have HB := nHB; have HK := nHK; have HO := nHO; clear nIS nHB nHK nHO)
     go_roundg k1
     case measure => omega
     case rel => exact ⟨_, _, _, _, H', ⟨by have := HK0.out; omega⟩, ⟨IS.out⟩, ⟨HB.out⟩, ⟨HK.out⟩, ⟨HO.out⟩⟩
    rw [if_neg d0] at H
    have d0b : (t.f0 == 0) = false := beq_eq_false_iff_ne.mpr d0
    clear d0
    by_cases d1 : t.f0 = 1
    ·rw [if_pos d1] at H
     have d1b : (t.f0 == 1) = true := beq_iff_eq.mpr d1
     clear d1
     obtain ⟨⟨y1, y2, y3, y4⟩, hy, H⟩ := Option.bind_eq_some_iff.mp H
     dsimp only at H
     by_cases lm : out.length < 2513169434916
     rotate_left
     ·rw [if_neg lm] at H
      exact absurd H (by simp)
     rw [if_pos lm] at H
     have LM := Aside0.mk lm
     have H' := Aside0.mk H
     have HY := Aside0.mk hy
     clear H lm hy
     obtain ⟨A0, c0, hkp, hgp, hrp⟩ := IS.out
     have hc1 := cellS48_1 hkp
     have hc2 := cellS48_2 hkp
     have hf1 := blk_frozen hkp 1
     clear hkp hgp hrp
     go_upto_region 12 with (fail)
     clear hc1 hc2 hf1
     obtain ⟨w5, hw_⟩ : ∃ w_, w_ = (w4.setCell ⟨g, 1, none⟩ (.int .i64 (wrap64 (a1 + 1)))) := ⟨_, rfl⟩
     rw [← hw_]
     have nIS := Aside0.mk (show IsS48 w0 w5 g l (wrap64 (a1 + 1)) 0 fa by rw [hw_]; exact IsS48.set_1 IS.out _)
     have nHB := Aside0.mk (show Below w0.heap.size w0 w5 by rw [hw_]; exact below_set HB.out (IsS48.ge IS.out))
     have nHK := Aside0.mk (show KeepBut w w5 g none by rw [hw_]; exact KeepBut.set_ HK.out _ _)
     have nHO := Aside0.mk (show Kd.R k38 38 w5 w.heap.size (fun k => k ≠ g) _ out by rw [hw_]; exact Kd.R_far HO.out (p := ⟨g, 1, none⟩) (fun _ h_ => h_) _)
     have nBg6 := Aside0.mk (show w5.heap[g6]? = some (.cells #[.int .i64 t.f0, .string t.f1, .int .i64 t.f2] 44 (0, 0)) by rw [hw_]; exact blk_far Bg6.out (p := ⟨g, 1, none⟩) NEg6.out _)
     clear hw_
     clear IS HB HK HO Bg6
     have IS := nIS
     have HB := nHB
     have HK := nHK
     have HO := nHO
     have Bg6 := nBg6
     clear nIS nHB nHK nHO nBg6
     clear ht0 ht1 ht2
     have ht0 : w5.cell? ⟨g6, 0, none⟩ = some (.int .i64 t.f0) := (blk_cell Bg6.out 0).trans rfl
     have ht1 : w5.cell? ⟨g6, 1, none⟩ = some (.string t.f1) := (blk_cell Bg6.out 1).trans rfl
     have ht2 : w5.cell? ⟨g6, 2, none⟩ = some (.int .i64 t.f2) := (blk_cell Bg6.out 2).trans rfl
     refine start_ (n := 12) (S := fun w' => w'.cell? ⟨g6, 1, none⟩ = some (.string t.f1) ∧ w'.cell? ⟨g6, 2, none⟩ = some (.int .i64 t.f2)) (ds := []) #[false, false, false, false, false, false, false, false, false, false, false, false] (by kernel_rfl) rfl rfl ⟨ht1, ht2⟩ (fun hHeld => ?_)
     generalize hwd : w5.drew = w6 at hHeld ⊢
     have nIS := Aside0.mk (show IsS48 w0 w6 g l (wrap64 (a1 + 1)) 0 fa by rw [← hwd]; exact IsS48.drew IS.out)
     have nHB := Aside0.mk (show Below w0.heap.size w0 w6 by rw [← hwd]; exact below_drew HB.out)
     have nHK := Aside0.mk (show KeepBut w w6 g none by rw [← hwd]; exact keep_drew HK.out)
     have nHO := Aside0.mk (show Kd.R k38 38 w6 w.heap.size (fun k => k ≠ g) u5 out by rw [← hwd]; exact Kd.R_drew HO.out)
     have nBg6 := Aside0.mk (show w6.heap[g6]? = some (.cells #[.int .i64 t.f0, .string t.f1, .int .i64 t.f2] 44 (0, 0)) by rw [← hwd]; exact blk_drew Bg6.out)
     clear hwd ht0 ht1 ht2
     clear IS HB HK HO Bg6
     have IS := nIS
     have HB := nHB
     have HK := nHK
     have HO := nHO
     have Bg6 := nBg6
     clear nIS nHB nHK nHO nBg6
     refine pure_ (i := 0) (N := some 50) (v := ?_) (a' := ?_) #[true, false, false, false, false, false, false, false, false, false, false, false] rfl rfl (by kernel_rfl) (fun _ _ _ h => h) (Or.inl ⟨by rfl, ?_⟩) ?_ ?_
     rotate_left
     ·intro w'
      go_simp
      with_reducible rfl
     rotate_left
     ·simp only [Act.put, List.setIfInBounds_toArray, List.set_cons_zero, List.set_cons_succ, i64_w, i32_w]
      rfl
     refine pure_ (i := 1) (N := some 51) (v := ?_) (a' := ?_) #[true, true, false, false, false, false, false, false, false, false, false, false] rfl rfl (by kernel_rfl) (fun _ _ _ h => h) (Or.inl ⟨by rfl, ?_⟩) ?_ ?_
     rotate_left
     ·intro w'
      go_simp
      with_reducible rfl
     rotate_left
     ·simp only [Act.put, List.setIfInBounds_toArray, List.set_cons_zero, List.set_cons_succ, i64_w, i32_w]
      rfl
     refine take_ (i := 2) (N := some 52) (v := ?_) (a' := ?_) #[true, true, true, false, false, false, false, false, false, false, false, false] rfl rfl (by kernel_rfl) (fun _ _ _ h => h) (Or.inl ⟨by rfl, ?_⟩) hHeld ?_ ?_
     rotate_left
     ·rintro w' ⟨s0, s1⟩
      go_simp
      with_reducible rfl
     rotate_left
     ·simp only [Act.put, List.setIfInBounds_toArray, List.set_cons_zero, List.set_cons_succ, i64_w, i32_w]
      rfl
     refine pure_ (i := 3) (N := some 53) (v := ?_) (a' := ?_) #[true, true, true, true, false, false, false, false, false, false, false, false] rfl rfl (by kernel_rfl) (fun _ _ _ h => h) (Or.inl ⟨by rfl, ?_⟩) ?_ ?_
     rotate_left
     ·intro w'
      go_simp
      with_reducible rfl
     rotate_left
     ·simp only [Act.put, List.setIfInBounds_toArray, List.set_cons_zero, List.set_cons_succ, i64_w, i32_w]
      rfl
     refine take_ (i := 4) (N := some 54) (v := ?_) (a' := ?_) #[true, true, true, true, true, false, false, false, false, false, false, false] rfl rfl (by kernel_rfl) (fun _ _ _ h => h) (Or.inl ⟨by rfl, ?_⟩) hHeld ?_ ?_
     rotate_left
     ·rintro w' ⟨s0, s1⟩
      go_simp
      with_reducible rfl
     rotate_left
     ·simp only [Act.put, List.setIfInBounds_toArray, List.set_cons_zero, List.set_cons_succ, i64_w, i32_w]
      rfl
     refine pure_ (i := 5) (N := some 55) (v := ?_) (a' := ?_) #[true, true, true, true, true, true, false, false, false, false, false, false] rfl rfl (by kernel_rfl) (fun _ _ _ h => h) (Or.inl ⟨by rfl, ?_⟩) ?_ ?_
     rotate_left
     ·intro w'
      go_simp
      with_reducible rfl
     rotate_left
     ·simp only [Act.put, List.setIfInBounds_toArray, List.set_cons_zero, List.set_cons_succ, i64_w, i32_w]
      rfl
     refine pure_ (i := 6) (N := some 56) (v := ?_) (a' := ?_) #[true, true, true, true, true, true, true, false, false, false, false, false] rfl rfl (by kernel_rfl) (fun _ _ _ h => h) (Or.inl ⟨by rfl, ?_⟩) ?_ ?_
     rotate_left
     ·intro w'
      go_simp
      with_reducible rfl
     rotate_left
     ·simp only [Act.put, List.setIfInBounds_toArray, List.set_cons_zero, List.set_cons_succ, i64_w, i32_w]
      rfl
     refine one_ (i := 7) (N := some 57) #[true, true, true, true, true, true, true, true, false, false, false, false] rfl rfl (by kernel_rfl) (by decide) (fun K hK => ?_)
     refine goes_ Try.func32 (by kernel_rfl) rfl #[.pointer (some ⟨g, 0, none⟩), .int .i64 d] (by rfl) rfl rfl (by (try simp only [List.map_toArray, List.map_cons, List.map_nil]); first | done | rfl) ?_
     refine (IHA.out k1 (by have := HK0.out; omega) g l d (wrap64 (a1 + 1)) 0 fa y1 y2 y3 y4 w0 w6 IS.out HB.out HY.out).mono ?_
     rintro e w7 ⟨v7, rfl, ho, hi, hb, hk⟩
     refine ⟨_, rfl, ?_⟩
     have nIS := Aside0.mk hi
     have nHB := Aside0.mk hb
     have nHO := Aside0.mk (Kd.R_keep HO.out hk (fun _ h_ => h_))
     have HY7 := Aside0.mk (Kd.R_lower (Kd.R_new' ho (Kd.R_lt HO.out)) (keep_size HK.out))
     have nHK := Aside0.mk (KeepBut.trans HK.out hk (.inl rfl))
     have nBg6 := Aside0.mk (KeepBut.blk hk Bg6.out NEg6.out (by simp))
     clear ho hi hb hk hHeld HY
     clear IS HB HK HO Bg6
     have IS := nIS
     have HB := nHB
     have HK := nHK
     have HO := nHO
     have Bg6 := nBg6
     clear nIS nHB nHK nHO nBg6
     obtain ⟨A7, c7, e7⟩ := Kd.R_slice HY7.out
     subst e7
     refine hK.out _ _ ⟨(blk_cell Bg6.out 1).trans rfl, (blk_cell Bg6.out 2).trans rfl⟩ (fun hHeld => ?_)
     clear hK K
     refine norm_ (a' := ?_) ?_ ?_
     rotate_left
     ·show Act.put _ (some 57) _ = _
      simp only [Act.put, List.setIfInBounds_toArray, List.set_cons_zero, List.set_cons_succ, i64_w, i32_w]
      rfl
     refine pure_ (i := 8) (N := some 58) (v := ?_) (a' := ?_) #[true, true, true, true, true, true, true, true, true, false, false, false] rfl rfl (by kernel_rfl) (fun _ _ _ h => h) (Or.inl ⟨by rfl, ?_⟩) ?_ ?_
     rotate_left
     ·intro w'
      go_simp
      with_reducible rfl
     rotate_left
     ·simp only [Act.put, List.setIfInBounds_toArray, List.set_cons_zero, List.set_cons_succ, i64_w, i32_w]
      rfl
     refine one_ (i := 9) (N := some 59) #[true, true, true, true, true, true, true, true, true, true, false, false] rfl rfl (by kernel_rfl) (by decide) (fun K hK => ?_)
     refine value_ (w1 := ?_) (v := ?_) (by rfl) rfl ?_ ?_
     rotate_left 2
     ·go_simp
      constructor
      ·rfl
      ·rfl
     refine hK.out _ _ ⟨(blk_cell (blk_alloc Bg6.out _) 1).trans rfl, (blk_cell (blk_alloc Bg6.out _) 2).trans rfl⟩ (fun hHeld => ?_)
     clear hK K
     refine norm_ (a' := ?_) ?_ ?_
     rotate_left
     ·show Act.put _ (some 59) _ = _
      simp only [Act.put, List.setIfInBounds_toArray, List.set_cons_zero, List.set_cons_succ, i64_w, i32_w]
      rfl
     refine one_ (i := 10) (N := some 60) #[true, true, true, true, true, true, true, true, true, true, true, false] rfl rfl (by kernel_rfl) (by decide) (fun K hK => ?_)
     refine Kd.R_append_step k38 (w0 := w7) w.heap.size (by rfl) (.tmp 50) (.tmp 59) 23 38 (.agg #[(.bool false), (.string ⟨#[]⟩), (.slice none 0 0), (.int .i64 0)]) 56 rfl Try.underlying23 info38 rfl (by decide) (by omega) u5 out (⟨true, t.f1, y1, t.f2⟩ : S38) [.bool true, .string t.f1, .slice A7 y1.length c7, .int .i64 t.f2] (fun k => k ≠ g) (fun k => k ≠ g ∧ some k ≠ u5.ownBlock) rfl rfl ?aP (fun _ hk => hk) ?aF ?aO ?aB ?aS ?aL ?_
     (case aP => exact k38_mkM _ _ _ (⟨true, t.f1, y1, t.f2⟩ : S38) HY7.out)
     (case aF => exact (fun k hk e => by have := IsS48.lt IS.out; omega))
     (case aO => exact HO.out)
     (case aB => exact Below.refl _ _)
     (case aS => exact keep_size HK.out)
     (case aL => have := LM.out; omega)
     intro v1 w8 ho hb hg hat
     have nIS := Aside0.mk (IsS48.grown IS.out hg (IsS48.own_ne IS.out HO.out (by decide)))
     have nHB := Aside0.mk (Below.grown HB.out hg HB.out.size (fun k hk => Nat.le_trans HB0.out (Kd.R_base HO.out k hk)))
     have nHK := Aside0.mk (KeepBut.trans HK.out (KeepBut.of_grown hg g) (Kd.R_base2 HO.out))
     have nHO := Aside0.mk ho
     have nBg6 := Aside0.mk (blk_grown Bg6.out hg (Kd.R_ne HO.out Bg6.out (by decide)))
     clear ho hb hg hat
     clear IS HB HK HO Bg6
     have IS := nIS
     have HB := nHB
     have HK := nHK
     have HO := nHO
     have Bg6 := nBg6
     clear nIS nHB nHK nHO nBg6
     refine hK.out _ _ ⟨(blk_cell Bg6.out 1).trans rfl, (blk_cell Bg6.out 2).trans rfl⟩ (fun hHeld => ?_)
     clear hK K
     refine norm_ (a' := ?_) ?_ ?_
     rotate_left
     ·show Act.put _ (some 60) _ = _
      simp only [Act.put, List.setIfInBounds_toArray, List.set_cons_zero, List.set_cons_succ, i64_w, i32_w]
      rfl
     refine pure_ (i := 11) (N := some 5) (v := ?_) (a' := ?_) #[true, true, true, true, true, true, true, true, true, true, true, true] rfl rfl (by kernel_rfl) (fun _ _ _ h => h) (Or.inl ⟨by rfl, ?_⟩) ?_ ?_
     rotate_left
     ·intro w'
      go_simp
      with_reducible rfl
     rotate_left
     ·simp only [Act.put, List.setIfInBounds_toArray, List.set_cons_zero, List.set_cons_succ, i64_w, i32_w]
      rfl
     refine done_ (by kernel_rfl) ?_
     (try go_wp2)
     go_roundg k1
     case measure => omega
     case rel => exact ⟨_, _, _, _, H', ⟨by have := HK0.out; omega⟩, ⟨IS.out⟩, ⟨HB.out⟩, ⟨HK.out⟩, ⟨HO.out⟩⟩
    rw [if_neg d1] at H
    have d1b : (t.f0 == 1) = false := beq_eq_false_iff_ne.mpr d1
    clear d1
    by_cases d2 : t.f0 = 2
    ·rw [if_pos d2] at H
     have d2b : (t.f0 == 2) = true := beq_iff_eq.mpr d2
     clear d2
     have H' := Aside0.mk H
     clear H
     go_wp2_with (go_at_call 33; refine (tree_parser_fail.calls g l a1 0 fa 60 t.f2 a1 60 t.f2 w0 _ IS.out HB.out (by unfold tree_parser_fail.f; rw [if_pos rfl])).mono ?_; rintro e w6 ⟨rfl, hi, hb, hk⟩; have nIS := Aside0.mk hi; have nHB := Aside0.mk hb; have nHK := Aside0.mk (KeepBut.trans HK.out hk (.inl rfl)); have nHO := Aside0.mk (Kd.R_keep HO.out hk (fun _ h_ => h_)); clear hi hb hk; clear IS HB HK HO; have IS := nIS; have HB := nHB; have HK := nHK; have HO := nHO; clear nIS nHB nHK nHO)
     go_roundg k1
     case measure => omega
     case rel => exact ⟨_, _, _, _, H', ⟨by have := HK0.out; omega⟩, ⟨IS.out⟩, ⟨HB.out⟩, ⟨HK.out⟩, ⟨HO.out⟩⟩
    rw [if_neg d2] at H
    have d2b : (t.f0 == 2) = false := beq_eq_false_iff_ne.mpr d2
    clear d2
    by_cases d3 : t.f0 = 3
    ·rw [if_pos d3] at H
     have d3b : (t.f0 == 3) = true := beq_iff_eq.mpr d3
     clear d3
     by_cases d4 : d > 0
     ·rw [if_pos d4] at H
      obtain ⟨rfl, rfl, rfl, rfl⟩ : out = r ∧ a1 = a' ∧ 0 = fc' ∧ fa = fa' := by simpa using H
      have d4b : decide (0 < d) = true := decide_eq_true d4
      clear H d4
      go_wp2
      refine bodyPost_ret (results_tmp rfl _ _ _) rfl ?_
      exact ⟨_, rfl, HO.out, IS.out, HB.out, HK.out⟩
     ·rw [if_neg d4] at H
      have d4b : decide (0 < d) = false := decide_eq_false d4
      have H' := Aside0.mk H
      clear H d4
      go_wp2_with (go_at_call 33; refine (tree_parser_fail.calls g l a1 0 fa 61 t.f2 a1 61 t.f2 w0 _ IS.out HB.out (by unfold tree_parser_fail.f; rw [if_pos rfl])).mono ?_; rintro e w6 ⟨rfl, hi, hb, hk⟩; have nIS := Aside0.mk hi; have nHB := Aside0.mk hb; have nHK := Aside0.mk (KeepBut.trans HK.out hk (.inl rfl)); have nHO := Aside0.mk (Kd.R_keep HO.out hk (fun _ h_ => h_)); clear hi hb hk; clear IS HB HK HO; have IS := nIS; have HB := nHB; have HK := nHK; have HO := nHO; clear nIS nHB nHK nHO)
      go_roundg k1
      case measure => omega
      case rel => exact ⟨_, _, _, _, H', ⟨by have := HK0.out; omega⟩, ⟨IS.out⟩, ⟨HB.out⟩, ⟨HK.out⟩, ⟨HO.out⟩⟩
    rw [if_neg d3] at H
    have d3b : (t.f0 == 3) = false := beq_eq_false_iff_ne.mpr d3
    clear d3
    have H' := Aside0.mk H
    clear H
    go_wp2
    go_roundg k1
    case measure => omega
    case rel => exact ⟨_, _, _, _, H', ⟨by have := HK0.out; omega⟩, ⟨IS.out⟩, ⟨HB.out⟩, ⟨HK.out⟩, ⟨HO.out⟩⟩
set_option maxHeartbeats 8000000 in
set_option maxRecDepth 100000 in
theorem targs.step (k : Nat) (ihN : ∀ m, m < k → tnodes.S m) (ihA : ∀ m, m < k → targs.S m) : targs.S k := by
 intro g l d a fc fa r a' fc' fa' w0 w hI hB h
 have hu44 := Try.underlying44
 have hu22 := Try.underlying22
 have hu23 := Try.underlying23
 have hu36 := Try.underlying36
 have hu38 := Try.underlying38
 have hu48 := Try.underlying48
 have hu26 := Try.underlying26
 have IHN := Aside0.mk ihN
 have IHA := Aside0.mk ihA
 have IS := Aside0.mk hI
 have HB := Aside0.mk hB
 have HB0 := Aside0.mk hB.size
 have HK := Aside0.mk (KeepBut.refl w g none)
 have H' := Aside0.mk h
 clear hI hB h ihN ihA
 go_enter Try.func32, Try.ntmps32
 go_wp2
 go_loopg [5] k (fun kq v5 w' => ∃ (out : List (List S38)) (a fc fa : Int), Aside0 (targs.l kq l d out a fc fa = some (r, a', fc', fa')) ∧ Aside0 (kq ≤ k) ∧ Aside0 (IsS48 w0 w' g l a fc fa) ∧ Aside0 (Below w0.heap.size w0 w') ∧ Aside0 (KeepBut w w' g none) ∧ Aside0 (Kd.R (Kd.slice 38 k38) 23 w' w.heap.size (fun k => k ≠ g) v5 out))
 case atStart => exact ⟨[], a, fc, fa, H', ⟨Nat.le_refl _⟩, IS, HB, HK, ⟨Kd.R_nil _ _ _ _ _⟩⟩
 case round =>
  clear H' IS HB HK a fc fa
  obtain ⟨out, a, fc, fa, HA, HK0, IS, HB, HK, HO⟩ := hrel
  cases gk with
  | zero => exact absurd HA.out (by simp [targs.l])
  | succ k1 =>
   have H := HA.out
   clear HA
   simp only [targs.l] at H
   obtain ⟨A0, c0, hkp, hgp, hrp⟩ := IS.out
   have hc1 := cellS48_1 hkp
   have hc2 := cellS48_2 hkp
   have hf1 := blk_frozen hkp 1
   clear hkp hgp hrp
   by_cases c0 : fc = 0
   rotate_left
   ·rw [if_neg c0] at H
    obtain ⟨rfl, rfl, rfl, rfl⟩ : out = r ∧ a = a' ∧ fc = fc' ∧ fa = fa' := by simpa using H
    have c0b : (fc == 0) = false := beq_eq_false_iff_ne.mpr c0
    clear c0
    clear H
    go_wp2
    refine bodyPost_ret (results_tmp rfl _ _ _) rfl ?_
    exact ⟨_, rfl, HO.out, IS.out, HB.out, HK.out⟩
   rw [if_pos c0] at H
   subst c0
   obtain ⟨⟨a1, t, b⟩, hp, H⟩ := Option.bind_eq_some_iff.mp H
   dsimp only at H
   have HP := Aside0.mk hp
   have H2 := Aside0.mk H
   clear hp H
   go_upto_region 4 with (first | (go_at_call 31; refine (tpeek.calls k1 g l a 0 fa _ _ _ w0 _ IS.out HB.out HP.out).mono ?_; rintro e w2 ⟨rfl, hi, hb, hk⟩; have nIS := Aside0.mk hi; have nHB := Aside0.mk hb; have nHK := Aside0.mk (KeepBut.trans HK.out hk (.inl rfl)); have nHO := Aside0.mk (Kd.R_keep HO.out hk (fun _ h_ => h_)); clear hi hb hk; clear IS HB HK HO; have IS := nIS; have HB := nHB; have HK := nHK; have HO := nHO; clear nIS nHB nHK nHO) | ((with_reducible refine gate_dst (N := 6) rfl ?_); refine box_event ?hg (N := 6) ?hd (cs := #[.int .i64 0, .string ⟨#[]⟩, .int .i64 0]) (t := 44) ?hr ?_; (case hd => rfl); (case hg => rfl); (case hr => first | (go_simp; done) | (go_simp; rfl)); intro g6 hg w3 hbox hb; have Bg6 := Aside0.mk hbox; have GEg6 := Aside0.mk (show w.heap.size ≤ g6 by rw [hg]; exact keep_size HK.out); have NGg6 := Aside0.mk (show g ≠ g6 by rw [hg]; exact Nat.ne_of_lt (IsS48.lt IS.out)); have NEg6 := Aside0.mk (fun e_ => NGg6.out e_.symm : g6 ≠ g); have nIS := Aside0.mk (IsS48.below IS.out hb); have nHB := Aside0.mk (below_then HB.out HB.out.size hb); have nHK := Aside0.mk (KeepBut.trans HK.out (KeepBut.of_below hb g none) (.inl rfl)); have nHO := Aside0.mk (Kd.R_below HO.out hb); clear hg hbox hb; clear IS HB HK HO; have IS := nIS; have HB := nHB; have HK := nHK; have HO := nHO; clear nIS nHB nHK nHO; have hb0_ : w3.cell? ⟨g6, 0, none⟩ = some (.int .i64 0) := (blk_cell Bg6.out 0).trans rfl; have hb1_ : w3.cell? ⟨g6, 1, none⟩ = some (.string ⟨#[]⟩) := (blk_cell Bg6.out 1).trans rfl; have hb2_ : w3.cell? ⟨g6, 2, none⟩ = some (.int .i64 0) := (blk_cell Bg6.out 2).trans rfl; have hbf0_ := blk_frozen Bg6.out 0; have hbf1_ := blk_frozen Bg6.out 1; have hbf2_ := blk_frozen Bg6.out 2))
   clear hc1 hc2 hf1
   obtain ⟨w4, hw_⟩ : ∃ w_, w_ = (((w3.setCell ⟨g6, 0, none⟩ (.int .i64 t.f0)).setCell ⟨g6, 1, none⟩ (.string t.f1)).setCell ⟨g6, 2, none⟩ (.int .i64 t.f2)) := ⟨_, rfl⟩
   rw [← hw_]
   have GWg6 := Aside0.mk (show w0.heap.size ≤ g6 by have := GEg6.out; have := HB0.out; omega)
   have nIS := Aside0.mk (show IsS48 w0 w4 g l a1 0 fa by rw [hw_]; exact IsS48.far (p := ⟨g6, 2, none⟩) (IsS48.far (p := ⟨g6, 1, none⟩) (IsS48.far (p := ⟨g6, 0, none⟩) (IS.out) NGg6.out _) NGg6.out _) NGg6.out _)
   have nHB := Aside0.mk (show Below w0.heap.size w0 w4 by rw [hw_]; exact Below.setCell (Below.setCell (Below.setCell (HB.out) GWg6.out _) GWg6.out _) GWg6.out _)
   have nHK := Aside0.mk (show KeepBut w w4 g none by rw [hw_]; exact keep_far (p := ⟨g6, 2, none⟩) (keep_far (p := ⟨g6, 1, none⟩) (keep_far (p := ⟨g6, 0, none⟩) (HK.out) GEg6.out _) GEg6.out _) GEg6.out _)
   have nHO := Aside0.mk (show Kd.R (Kd.slice 38 k38) 23 w4 w.heap.size (fun k => k ≠ g) _ out by rw [hw_]; exact Kd.R_set (Kd.R_set (Kd.R_set (HO.out) (Bg6.out) (by decide) 0 _) (blk_put (cs := #[.int .i64 0, .string ⟨#[]⟩, .int .i64 0]) (Bg6.out) 0 _ rfl) (by decide) 1 _) (blk_put (cs := #[.int .i64 t.f0, .string ⟨#[]⟩, .int .i64 0]) (blk_put (cs := #[.int .i64 0, .string ⟨#[]⟩, .int .i64 0]) (Bg6.out) 0 _ rfl) 1 _ rfl) (by decide) 2 _)
   have nBg6 := Aside0.mk (show w4.heap[g6]? = some (.cells #[.int .i64 t.f0, .string t.f1, .int .i64 t.f2] 44 (0, 0)) by rw [hw_]; exact blk_put (cs := #[.int .i64 t.f0, .string t.f1, .int .i64 0]) (blk_put (cs := #[.int .i64 t.f0, .string ⟨#[]⟩, .int .i64 0]) (blk_put (cs := #[.int .i64 0, .string ⟨#[]⟩, .int .i64 0]) (Bg6.out) 0 _ rfl) 1 _ rfl) 2 _ rfl)
   clear hw_ hb0_ hb1_ hb2_ hbf0_ hbf1_ hbf2_
   clear IS HB HK HO Bg6
   have IS := nIS
   have HB := nHB
   have HK := nHK
   have HO := nHO
   have Bg6 := nBg6
   clear nIS nHB nHK nHO nBg6
   have H := H2.out
   clear H2
   cases b with
   | false =>
    rw [if_neg (by decide)] at H
    obtain ⟨rfl, rfl, rfl, rfl⟩ : out = r ∧ a1 = a' ∧ 0 = fc' ∧ fa = fa' := by simpa using H
    clear H
    go_wp2
    refine bodyPost_ret (results_tmp rfl _ _ _) rfl ?_
    exact ⟨_, rfl, HO.out, IS.out, HB.out, HK.out⟩
   | true =>
    rw [if_pos rfl] at H
    have ht0 : w4.cell? ⟨g6, 0, none⟩ = some (.int .i64 t.f0) := (blk_cell Bg6.out 0).trans rfl
    have ht1 : w4.cell? ⟨g6, 1, none⟩ = some (.string t.f1) := (blk_cell Bg6.out 1).trans rfl
    have ht2 : w4.cell? ⟨g6, 2, none⟩ = some (.int .i64 t.f2) := (blk_cell Bg6.out 2).trans rfl
    by_cases d2 : t.f0 = 2
    rotate_left
    ·rw [if_neg d2] at H
     have d2b : (t.f0 == 2) = false := beq_eq_false_iff_ne.mpr d2
     have d2c : (t.f0 != 2) = true := bne_iff_ne.mpr d2
     clear d2
     obtain ⟨rfl, rfl, rfl, rfl⟩ : out = r ∧ a1 = a' ∧ 0 = fc' ∧ fa = fa' := by simpa using H
     clear H
     go_wp2
     refine bodyPost_ret (results_tmp rfl _ _ _) rfl ?_
     exact ⟨_, rfl, HO.out, IS.out, HB.out, HK.out⟩
    rw [if_pos d2] at H
    have d2b : (t.f0 == 2) = true := beq_iff_eq.mpr d2
    have d2c : (t.f0 != 2) = false := bne_eq_false_iff_eq.mpr d2
    clear d2
    by_cases d3 : d ≥ 64
    ·rw [if_pos d3] at H
     obtain ⟨rfl, rfl, rfl, rfl⟩ : out = r ∧ a1 = a' ∧ 63 = fc' ∧ t.f2 = fa' := by simpa using H
     have d3b : decide (64 ≤ d) = true := decide_eq_true d3
     clear H d3
     go_wp2_with (go_at_call 33; refine (tree_parser_fail.calls g l a1 0 fa 63 t.f2 a1 63 t.f2 w0 _ IS.out HB.out (by unfold tree_parser_fail.f; rw [if_pos rfl])).mono ?_; rintro e w6 ⟨rfl, hi, hb, hk⟩; have nIS := Aside0.mk hi; have nHB := Aside0.mk hb; have nHK := Aside0.mk (KeepBut.trans HK.out hk (.inl rfl)); have nHO := Aside0.mk (Kd.R_keep HO.out hk (fun _ h_ => h_)); clear hi hb hk; clear IS HB HK HO; have IS := nIS; have HB := nHB; have HK := nHK; have HO := nHO; clear nIS nHB nHK nHO)
     refine bodyPost_ret (results_tmp rfl _ _ _) rfl ?_
     exact ⟨_, rfl, HO.out, IS.out, HB.out, HK.out⟩
    rw [if_neg d3] at H
    have d3b : decide (64 ≤ d) = false := decide_eq_false d3
    clear d3
    obtain ⟨⟨y1, y2, y3, y4⟩, hy, H⟩ := Option.bind_eq_some_iff.mp H
    dsimp only at H
    obtain ⟨⟨a2, t2, b2⟩, hq, H⟩ := Option.bind_eq_some_iff.mp H
    dsimp only at H
    by_cases lm : out.length < 5864062014805
    rotate_left
    ·rw [if_neg lm] at H
     exact absurd H (by simp)
    rw [if_pos lm] at H
    have LM := Aside0.mk lm
    have H2 := Aside0.mk H
    have HY := Aside0.mk hy
    have HQ := Aside0.mk hq
    clear H lm hy hq
    obtain ⟨A0, c0, hkp, hgp, hrp⟩ := IS.out
    have hc1 := cellS48_1 hkp
    have hc2 := cellS48_2 hkp
    have hf1 := blk_frozen hkp 1
    clear hkp hgp hrp
    go_upto_region 8 with (fail)
    clear hc1 hc2 hf1
    obtain ⟨w5, hw_⟩ : ∃ w_, w_ = (w4.setCell ⟨g, 1, none⟩ (.int .i64 (wrap64 (a1 + 1)))) := ⟨_, rfl⟩
    rw [← hw_]
    have nIS := Aside0.mk (show IsS48 w0 w5 g l (wrap64 (a1 + 1)) 0 fa by rw [hw_]; exact IsS48.set_1 IS.out _)
    have nHB := Aside0.mk (show Below w0.heap.size w0 w5 by rw [hw_]; exact below_set HB.out (IsS48.ge IS.out))
    have nHK := Aside0.mk (show KeepBut w w5 g none by rw [hw_]; exact KeepBut.set_ HK.out _ _)
    have nHO := Aside0.mk (show Kd.R (Kd.slice 38 k38) 23 w5 w.heap.size (fun k => k ≠ g) _ out by rw [hw_]; exact Kd.R_far HO.out (p := ⟨g, 1, none⟩) (fun _ h_ => h_) _)
    have nBg6 := Aside0.mk (show w5.heap[g6]? = some (.cells #[.int .i64 t.f0, .string t.f1, .int .i64 t.f2] 44 (0, 0)) by rw [hw_]; exact blk_far Bg6.out (p := ⟨g, 1, none⟩) NEg6.out _)
    clear hw_
    clear IS HB HK HO Bg6
    have IS := nIS
    have HB := nHB
    have HK := nHK
    have HO := nHO
    have Bg6 := nBg6
    clear nIS nHB nHK nHO nBg6
    clear ht0 ht1 ht2
    go_upto_region 9 with (go_at_call 20; refine (IHN.out k1 (by have := HK0.out; omega) g l (wrap64 (d + 1)) (wrap64 (a1 + 1)) 0 fa y1 y2 y3 y4 w0 w5 IS.out HB.out HY.out).mono ?_; rintro e w6 ⟨v8, rfl, ho, hi, hb, hk⟩; have nIS := Aside0.mk hi; have nHB := Aside0.mk hb; have nHO := Aside0.mk (Kd.R_keep HO.out hk (fun _ h_ => h_)); have HY8 := Aside0.mk (Kd.R_lower (Kd.R_new' ho (Kd.R_lt HO.out)) (keep_size HK.out)); have nHK := Aside0.mk (KeepBut.trans HK.out hk (.inl rfl)); have nBg6 := Aside0.mk (KeepBut.blk hk Bg6.out NEg6.out (by simp)); clear ho hi hb hk HY; clear IS HB HK HO Bg6; have IS := nIS; have HB := nHB; have HK := nHK; have HO := nHO; have Bg6 := nBg6; clear nIS nHB nHK nHO nBg6; obtain ⟨A8, c8, e8⟩ := Kd.R_slice HY8.out; subst e8)
    go_upto_region 10 with (first | (go_at_call 31; refine (tpeek.calls k1 g l y2 y3 y4 _ _ _ w0 _ IS.out HB.out HQ.out).mono ?_; rintro e w7 ⟨rfl, hi, hb, hk⟩; have nIS := Aside0.mk hi; have nHB := Aside0.mk hb; have nHK := Aside0.mk (KeepBut.trans HK.out hk (.inl rfl)); have nHO := Aside0.mk (Kd.R_keep HO.out hk (fun _ h_ => h_)); have nHY8 := Aside0.mk (Kd.R_keep HY8.out hk (fun _ h_ => h_.1)); have nBg6 := Aside0.mk (KeepBut.blk hk Bg6.out NEg6.out (by simp)); clear hi hb hk; clear IS HB HK HO HY8 Bg6; have IS := nIS; have HB := nHB; have HK := nHK; have HO := nHO; have HY8 := nHY8; have Bg6 := nBg6; clear nIS nHB nHK nHO nHY8 nBg6) | ((with_reducible refine gate_dst (N := 9) rfl ?_); refine box_event ?hg (N := 9) ?hd (cs := #[.int .i64 0, .string ⟨#[]⟩, .int .i64 0]) (t := 44) ?hr ?_; (case hd => rfl); (case hg => rfl); (case hr => first | (go_simp; done) | (go_simp; rfl)); intro g9 hg w8 hbox hb; have Bg9 := Aside0.mk hbox; have GEg9 := Aside0.mk (show w.heap.size ≤ g9 by rw [hg]; exact keep_size HK.out); have NGg9 := Aside0.mk (show g ≠ g9 by rw [hg]; exact Nat.ne_of_lt (IsS48.lt IS.out)); have NEg9 := Aside0.mk (fun e_ => NGg9.out e_.symm : g9 ≠ g); have NNg6_g9 := Aside0.mk (show g6 ≠ g9 by rw [hg]; exact Nat.ne_of_lt (blk_lt Bg6.out)); have nIS := Aside0.mk (IsS48.below IS.out hb); have nHB := Aside0.mk (below_then HB.out HB.out.size hb); have nHK := Aside0.mk (KeepBut.trans HK.out (KeepBut.of_below hb g none) (.inl rfl)); have nHO := Aside0.mk (Kd.R_below HO.out hb); have nHY8 := Aside0.mk (Kd.R_below HY8.out hb); have nBg6 := Aside0.mk (blk_below Bg6.out hb); clear hg hbox hb; clear IS HB HK HO HY8 Bg6; have IS := nIS; have HB := nHB; have HK := nHK; have HO := nHO; have HY8 := nHY8; have Bg6 := nBg6; clear nIS nHB nHK nHO nHY8 nBg6; have hb0_ : w8.cell? ⟨g9, 0, none⟩ = some (.int .i64 0) := (blk_cell Bg9.out 0).trans rfl; have hb1_ : w8.cell? ⟨g9, 1, none⟩ = some (.string ⟨#[]⟩) := (blk_cell Bg9.out 1).trans rfl; have hb2_ : w8.cell? ⟨g9, 2, none⟩ = some (.int .i64 0) := (blk_cell Bg9.out 2).trans rfl; have hbf0_ := blk_frozen Bg9.out 0; have hbf1_ := blk_frozen Bg9.out 1; have hbf2_ := blk_frozen Bg9.out 2))
    obtain ⟨w9, hw_⟩ : ∃ w_, w_ = (((w8.setCell ⟨g9, 0, none⟩ (.int .i64 t2.f0)).setCell ⟨g9, 1, none⟩ (.string t2.f1)).setCell ⟨g9, 2, none⟩ (.int .i64 t2.f2)) := ⟨_, rfl⟩
    rw [← hw_]
    have GWg9 := Aside0.mk (show w0.heap.size ≤ g9 by have := GEg9.out; have := HB0.out; omega)
    have nIS := Aside0.mk (show IsS48 w0 w9 g l a2 y3 y4 by rw [hw_]; exact IsS48.far (p := ⟨g9, 2, none⟩) (IsS48.far (p := ⟨g9, 1, none⟩) (IsS48.far (p := ⟨g9, 0, none⟩) (IS.out) NGg9.out _) NGg9.out _) NGg9.out _)
    have nHB := Aside0.mk (show Below w0.heap.size w0 w9 by rw [hw_]; exact Below.setCell (Below.setCell (Below.setCell (HB.out) GWg9.out _) GWg9.out _) GWg9.out _)
    have nHK := Aside0.mk (show KeepBut w w9 g none by rw [hw_]; exact keep_far (p := ⟨g9, 2, none⟩) (keep_far (p := ⟨g9, 1, none⟩) (keep_far (p := ⟨g9, 0, none⟩) (HK.out) GEg9.out _) GEg9.out _) GEg9.out _)
    have nHO := Aside0.mk (show Kd.R (Kd.slice 38 k38) 23 w9 w.heap.size (fun k => k ≠ g) _ out by rw [hw_]; exact Kd.R_set (Kd.R_set (Kd.R_set (HO.out) (Bg9.out) (by decide) 0 _) (blk_put (cs := #[.int .i64 0, .string ⟨#[]⟩, .int .i64 0]) (Bg9.out) 0 _ rfl) (by decide) 1 _) (blk_put (cs := #[.int .i64 t2.f0, .string ⟨#[]⟩, .int .i64 0]) (blk_put (cs := #[.int .i64 0, .string ⟨#[]⟩, .int .i64 0]) (Bg9.out) 0 _ rfl) 1 _ rfl) (by decide) 2 _)
    have nBg9 := Aside0.mk (show w9.heap[g9]? = some (.cells #[.int .i64 t2.f0, .string t2.f1, .int .i64 t2.f2] 44 (0, 0)) by rw [hw_]; exact blk_put (cs := #[.int .i64 t2.f0, .string t2.f1, .int .i64 0]) (blk_put (cs := #[.int .i64 t2.f0, .string ⟨#[]⟩, .int .i64 0]) (blk_put (cs := #[.int .i64 0, .string ⟨#[]⟩, .int .i64 0]) (Bg9.out) 0 _ rfl) 1 _ rfl) 2 _ rfl)
    have nHY8 := Aside0.mk (show Kd.R k38 38 w9 w.heap.size (fun k => k ≠ g ∧ some k ≠ u5.ownBlock) (.slice A8 y1.length c8) y1 by rw [hw_]; exact Kd.R_set (Kd.R_set (Kd.R_set (HY8.out) (Bg9.out) (by decide) 0 _) (blk_put (cs := #[.int .i64 0, .string ⟨#[]⟩, .int .i64 0]) (Bg9.out) 0 _ rfl) (by decide) 1 _) (blk_put (cs := #[.int .i64 t2.f0, .string ⟨#[]⟩, .int .i64 0]) (blk_put (cs := #[.int .i64 0, .string ⟨#[]⟩, .int .i64 0]) (Bg9.out) 0 _ rfl) 1 _ rfl) (by decide) 2 _)
    have nBg6 := Aside0.mk (show w9.heap[g6]? = some (.cells #[.int .i64 t.f0, .string t.f1, .int .i64 t.f2] 44 (0, 0)) by rw [hw_]; exact blk_far (blk_far (blk_far (Bg6.out) (p := ⟨g9, 0, none⟩) NNg6_g9.out _) (p := ⟨g9, 1, none⟩) NNg6_g9.out _) (p := ⟨g9, 2, none⟩) NNg6_g9.out _)
    clear hw_ hb0_ hb1_ hb2_ hbf0_ hbf1_ hbf2_
    clear IS HB HK HO Bg9 HY8 Bg6
    have IS := nIS
    have HB := nHB
    have HK := nHK
    have HO := nHO
    have Bg9 := nBg9
    have HY8 := nHY8
    have Bg6 := nBg6
    clear nIS nHB nHK nHO nBg9 nHY8 nBg6
    have H := H2.out
    clear H2
    cases b2 with
    | false =>
     rw [if_neg (by decide)] at H
     by_cases z : y3 = 0
     ·rw [if_pos z] at H
      have H' := Aside0.mk H
      have FL := Aside0.mk (show tree_parser_fail.f l a2 y3 y4 62 t.f2 = some (a2, 62, t.f2) by unfold tree_parser_fail.f; rw [if_pos z])
      clear H z
      have ht2 : w9.cell? ⟨g6, 2, none⟩ = some (.int .i64 t.f2) := (blk_cell Bg6.out 2).trans rfl
      go_upto_region 13 with (go_at_call 33; refine (tree_parser_fail.calls g l a2 y3 y4 62 t.f2 _ _ _ w0 _ IS.out HB.out FL.out).mono ?_; rintro e w10 ⟨rfl, hi, hb, hk⟩; have nIS := Aside0.mk hi; have nHB := Aside0.mk hb; have nHK := Aside0.mk (KeepBut.trans HK.out hk (.inl rfl)); have nHO := Aside0.mk (Kd.R_keep HO.out hk (fun _ h_ => h_)); have nHY8 := Aside0.mk (Kd.R_keep HY8.out hk (fun _ h_ => h_.1)); clear hi hb hk ht2; clear IS HB HK HO HY8; have IS := nIS; have HB := nHB; have HK := nHK; have HO := nHO; have HY8 := nHY8; clear nIS nHB nHK nHO nHY8)
      go_wp2_with ((with_reducible refine gate_builtin (b := .append) (xs := #[.tmp 68, .tmp 70]) rfl ?_); at_builtin; refine Kd.R_append (Kd.slice 38 k38) (w0 := w10) w.heap.size rfl (.tmp 68) (.tmp 70) 36 23 (.slice none 0 0) 24 rfl Try.underlying36 info23 rfl (by decide) (by omega) u5 out y1 [.slice A8 y1.length c8] (fun k => k ≠ g) (fun k => k ≠ g ∧ some k ≠ u5.ownBlock) rfl rfl ?aP (fun _ hk => hk) ?aF ?aO ?aB ?aS ?aL ?_; (case aP => exact Kd.M_row HY8.out); (case aF => exact (fun k hk e => by have := IsS48.lt IS.out; omega)); (case aO => exact HO.out); (case aB => exact Below.refl _ _); (case aS => exact keep_size HK.out); (case aL => have := LM.out; omega); intro v1 w11 ho hb hg hat; have nIS := Aside0.mk (IsS48.grown IS.out hg (IsS48.own_ne IS.out HO.out (by decide))); have nHB := Aside0.mk (Below.grown HB.out hg HB.out.size (fun k hk => Nat.le_trans HB0.out (Kd.R_base HO.out k hk))); have nHK := Aside0.mk (KeepBut.trans HK.out (KeepBut.of_grown hg g) (Kd.R_base2 HO.out)); have nHO := Aside0.mk ho; clear ho hb hg hat; clear IS HB HK HO; have IS := nIS; have HB := nHB; have HK := nHK; have HO := nHO; clear nIS nHB nHK nHO)
      go_roundg k1
      case measure => omega
      case rel => exact ⟨_, _, _, _, H', ⟨by have := HK0.out; omega⟩, ⟨IS.out⟩, ⟨HB.out⟩, ⟨HK.out⟩, ⟨HO.out⟩⟩
     ·rw [if_neg z] at H
      have H' := Aside0.mk H
      have FL := Aside0.mk (show tree_parser_fail.f l a2 y3 y4 62 t.f2 = some (a2, y3, y4) by unfold tree_parser_fail.f; rw [if_neg z])
      clear H z
      have ht2 : w9.cell? ⟨g6, 2, none⟩ = some (.int .i64 t.f2) := (blk_cell Bg6.out 2).trans rfl
      go_upto_region 13 with (go_at_call 33; refine (tree_parser_fail.calls g l a2 y3 y4 62 t.f2 _ _ _ w0 _ IS.out HB.out FL.out).mono ?_; rintro e w10 ⟨rfl, hi, hb, hk⟩; have nIS := Aside0.mk hi; have nHB := Aside0.mk hb; have nHK := Aside0.mk (KeepBut.trans HK.out hk (.inl rfl)); have nHO := Aside0.mk (Kd.R_keep HO.out hk (fun _ h_ => h_)); have nHY8 := Aside0.mk (Kd.R_keep HY8.out hk (fun _ h_ => h_.1)); clear hi hb hk ht2; clear IS HB HK HO HY8; have IS := nIS; have HB := nHB; have HK := nHK; have HO := nHO; have HY8 := nHY8; clear nIS nHB nHK nHO nHY8)
      go_wp2_with ((with_reducible refine gate_builtin (b := .append) (xs := #[.tmp 68, .tmp 70]) rfl ?_); at_builtin; refine Kd.R_append (Kd.slice 38 k38) (w0 := w10) w.heap.size rfl (.tmp 68) (.tmp 70) 36 23 (.slice none 0 0) 24 rfl Try.underlying36 info23 rfl (by decide) (by omega) u5 out y1 [.slice A8 y1.length c8] (fun k => k ≠ g) (fun k => k ≠ g ∧ some k ≠ u5.ownBlock) rfl rfl ?aP (fun _ hk => hk) ?aF ?aO ?aB ?aS ?aL ?_; (case aP => exact Kd.M_row HY8.out); (case aF => exact (fun k hk e => by have := IsS48.lt IS.out; omega)); (case aO => exact HO.out); (case aB => exact Below.refl _ _); (case aS => exact keep_size HK.out); (case aL => have := LM.out; omega); intro v1 w11 ho hb hg hat; have nIS := Aside0.mk (IsS48.grown IS.out hg (IsS48.own_ne IS.out HO.out (by decide))); have nHB := Aside0.mk (Below.grown HB.out hg HB.out.size (fun k hk => Nat.le_trans HB0.out (Kd.R_base HO.out k hk))); have nHK := Aside0.mk (KeepBut.trans HK.out (KeepBut.of_grown hg g) (Kd.R_base2 HO.out)); have nHO := Aside0.mk ho; clear ho hb hg hat; clear IS HB HK HO; have IS := nIS; have HB := nHB; have HK := nHK; have HO := nHO; clear nIS nHB nHK nHO)
      go_roundg k1
      case measure => omega
      case rel => exact ⟨_, _, _, _, H', ⟨by have := HK0.out; omega⟩, ⟨IS.out⟩, ⟨HB.out⟩, ⟨HK.out⟩, ⟨HO.out⟩⟩
    | true =>
     rw [if_pos rfl] at H
     have ht0 : w9.cell? ⟨g9, 0, none⟩ = some (.int .i64 t2.f0) := (blk_cell Bg9.out 0).trans rfl
     have ht1 : w9.cell? ⟨g9, 1, none⟩ = some (.string t2.f1) := (blk_cell Bg9.out 1).trans rfl
     have ht2 : w9.cell? ⟨g9, 2, none⟩ = some (.int .i64 t2.f2) := (blk_cell Bg9.out 2).trans rfl
     by_cases d4 : t2.f0 = 3
     ·rw [if_pos d4] at H
      have d4b : (t2.f0 == 3) = true := beq_iff_eq.mpr d4
      have H' := Aside0.mk H
      clear H d4
      obtain ⟨A0, c0, hkp, hgp, hrp⟩ := IS.out
      have hc1 := cellS48_1 hkp
      have hc2 := cellS48_2 hkp
      have hf1 := blk_frozen hkp 1
      clear hkp hgp hrp
      go_upto_region 13 with (fail)
      clear hc1 hc2 hf1
      obtain ⟨w10, hw_⟩ : ∃ w_, w_ = (w9.setCell ⟨g, 1, none⟩ (.int .i64 (wrap64 (a2 + 1)))) := ⟨_, rfl⟩
      rw [← hw_]
      have nIS := Aside0.mk (show IsS48 w0 w10 g l (wrap64 (a2 + 1)) y3 y4 by rw [hw_]; exact IsS48.set_1 IS.out _)
      have nHB := Aside0.mk (show Below w0.heap.size w0 w10 by rw [hw_]; exact below_set HB.out (IsS48.ge IS.out))
      have nHK := Aside0.mk (show KeepBut w w10 g none by rw [hw_]; exact KeepBut.set_ HK.out _ _)
      have nHO := Aside0.mk (show Kd.R (Kd.slice 38 k38) 23 w10 w.heap.size (fun k => k ≠ g) _ out by rw [hw_]; exact Kd.R_far HO.out (p := ⟨g, 1, none⟩) (fun _ h_ => h_) _)
      have nHY8 := Aside0.mk (show Kd.R k38 38 w10 w.heap.size (fun k => k ≠ g ∧ some k ≠ u5.ownBlock) (.slice A8 y1.length c8) y1 by rw [hw_]; exact Kd.R_far HY8.out (p := ⟨g, 1, none⟩) (fun _ h_ => h_.1) _)
      clear hw_
      clear IS HB HK HO HY8
      have IS := nIS
      have HB := nHB
      have HK := nHK
      have HO := nHO
      have HY8 := nHY8
      clear nIS nHB nHK nHO nHY8
      clear ht0 ht1 ht2
      go_wp2_with ((with_reducible refine gate_builtin (b := .append) (xs := #[.tmp 68, .tmp 70]) rfl ?_); at_builtin; refine Kd.R_append (Kd.slice 38 k38) (w0 := w10) w.heap.size rfl (.tmp 68) (.tmp 70) 36 23 (.slice none 0 0) 24 rfl Try.underlying36 info23 rfl (by decide) (by omega) u5 out y1 [.slice A8 y1.length c8] (fun k => k ≠ g) (fun k => k ≠ g ∧ some k ≠ u5.ownBlock) rfl rfl ?aP (fun _ hk => hk) ?aF ?aO ?aB ?aS ?aL ?_; (case aP => exact Kd.M_row HY8.out); (case aF => exact (fun k hk e => by have := IsS48.lt IS.out; omega)); (case aO => exact HO.out); (case aB => exact Below.refl _ _); (case aS => exact keep_size HK.out); (case aL => have := LM.out; omega); intro v1 w11 ho hb hg hat; have nIS := Aside0.mk (IsS48.grown IS.out hg (IsS48.own_ne IS.out HO.out (by decide))); have nHB := Aside0.mk (Below.grown HB.out hg HB.out.size (fun k hk => Nat.le_trans HB0.out (Kd.R_base HO.out k hk))); have nHK := Aside0.mk (KeepBut.trans HK.out (KeepBut.of_grown hg g) (Kd.R_base2 HO.out)); have nHO := Aside0.mk ho; clear ho hb hg hat; clear IS HB HK HO; have IS := nIS; have HB := nHB; have HK := nHK; have HO := nHO; clear nIS nHB nHK nHO)
      go_roundg k1
      case measure => omega
      case rel => exact ⟨_, _, _, _, H', ⟨by have := HK0.out; omega⟩, ⟨IS.out⟩, ⟨HB.out⟩, ⟨HK.out⟩, ⟨HO.out⟩⟩
     ·rw [if_neg d4] at H
      have d4b : (t2.f0 == 3) = false := beq_eq_false_iff_ne.mpr d4
      clear d4
      by_cases z : y3 = 0
      ·rw [if_pos z] at H
       have H' := Aside0.mk H
       have FL := Aside0.mk (show tree_parser_fail.f l a2 y3 y4 62 t.f2 = some (a2, 62, t.f2) by unfold tree_parser_fail.f; rw [if_pos z])
       clear H z
       have ht2 : w9.cell? ⟨g6, 2, none⟩ = some (.int .i64 t.f2) := (blk_cell Bg6.out 2).trans rfl
       go_upto_region 13 with (go_at_call 33; refine (tree_parser_fail.calls g l a2 y3 y4 62 t.f2 _ _ _ w0 _ IS.out HB.out FL.out).mono ?_; rintro e w10 ⟨rfl, hi, hb, hk⟩; have nIS := Aside0.mk hi; have nHB := Aside0.mk hb; have nHK := Aside0.mk (KeepBut.trans HK.out hk (.inl rfl)); have nHO := Aside0.mk (Kd.R_keep HO.out hk (fun _ h_ => h_)); have nHY8 := Aside0.mk (Kd.R_keep HY8.out hk (fun _ h_ => h_.1)); clear hi hb hk ht2; clear IS HB HK HO HY8; have IS := nIS; have HB := nHB; have HK := nHK; have HO := nHO; have HY8 := nHY8; clear nIS nHB nHK nHO nHY8)
       go_wp2_with ((with_reducible refine gate_builtin (b := .append) (xs := #[.tmp 68, .tmp 70]) rfl ?_); at_builtin; refine Kd.R_append (Kd.slice 38 k38) (w0 := w10) w.heap.size rfl (.tmp 68) (.tmp 70) 36 23 (.slice none 0 0) 24 rfl Try.underlying36 info23 rfl (by decide) (by omega) u5 out y1 [.slice A8 y1.length c8] (fun k => k ≠ g) (fun k => k ≠ g ∧ some k ≠ u5.ownBlock) rfl rfl ?aP (fun _ hk => hk) ?aF ?aO ?aB ?aS ?aL ?_; (case aP => exact Kd.M_row HY8.out); (case aF => exact (fun k hk e => by have := IsS48.lt IS.out; omega)); (case aO => exact HO.out); (case aB => exact Below.refl _ _); (case aS => exact keep_size HK.out); (case aL => have := LM.out; omega); intro v1 w11 ho hb hg hat; have nIS := Aside0.mk (IsS48.grown IS.out hg (IsS48.own_ne IS.out HO.out (by decide))); have nHB := Aside0.mk (Below.grown HB.out hg HB.out.size (fun k hk => Nat.le_trans HB0.out (Kd.R_base HO.out k hk))); have nHK := Aside0.mk (KeepBut.trans HK.out (KeepBut.of_grown hg g) (Kd.R_base2 HO.out)); have nHO := Aside0.mk ho; clear ho hb hg hat; clear IS HB HK HO; have IS := nIS; have HB := nHB; have HK := nHK; have HO := nHO; clear nIS nHB nHK nHO)
       go_roundg k1
       case measure => omega
       case rel => exact ⟨_, _, _, _, H', ⟨by have := HK0.out; omega⟩, ⟨IS.out⟩, ⟨HB.out⟩, ⟨HK.out⟩, ⟨HO.out⟩⟩
      ·rw [if_neg z] at H
       have H' := Aside0.mk H
       have FL := Aside0.mk (show tree_parser_fail.f l a2 y3 y4 62 t.f2 = some (a2, y3, y4) by unfold tree_parser_fail.f; rw [if_neg z])
       clear H z
       have ht2 : w9.cell? ⟨g6, 2, none⟩ = some (.int .i64 t.f2) := (blk_cell Bg6.out 2).trans rfl
       go_upto_region 13 with (go_at_call 33; refine (tree_parser_fail.calls g l a2 y3 y4 62 t.f2 _ _ _ w0 _ IS.out HB.out FL.out).mono ?_; rintro e w10 ⟨rfl, hi, hb, hk⟩; have nIS := Aside0.mk hi; have nHB := Aside0.mk hb; have nHK := Aside0.mk (KeepBut.trans HK.out hk (.inl rfl)); have nHO := Aside0.mk (Kd.R_keep HO.out hk (fun _ h_ => h_)); have nHY8 := Aside0.mk (Kd.R_keep HY8.out hk (fun _ h_ => h_.1)); clear hi hb hk ht2; clear IS HB HK HO HY8; have IS := nIS; have HB := nHB; have HK := nHK; have HO := nHO; have HY8 := nHY8; clear nIS nHB nHK nHO nHY8)
       go_wp2_with ((with_reducible refine gate_builtin (b := .append) (xs := #[.tmp 68, .tmp 70]) rfl ?_); at_builtin; refine Kd.R_append (Kd.slice 38 k38) (w0 := w10) w.heap.size rfl (.tmp 68) (.tmp 70) 36 23 (.slice none 0 0) 24 rfl Try.underlying36 info23 rfl (by decide) (by omega) u5 out y1 [.slice A8 y1.length c8] (fun k => k ≠ g) (fun k => k ≠ g ∧ some k ≠ u5.ownBlock) rfl rfl ?aP (fun _ hk => hk) ?aF ?aO ?aB ?aS ?aL ?_; (case aP => exact Kd.M_row HY8.out); (case aF => exact (fun k hk e => by have := IsS48.lt IS.out; omega)); (case aO => exact HO.out); (case aB => exact Below.refl _ _); (case aS => exact keep_size HK.out); (case aL => have := LM.out; omega); intro v1 w11 ho hb hg hat; have nIS := Aside0.mk (IsS48.grown IS.out hg (IsS48.own_ne IS.out HO.out (by decide))); have nHB := Aside0.mk (Below.grown HB.out hg HB.out.size (fun k hk => Nat.le_trans HB0.out (Kd.R_base HO.out k hk))); have nHK := Aside0.mk (KeepBut.trans HK.out (KeepBut.of_grown hg g) (Kd.R_base2 HO.out)); have nHO := Aside0.mk ho; clear ho hb hg hat; clear IS HB HK HO; have IS := nIS; have HB := nHB; have HK := nHK; have HO := nHO; clear nIS nHB nHK nHO)
       go_roundg k1
       case measure => omega
       case rel => exact ⟨_, _, _, _, H', ⟨by have := HK0.out; omega⟩, ⟨IS.out⟩, ⟨HB.out⟩, ⟨HK.out⟩, ⟨HO.out⟩⟩
theorem tnodes.calls : ∀ k, tnodes.S k ∧ targs.S k := by
 intro k
 induction k using Nat.strongRecOn with
 | _ k ih => exact ⟨tnodes.step k (fun m hm => (ih m hm).1) (fun m hm => (ih m hm).2), targs.step k (fun m hm => (ih m hm).1) (fun m hm => (ih m hm).2)⟩

/-! ### tree.Parse: function 7, by hand -/
def tree_Parse.f (k : Nat) (l0 : List (S44)) : Option (List (S38) × Int × Int) := (tnodes.l k l0 0 [] 0 0 0).bind fun y => if y.2.2.1 = 0 then some (y.1, 0, 0) else some ([], y.2.2.1, y.2.2.2)
theorem tree_Parse.mono : ∀ a0 k, LeO (tree_Parse.f k a0) (tree_Parse.f (k + 1) a0) := by
 intro a0 k
 unfold tree_Parse.f
 exact LeO.bind ((tnodes.mono_l k).1 _ _ _ _ _ _) (fun _ => LeO.refl _)
set_option maxHeartbeats 8000000 in
set_option maxRecDepth 100000 in
theorem tree_Parse.calls (k : Nat) (A0 : Option Addr) (c0 : Nat) (l0 : List (S44)) (r1 : List (S38)) (r2 : Int) (r3 : Int) (w : World) (hr0 : Kd.C k44 w A0 l0.length l0) (hc0 : l0.length ≤ c0) (h : tree_Parse.f k l0 = some (r1, r2, r3)) :
  Calls Try.prog 7 #[.slice A0 l0.length c0] w fun e w' => ∃ v0_ : Value, e = .returned (.tuple #[v0_, .agg #[.int .i64 r2, .int .i64 r3]]) ∧ Kd.R k38 38 w' w.heap.size (fun _ => True) v0_ r1 ∧ Below w.heap.size w w' := by
 have hu22 := Try.underlying22
 have hu26 := Try.underlying26
 have hu48 := Try.underlying48
 have HR0 := Aside0.mk hr0
 obtain ⟨⟨y1, y2, y3, y4⟩, hy, H⟩ := Option.bind_eq_some_iff.mp (show ((tnodes.l k l0 0 [] 0 0 0).bind fun y => if y.2.2.1 = 0 then some (y.1, 0, 0) else some (([] : List S38), y.2.2.1, y.2.2.2)) = some (r1, r2, r3) from h)
 dsimp only at H
 have HY := Aside0.mk hy
 have H2 := Aside0.mk H
 clear hr0 hc0 hy H h
 go_enter Try.func7, Try.ntmps7
 go_upto_region 3 with (first | ((with_reducible refine gate_dst (N := 3) rfl ?_); refine box_event ?hg (N := 3) ?hd (cs := #[.int .i64 0, .int .i64 0]) (t := 26) ?hr ?_; (case hd => rfl); (case hg => rfl); (case hr => first | (go_simp; done) | (go_simp; rfl)); intro g3 hg w1 hbox hb; have B3 := Aside0.mk hbox; have HB := Aside0.mk hb; have G3 := Aside0.mk (show w.heap.size ≤ g3 by rw [hg]; exact Nat.le_refl _); clear hg hbox hb) | ((with_reducible refine gate_dst (N := 8) rfl ?_); refine box_event ?hg (N := 8) ?hd (cs := #[.slice A0 l0.length c0, .int .i64 0, .int .i64 0, .int .i64 0]) (t := 48) ?hr ?_; (case hd => rfl); (case hg => rfl); (case hr => first | (go_simp; done) | (go_simp; rfl)); intro g hg w2 hbox hb; have IS := Aside0.mk (show IsS48 w w2 g l0 0 0 0 from ⟨A0, c0, hbox, by rw [hg]; exact HB.out.size, HR0.out⟩); have nB3 := Aside0.mk (blk_below B3.out hb); have NE := Aside0.mk (show g3 ≠ g by rw [hg]; exact Nat.ne_of_lt (blk_lt B3.out)); have HL := Aside0.mk (Nat.le_trans HB.out.size hb.size); have nHB := Aside0.mk (below_then HB.out HB.out.size hb); clear hg hbox hb B3 HB; have B3 := nB3; have HB := nHB; clear nB3 nHB) | (go_at_call 20; refine ((tnodes.calls k).1 g l0 0 0 0 0 y1 y2 y3 y4 w w2 IS.out HB.out HY.out).mono ?_; rintro e w4 ⟨v, rfl, ho, hi, hb, hk⟩; have nIS := Aside0.mk hi; have nHB := Aside0.mk hb; have HO := Aside0.mk (Kd.R_lower (Kd.R_mono ho (ok' := fun _ => True) (fun _ _ => trivial)) HL.out); have nB3 := Aside0.mk (KeepBut.blk hk B3.out NE.out (by simp)); clear ho hi hb hk IS HB B3 HL; have IS := nIS; have HB := nHB; have B3 := nB3; clear nIS nHB nB3))
 obtain ⟨A1, c1, hkp, hgp, hrp⟩ := IS.out
 have hc2 := cellS48_2 hkp
 have hc3 := cellS48_3 hkp
 have H := H2.out
 clear H2 hkp hgp hrp
 have hz0 : w4.cell? ⟨g3, 0, none⟩ = some (.int .i64 0) := (blk_cell B3.out 0).trans rfl
 have hz1 : w4.cell? ⟨g3, 1, none⟩ = some (.int .i64 0) := (blk_cell B3.out 1).trans rfl
 have hzf0 := blk_frozen B3.out 0
 have hzf1 := blk_frozen B3.out 1
 by_cases z : y3 = 0
 ·rw [if_pos z] at H
  obtain ⟨rfl, rfl, rfl⟩ : y1 = r1 ∧ 0 = r2 ∧ 0 = r3 := by simpa using H
  have zb : (y3 != 0) = false := bne_eq_false_iff_eq.mpr z
  clear H z
  go_wp2
  refine bodyPost_ret (results_tc rfl _ _ g3 26 #[.int .i64 0, .int .i64 0] (0, 0) _ rfl (blk_put (cs := #[.int .i64 0, .int .i64 0]) (blk_put (cs := #[.int .i64 0, .int .i64 0]) (B3.out) 0 _ rfl) 1 _ rfl) Try.underlying26 rfl (by kernel_rfl)) rfl ?_
  exact ⟨_, rfl, Kd.R_set (Kd.R_set HO.out B3.out (by decide) 0 _) (blk_put (cs' := #[.int .i64 0, .int .i64 0]) B3.out 0 _ rfl) (by decide) 1 _, Below.setCell (Below.setCell HB.out G3.out _) G3.out _⟩
 ·rw [if_neg z] at H
  obtain ⟨rfl, rfl, rfl⟩ : [] = r1 ∧ y3 = r2 ∧ y4 = r3 := by simpa using H
  have zb : (y3 != 0) = true := bne_iff_ne.mpr z
  clear H z
  go_upto_region 4 with (fail)
  go_still_tail 5, (by kernel_rfl)
  (try simp only [List.drop_succ_cons, List.drop_zero])
  change wpList _ _ _ _ _ w4.drew
  generalize hwd : w4.drew = w5
  have nHB := Aside0.mk (show Below w.heap.size w w5 by rw [← hwd]; exact below_drew HB.out)
  have nB3 := Aside0.mk (show w5.heap[g3]? = some (.cells #[.int .i64 0, .int .i64 0] 26 (0, 0)) by rw [← hwd]; exact blk_drew B3.out)
  clear hwd HB B3 HO hz0 hz1 hzf0 hzf1
  have HB := nHB
  have B3 := nB3
  clear nHB nB3
  have hz0 : w5.cell? ⟨g3, 0, none⟩ = some (.int .i64 0) := (blk_cell B3.out 0).trans rfl
  have hz1 : w5.cell? ⟨g3, 1, none⟩ = some (.int .i64 0) := (blk_cell B3.out 1).trans rfl
  have hzf0 := blk_frozen B3.out 0
  have hzf1 := blk_frozen B3.out 1
  go_wp2
  refine bodyPost_ret (results_tc rfl _ _ g3 26 #[.int .i64 y3, .int .i64 y4] (0, 0) _ rfl (blk_put (cs := #[.int .i64 y3, .int .i64 0]) (blk_put (cs := #[.int .i64 0, .int .i64 0]) (B3.out) 0 _ rfl) 1 _ rfl) Try.underlying26 rfl (by kernel_rfl)) rfl ?_
  exact ⟨_, rfl, Kd.R_nil _ _ _ _ _, Below.setCell (Below.setCell HB.out G3.out _) G3.out _⟩

end Go.Proofs.Ytjppjlhhdfkloaa.PTp

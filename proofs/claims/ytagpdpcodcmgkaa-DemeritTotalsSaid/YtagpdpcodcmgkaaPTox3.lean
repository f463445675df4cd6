/- Written by a program of this session: functions of the given program as plain Lean functions, the walks that show it, and the row of each law, for every input that its statement speaks of. -/
import Derived.Test.YtagpdpcodcmgkaaPTox0
import Derived.Test.YtagpdpcodcmgkaaPTox2
namespace Go.Proofs.Ytagpdpcodcmgkaa.PTo
open Go.RowKit Go.Proofs.YtagpdpcodcmgkaaW.PrintWords Go.Proofs.YtagpdpcodcmgkaaW.PrintLast
set_option linter.unusedVariables false
set_option linter.unusedSimpArgs false

/-! ### glue_Total: function 30 -/
def glue_Total.l0 : Nat → List S45 → Int → Int → Int → Int → Int → Int → Int → Option (Int × Int × Int × Int × Int × Int × Bool)
 | 0, _, _, _, _, _, _, _, _ => none
 | k + 1, x0, wd, sh, s0, s1, s2, s3, i => if i < (x0.length : Int) then (if 0 ≤ i then (
   if (rd_T45 x0 i).f3 = 0 then glue_Total.l0 k x0 (wrap64 (wd + (rd_T45 x0 i).f0)) (wrap64 (sh + (rd_T45 x0 i).f2)) (wrap64 (s0 + (rd_T45 x0 i).f1)) s1 s2 s3 (wrap64 (i + 1))
   else if (rd_T45 x0 i).f3 = 1 then glue_Total.l0 k x0 (wrap64 (wd + (rd_T45 x0 i).f0)) (wrap64 (sh + (rd_T45 x0 i).f2)) s0 (wrap64 (s1 + (rd_T45 x0 i).f1)) s2 s3 (wrap64 (i + 1))
   else if (rd_T45 x0 i).f3 = 2 then glue_Total.l0 k x0 (wrap64 (wd + (rd_T45 x0 i).f0)) (wrap64 (sh + (rd_T45 x0 i).f2)) s0 s1 (wrap64 (s2 + (rd_T45 x0 i).f1)) s3 (wrap64 (i + 1))
   else if (rd_T45 x0 i).f3 = 3 then glue_Total.l0 k x0 (wrap64 (wd + (rd_T45 x0 i).f0)) (wrap64 (sh + (rd_T45 x0 i).f2)) s0 s1 s2 (wrap64 (s3 + (rd_T45 x0 i).f1)) (wrap64 (i + 1))
   else none) else none) else some (wd, sh, s0, s1, s2, s3, true)
def glue_Total.f (k : Nat) (l0 : List S45) : Option (Int × Int × Int × Int × Int × Int × Bool) := (glue_May.f k l0).bind fun t => if t = true then glue_Total.l0 k l0 0 0 0 0 0 0 0 else some (0, 0, 0, 0, 0, 0, false)
theorem glue_Total.mono_0 : ∀ k x0 wd sh s0 s1 s2 s3 i, LeO (glue_Total.l0 k x0 wd sh s0 s1 s2 s3 i) (glue_Total.l0 (k + 1) x0 wd sh s0 s1 s2 s3 i)
 | 0 => fun _ _ _ _ _ _ _ _ r h => by simp [glue_Total.l0] at h
 | k + 1 => by
  intro x0 wd sh s0 s1 s2 s3 i
  have ih := glue_Total.mono_0 k
  unfold glue_Total.l0
  exact LeO.ite (LeO.ite (LeO.ite (ih _ _ _ _ _ _ _ _) (LeO.ite (ih _ _ _ _ _ _ _ _) (LeO.ite (ih _ _ _ _ _ _ _ _) (LeO.ite (ih _ _ _ _ _ _ _ _) (LeO.refl _))))) (LeO.refl _)) (LeO.refl _)
theorem glue_Total.mono : ∀ a0 k, LeO (glue_Total.f k a0) (glue_Total.f (k + 1) a0) := by
 intro a0 k
 unfold glue_Total.f
 exact LeO.bind (glue_May.mono _ _) (fun _ => LeO.ite (glue_Total.mono_0 _ _ _ _ _ _ _ _ _) (LeO.refl _))

/-- The world behind a round's first stores: what lies in each of the three blocks. -/
theorem glue_Total_mid {w wr w3 w4 : World} {gb g1 g0 : Nat} {wd sh s0 s1 s2 s3 f0 f1 f2 f3 x y : Int}
  (BK : w3.heap[gb]? = some (.cells #[.int .i64 0, .int .i64 0, .int .i64 0, .int .i64 0] 45 (0, 0)))
  (BD1 : w3.heap[g1]? = some (.cells #[.int .i64 wd, .int .i64 sh, .int .i64 s0, .int .i64 s1, .int .i64 s2, .int .i64 s3] 54 (0, 0)))
  (BD0 : w3.heap[g0]? = some (.cells #[.int .i64 0, .int .i64 0, .int .i64 0, .int .i64 0, .int .i64 0, .int .i64 0] 54 (0, 0)))
  (B : Nat) (HB : Below B w wr) (BB : Below wr.heap.size wr w3) (hg : gb = wr.heap.size) (n1 : g1 ≠ gb) (n0 : g0 ≠ gb) (n01 : g0 ≠ g1) (hB : B ≤ g1) (hB2 : B ≤ wr.heap.size)
  (hw4 : w4 = (((((w3.setCell ⟨gb, 0, none⟩ (.int .i64 f0)).setCell ⟨gb, 1, none⟩ (.int .i64 f1)).setCell ⟨gb, 2, none⟩ (.int .i64 f2)).setCell ⟨gb, 3, none⟩ (.int .i64 f3)).setCell ⟨g1, 0, none⟩ (.int .i64 x)).setCell ⟨g1, 1, none⟩ (.int .i64 y)) :
  w4.heap[gb]? = some (.cells #[.int .i64 f0, .int .i64 f1, .int .i64 f2, .int .i64 f3] 45 (0, 0)) ∧
  w4.heap[g1]? = some (.cells #[.int .i64 x, .int .i64 y, .int .i64 s0, .int .i64 s1, .int .i64 s2, .int .i64 s3] 54 (0, 0)) ∧
  w4.heap[g0]? = some (.cells #[.int .i64 0, .int .i64 0, .int .i64 0, .int .i64 0, .int .i64 0, .int .i64 0] 54 (0, 0)) ∧ Below B w w4 := by
 subst hw4
 refine ⟨?_, ?_, ?_, ?_⟩
 ·refine blk_far (blk_far ?_ (p := ⟨g1, 0, none⟩) n1.symm _) (p := ⟨g1, 1, none⟩) n1.symm _
  exact blk_put (blk_put (blk_put (blk_put BK 0 _ rfl) 1 _ rfl) 2 _ rfl) 3 _ rfl
 ·refine blk_put (cs := #[.int .i64 x, .int .i64 sh, .int .i64 s0, .int .i64 s1, .int .i64 s2, .int .i64 s3]) (blk_put (cs := #[.int .i64 wd, .int .i64 sh, .int .i64 s0, .int .i64 s1, .int .i64 s2, .int .i64 s3]) ?_ 0 _ rfl) 1 _ rfl
  exact blk_far (blk_far (blk_far (blk_far BD1 (p := ⟨gb, 0, none⟩) n1 _) (p := ⟨gb, 1, none⟩) n1 _) (p := ⟨gb, 2, none⟩) n1 _) (p := ⟨gb, 3, none⟩) n1 _
 ·refine blk_far (blk_far ?_ (p := ⟨g1, 0, none⟩) n01 _) (p := ⟨g1, 1, none⟩) n01 _
  exact blk_far (blk_far (blk_far (blk_far BD0 (p := ⟨gb, 0, none⟩) n0 _) (p := ⟨gb, 1, none⟩) n0 _) (p := ⟨gb, 2, none⟩) n0 _) (p := ⟨gb, 3, none⟩) n0 _
 ·subst hg
  exact Below.setCell (Below.setCell (Below.setCell (Below.setCell (Below.setCell (Below.setCell (below_then HB hB2 BB) hB2 _) hB2 _) hB2 _) hB2 _) hB _) hB _

set_option maxHeartbeats 8000000 in
set_option maxRecDepth 100000 in
theorem glue_Total.calls (k : Nat) (A0 : Option Addr) (c0 : Nat) (l0 : List S45) (r1 r2 r3 r4 r5 r6 : Int) (r7 : Bool) (w : World) (hr0 : Kd.C k45 w A0 l0.length l0) (hc0 : l0.length ≤ c0) (h : glue_Total.f k l0 = some (r1, r2, r3, r4, r5, r6, r7)) :
  Calls Try.prog 30 #[.slice A0 l0.length c0] w fun e w' => e = .returned (.tuple #[.agg #[.int .i64 r1, .int .i64 r2, .int .i64 r3, .int .i64 r4, .int .i64 r5, .int .i64 r6], .bool r7]) ∧ Below w.heap.size w w' := by
 have hu54 := Try.underlying54
 have hu52 := Try.underlying52
 have hu45 := Try.underlying45
 have HR0 := Aside0.mk hr0
 have HC0 := Aside0.mk hc0
 clear hr0 hc0
 obtain ⟨t, A40, H⟩ := Option.bind_eq_some_iff.mp h
 clear h
 have A4 := Aside0.mk A40
 clear A40
 obtain ⟨W0, hW0⟩ : ∃ W0, W0 = (w.alloc (.cells #[.int .i64 0, .int .i64 0, .int .i64 0, .int .i64 0, .int .i64 0, .int .i64 0] 54)).alloc (.cells #[.int .i64 0, .int .i64 0, .int .i64 0, .int .i64 0, .int .i64 0, .int .i64 0] 54) := ⟨_, rfl⟩
 have B0 := Aside0.mk (show Below w.heap.size w W0 by rw [hW0]; exact below_alloc (below_alloc (Below.refl _ _) _) _)
 have HCC := Aside0.mk (Kd.C_below HR0.out B0.out)
 have G0 := Aside0.mk (show W0.heap[w.heap.size]? = some (.cells #[.int .i64 0, .int .i64 0, .int .i64 0, .int .i64 0, .int .i64 0, .int .i64 0] 54 (0, 0)) by rw [hW0]; exact blk_alloc (blk_new _ _) _)
 have G1 := Aside0.mk (show W0.heap[w.heap.size + 1]? = some (.cells #[.int .i64 0, .int .i64 0, .int .i64 0, .int .i64 0, .int .i64 0, .int .i64 0] 54 (0, 0)) by
  have e : (w.alloc (.cells #[.int .i64 0, .int .i64 0, .int .i64 0, .int .i64 0, .int .i64 0, .int .i64 0] 54)).heap.size = w.heap.size + 1 := by simp
  have h2 := blk_new (w.alloc (.cells #[.int .i64 0, .int .i64 0, .int .i64 0, .int .i64 0, .int .i64 0, .int .i64 0] 54)) (.cells #[.int .i64 0, .int .i64 0, .int .i64 0, .int .i64 0, .int .i64 0, .int .i64 0] 54)
  rw [e] at h2
  rw [hW0]; exact h2)
 cases t with
 | false =>
  rw [if_neg (by decide)] at H
  simp only [Option.some.injEq, Prod.mk.injEq] at H
  obtain ⟨rfl, rfl, rfl, rfl, rfl, rfl, rfl⟩ := H
  go_enter Try.func30, Try.ntmps30
  go_wp2_with fail
  rw [← hW0]
  refine (glue_May.calls k A0 c0 l0 false W0 HCC.out HC0.out A4.out).mono ?_
  rintro e w1 ⟨rfl, hb⟩
  have B1 : Aside0 (Below w.heap.size w w1) := ⟨below_then B0.out B0.out.size hb⟩
  have D0 : Aside0 (w1.heap[w.heap.size]? = some (.cells #[.int .i64 0, .int .i64 0, .int .i64 0, .int .i64 0, .int .i64 0, .int .i64 0] 54 (0, 0))) := ⟨blk_below G0.out hb⟩
  have D1 : Aside0 (w1.heap[w.heap.size + 1]? = some (.cells #[.int .i64 0, .int .i64 0, .int .i64 0, .int .i64 0, .int .i64 0, .int .i64 0] 54 (0, 0))) := ⟨blk_below G1.out hb⟩
  clear hb hW0
  have he0 : w1.cell? ⟨w.heap.size, 0, none⟩ = some (.int .i64 0) := (blk_cell D0.out 0).trans rfl
  have he1 : w1.cell? ⟨w.heap.size, 1, none⟩ = some (.int .i64 0) := (blk_cell D0.out 1).trans rfl
  have he2 : w1.cell? ⟨w.heap.size, 2, none⟩ = some (.int .i64 0) := (blk_cell D0.out 2).trans rfl
  have he3 : w1.cell? ⟨w.heap.size, 3, none⟩ = some (.int .i64 0) := (blk_cell D0.out 3).trans rfl
  have he4 : w1.cell? ⟨w.heap.size, 4, none⟩ = some (.int .i64 0) := (blk_cell D0.out 4).trans rfl
  have he5 : w1.cell? ⟨w.heap.size, 5, none⟩ = some (.int .i64 0) := (blk_cell D0.out 5).trans rfl
  have hd0 : w1.cell? ⟨w.heap.size + 1, 0, none⟩ = some (.int .i64 0) := (blk_cell D1.out 0).trans rfl
  have hf0 := blk_frozen D0.out 0
  have hd1 : w1.cell? ⟨w.heap.size + 1, 1, none⟩ = some (.int .i64 0) := (blk_cell D1.out 1).trans rfl
  have hf1 := blk_frozen D0.out 1
  have hd2 : w1.cell? ⟨w.heap.size + 1, 2, none⟩ = some (.int .i64 0) := (blk_cell D1.out 2).trans rfl
  have hf2 := blk_frozen D0.out 2
  have hd3 : w1.cell? ⟨w.heap.size + 1, 3, none⟩ = some (.int .i64 0) := (blk_cell D1.out 3).trans rfl
  have hf3 := blk_frozen D0.out 3
  have hd4 : w1.cell? ⟨w.heap.size + 1, 4, none⟩ = some (.int .i64 0) := (blk_cell D1.out 4).trans rfl
  have hf4 := blk_frozen D0.out 4
  have hd5 : w1.cell? ⟨w.heap.size + 1, 5, none⟩ = some (.int .i64 0) := (blk_cell D1.out 5).trans rfl
  have hf5 := blk_frozen D0.out 5
  go_wp2
  refine bodyPost_ret (results_ct rfl _ _ w.heap.size 54 #[.int .i64 0, .int .i64 0, .int .i64 0, .int .i64 0, .int .i64 0, .int .i64 0] (0, 0) _ rfl (by
   refine blk_put (cs := #[.int .i64 0, .int .i64 0, .int .i64 0, .int .i64 0, .int .i64 0, .int .i64 0]) ?_ 5 _ rfl; refine blk_put (cs := #[.int .i64 0, .int .i64 0, .int .i64 0, .int .i64 0, .int .i64 0, .int .i64 0]) ?_ 4 _ rfl; refine blk_put (cs := #[.int .i64 0, .int .i64 0, .int .i64 0, .int .i64 0, .int .i64 0, .int .i64 0]) ?_ 3 _ rfl; refine blk_put (cs := #[.int .i64 0, .int .i64 0, .int .i64 0, .int .i64 0, .int .i64 0, .int .i64 0]) ?_ 2 _ rfl; refine blk_put (cs := #[.int .i64 0, .int .i64 0, .int .i64 0, .int .i64 0, .int .i64 0, .int .i64 0]) ?_ 1 _ rfl; refine blk_put (cs := #[.int .i64 0, .int .i64 0, .int .i64 0, .int .i64 0, .int .i64 0, .int .i64 0]) ?_ 0 _ rfl; exact D0.out) Try.underlying54 rfl (by kernel_rfl)) rfl ?_
  exact ⟨rfl, Below.setCell (Below.setCell (Below.setCell (Below.setCell (Below.setCell (Below.setCell (B1.out) (Nat.le_refl _) _) (Nat.le_refl _) _) (Nat.le_refl _) _) (Nat.le_refl _) _) (Nat.le_refl _) _) (Nat.le_refl _) _⟩
 | true =>
  rw [if_pos rfl] at H
  have H' := Aside0.mk H
  clear H
  go_enter Try.func30, Try.ntmps30
  go_wp2_with fail
  rw [← hW0]
  refine (glue_May.calls k A0 c0 l0 true W0 HCC.out HC0.out A4.out).mono ?_
  rintro e w1 ⟨rfl, hb⟩
  have B1 : Aside0 (Below w.heap.size w w1) := ⟨below_then B0.out B0.out.size hb⟩
  have D0 : Aside0 (w1.heap[w.heap.size]? = some (.cells #[.int .i64 0, .int .i64 0, .int .i64 0, .int .i64 0, .int .i64 0, .int .i64 0] 54 (0, 0))) := ⟨blk_below G0.out hb⟩
  have D1 : Aside0 (w1.heap[w.heap.size + 1]? = some (.cells #[.int .i64 0, .int .i64 0, .int .i64 0, .int .i64 0, .int .i64 0, .int .i64 0] 54 (0, 0))) := ⟨blk_below G1.out hb⟩
  clear hb hW0
  go_wp2
  go_loopg [13] k (fun kq v13 w' => ∃ (wd sh s0 s1 s2 s3 i : Int), v13 = .int .i64 i ∧ Aside0 (glue_Total.l0 kq l0 wd sh s0 s1 s2 s3 i = some (r1, r2, r3, r4, r5, r6, r7)) ∧ Aside0 (kq ≤ k) ∧ Aside0 (w'.heap[w.heap.size + 1]? = some (.cells #[.int .i64 wd, .int .i64 sh, .int .i64 s0, .int .i64 s1, .int .i64 s2, .int .i64 s3] 54 (0, 0))) ∧ Aside0 (w'.heap[w.heap.size]? = some (.cells #[.int .i64 0, .int .i64 0, .int .i64 0, .int .i64 0, .int .i64 0, .int .i64 0] 54 (0, 0))) ∧ Aside0 (Below w.heap.size w w'))
  case atStart => exact ⟨0, 0, 0, 0, 0, 0, 0, rfl, H', ⟨Nat.le_refl _⟩, D1, D0, B1⟩
  case round =>
   clear H'
   obtain ⟨wd, sh, s0, s1, s2, s3, i, rfl, HA, HK1, HD1, HD0, HB1⟩ := hrel
   cases gk with
   | zero => exact absurd HA.out (by simp [glue_Total.l0])
   | succ k1 =>
    have H := HA.out
    clear HA
    simp only [glue_Total.l0] at H
    have hd0 : wr.cell? ⟨w.heap.size + 1, 0, none⟩ = some (.int .i64 wd) := (blk_cell HD1.out 0).trans rfl
    have hf0 := blk_frozen HD1.out 0
    have hd1 : wr.cell? ⟨w.heap.size + 1, 1, none⟩ = some (.int .i64 sh) := (blk_cell HD1.out 1).trans rfl
    have hf1 := blk_frozen HD1.out 1
    have hd2 : wr.cell? ⟨w.heap.size + 1, 2, none⟩ = some (.int .i64 s0) := (blk_cell HD1.out 2).trans rfl
    have hf2 := blk_frozen HD1.out 2
    have hd3 : wr.cell? ⟨w.heap.size + 1, 3, none⟩ = some (.int .i64 s1) := (blk_cell HD1.out 3).trans rfl
    have hf3 := blk_frozen HD1.out 3
    have hd4 : wr.cell? ⟨w.heap.size + 1, 4, none⟩ = some (.int .i64 s2) := (blk_cell HD1.out 4).trans rfl
    have hf4 := blk_frozen HD1.out 4
    have hd5 : wr.cell? ⟨w.heap.size + 1, 5, none⟩ = some (.int .i64 s3) := (blk_cell HD1.out 5).trans rfl
    have hf5 := blk_frozen HD1.out 5
    by_cases c5 : i < (l0.length : Int)
    ·rw [if_pos c5] at H
     by_cases c6 : 0 ≤ i
     ·rw [if_pos c6] at H
      have HC1 := Aside0.mk (Kd.C_below HR0.out HB1.out)
      obtain ⟨ad, e1, hx0, hx1, hx2, hx3⟩ := at_T45 HC1.out i c6 c5
      cases e1
      have c5b := decide_eq_true c5
      replace c6 := eq_true c6
      replace c5 := eq_true c5
      by_cases o0 : (rd_T45 l0 i).f3 = 0
      ·rw [if_pos o0] at H
       have H' := Aside0.mk H
       clear H
       rw [o0] at hx3
       go_wp2_with ((with_reducible refine gate_dst (N := 6) rfl ?_); refine box_event ?hg (N := 6) ?hd (cs := #[.int .i64 0, .int .i64 0, .int .i64 0, .int .i64 0]) (t := 45) ?hr ?_; (case hd => rfl); (case hg => rfl); (case hr => first | (go_simp; done) | (go_simp; rfl)); intro gb hg w3 hbox hb; have BK := Aside0.mk hbox; have BB := Aside0.mk hb; have BD1 := Aside0.mk (blk_below HD1.out hb); have BD0 := Aside0.mk (blk_below HD0.out hb); have ne1 := (by rw [hg]; exact Nat.ne_of_lt (blk_lt HD1.out) : w.heap.size + 1 ≠ gb); have ne2 := (by rw [hg]; exact Nat.ne_of_gt (blk_lt HD1.out) : gb ≠ w.heap.size + 1); have BS := Aside0.mk hg; clear hb hbox hg; have hd0' : w3.cell? ⟨w.heap.size + 1, 0, none⟩ = some (.int .i64 wd) := (blk_cell BD1.out 0).trans rfl; have hf0' := blk_frozen BD1.out 0; have hd1' : w3.cell? ⟨w.heap.size + 1, 1, none⟩ = some (.int .i64 sh) := (blk_cell BD1.out 1).trans rfl; have hf1' := blk_frozen BD1.out 1; have hd2' : w3.cell? ⟨w.heap.size + 1, 2, none⟩ = some (.int .i64 s0) := (blk_cell BD1.out 2).trans rfl; have hf2' := blk_frozen BD1.out 2; have hd3' : w3.cell? ⟨w.heap.size + 1, 3, none⟩ = some (.int .i64 s1) := (blk_cell BD1.out 3).trans rfl; have hf3' := blk_frozen BD1.out 3; have hd4' : w3.cell? ⟨w.heap.size + 1, 4, none⟩ = some (.int .i64 s2) := (blk_cell BD1.out 4).trans rfl; have hf4' := blk_frozen BD1.out 4; have hd5' : w3.cell? ⟨w.heap.size + 1, 5, none⟩ = some (.int .i64 s3) := (blk_cell BD1.out 5).trans rfl; have hf5' := blk_frozen BD1.out 5; have hg0 : w3.cell? ⟨gb, 0, none⟩ = some (.int .i64 0) := (blk_cell BK.out 0).trans rfl; have hh0 := blk_frozen BK.out 0; have hg1 : w3.cell? ⟨gb, 1, none⟩ = some (.int .i64 0) := (blk_cell BK.out 1).trans rfl; have hh1 := blk_frozen BK.out 1; have hg2 : w3.cell? ⟨gb, 2, none⟩ = some (.int .i64 0) := (blk_cell BK.out 2).trans rfl; have hh2 := blk_frozen BK.out 2; have hg3 : w3.cell? ⟨gb, 3, none⟩ = some (.int .i64 0) := (blk_cell BK.out 3).trans rfl; have hh3 := blk_frozen BK.out 3)
       obtain ⟨w4, hw4⟩ : ∃ w4, w4 = (((((w3.setCell ⟨gb, 0, none⟩ (Value.int IntKind.i64 (rd_T45 l0 i).f0)).setCell ⟨gb, 1, none⟩ (Value.int IntKind.i64 (rd_T45 l0 i).f1)).setCell ⟨gb, 2, none⟩ (Value.int IntKind.i64 (rd_T45 l0 i).f2)).setCell ⟨gb, 3, none⟩ (Value.int IntKind.i64 0)).setCell ⟨w.heap.size + 1, 0, none⟩ (Value.int IntKind.i64 (wrap64 (wd + (rd_T45 l0 i).f0)))).setCell ⟨w.heap.size + 1, 1, none⟩ (Value.int IntKind.i64 (wrap64 (sh + (rd_T45 l0 i).f2))) := ⟨_, rfl⟩
       rw [← hw4]
       have E4 := Aside0.mk (glue_Total_mid BK.out BD1.out BD0.out w.heap.size HB1.out BB.out BS.out ne1 (by rw [BS.out]; exact Nat.ne_of_lt (blk_lt HD0.out)) (by omega) (Nat.le_succ _) HB1.out.size hw4)
       clear hw4 hd0 hd1 hd2 hd3 hd4 hd5 hf0 hf1 hf2 hf3 hf4 hf5 hd0' hd1' hd2' hd3' hd4' hd5' hf0' hf1' hf2' hf3' hf4' hf5' hg0 hg1 hg2 hg3 hh0 hh1 hh2 hh3 hx0 hx1 hx2 hx3 BK BB BD0 BD1 ne1 ne2 BS HD0 HD1 HB1
       have he1 : w4.cell? ⟨gb, 1, none⟩ = some (.int .i64 (rd_T45 l0 i).f1) := (blk_cell E4.out.1 1).trans rfl
       have he3 : w4.cell? ⟨gb, 3, none⟩ = some (.int .i64 0) := (blk_cell E4.out.1 3).trans rfl
       have hes : w4.cell? ⟨w.heap.size + 1, 2, none⟩ = some (.int .i64 s0) := (blk_cell E4.out.2.1 2).trans rfl
       have hef := blk_frozen E4.out.2.1 2
       go_still_tail 9, (by kernel_rfl)
       change wpList _ _ _ _ _ w4.drew
       go_wp2
       go_roundg k1
       case measure => omega
       case rel => exact ⟨_, _, _, _, _, _, _, rfl, H', ⟨by have := HK1.out; omega⟩, ⟨blk_put E4.out.2.1 2 _ rfl⟩, ⟨blk_far E4.out.2.2.1 (p := ⟨w.heap.size + 1, 2, none⟩) (by simp) _⟩, ⟨below_drew (Below.setCell E4.out.2.2.2 (Nat.le_succ _) _)⟩⟩
      ·rw [if_neg o0] at H
       by_cases o1 : (rd_T45 l0 i).f3 = 1
       ·rw [if_pos o1] at H
        have H' := Aside0.mk H
        clear H
        rw [o1] at hx3
        go_wp2_with ((with_reducible refine gate_dst (N := 6) rfl ?_); refine box_event ?hg (N := 6) ?hd (cs := #[.int .i64 0, .int .i64 0, .int .i64 0, .int .i64 0]) (t := 45) ?hr ?_; (case hd => rfl); (case hg => rfl); (case hr => first | (go_simp; done) | (go_simp; rfl)); intro gb hg w3 hbox hb; have BK := Aside0.mk hbox; have BB := Aside0.mk hb; have BD1 := Aside0.mk (blk_below HD1.out hb); have BD0 := Aside0.mk (blk_below HD0.out hb); have ne1 := (by rw [hg]; exact Nat.ne_of_lt (blk_lt HD1.out) : w.heap.size + 1 ≠ gb); have ne2 := (by rw [hg]; exact Nat.ne_of_gt (blk_lt HD1.out) : gb ≠ w.heap.size + 1); have BS := Aside0.mk hg; clear hb hbox hg; have hd0' : w3.cell? ⟨w.heap.size + 1, 0, none⟩ = some (.int .i64 wd) := (blk_cell BD1.out 0).trans rfl; have hf0' := blk_frozen BD1.out 0; have hd1' : w3.cell? ⟨w.heap.size + 1, 1, none⟩ = some (.int .i64 sh) := (blk_cell BD1.out 1).trans rfl; have hf1' := blk_frozen BD1.out 1; have hd2' : w3.cell? ⟨w.heap.size + 1, 2, none⟩ = some (.int .i64 s0) := (blk_cell BD1.out 2).trans rfl; have hf2' := blk_frozen BD1.out 2; have hd3' : w3.cell? ⟨w.heap.size + 1, 3, none⟩ = some (.int .i64 s1) := (blk_cell BD1.out 3).trans rfl; have hf3' := blk_frozen BD1.out 3; have hd4' : w3.cell? ⟨w.heap.size + 1, 4, none⟩ = some (.int .i64 s2) := (blk_cell BD1.out 4).trans rfl; have hf4' := blk_frozen BD1.out 4; have hd5' : w3.cell? ⟨w.heap.size + 1, 5, none⟩ = some (.int .i64 s3) := (blk_cell BD1.out 5).trans rfl; have hf5' := blk_frozen BD1.out 5; have hg0 : w3.cell? ⟨gb, 0, none⟩ = some (.int .i64 0) := (blk_cell BK.out 0).trans rfl; have hh0 := blk_frozen BK.out 0; have hg1 : w3.cell? ⟨gb, 1, none⟩ = some (.int .i64 0) := (blk_cell BK.out 1).trans rfl; have hh1 := blk_frozen BK.out 1; have hg2 : w3.cell? ⟨gb, 2, none⟩ = some (.int .i64 0) := (blk_cell BK.out 2).trans rfl; have hh2 := blk_frozen BK.out 2; have hg3 : w3.cell? ⟨gb, 3, none⟩ = some (.int .i64 0) := (blk_cell BK.out 3).trans rfl; have hh3 := blk_frozen BK.out 3)
        obtain ⟨w4, hw4⟩ : ∃ w4, w4 = (((((w3.setCell ⟨gb, 0, none⟩ (Value.int IntKind.i64 (rd_T45 l0 i).f0)).setCell ⟨gb, 1, none⟩ (Value.int IntKind.i64 (rd_T45 l0 i).f1)).setCell ⟨gb, 2, none⟩ (Value.int IntKind.i64 (rd_T45 l0 i).f2)).setCell ⟨gb, 3, none⟩ (Value.int IntKind.i64 1)).setCell ⟨w.heap.size + 1, 0, none⟩ (Value.int IntKind.i64 (wrap64 (wd + (rd_T45 l0 i).f0)))).setCell ⟨w.heap.size + 1, 1, none⟩ (Value.int IntKind.i64 (wrap64 (sh + (rd_T45 l0 i).f2))) := ⟨_, rfl⟩
        rw [← hw4]
        have E4 := Aside0.mk (glue_Total_mid BK.out BD1.out BD0.out w.heap.size HB1.out BB.out BS.out ne1 (by rw [BS.out]; exact Nat.ne_of_lt (blk_lt HD0.out)) (by omega) (Nat.le_succ _) HB1.out.size hw4)
        clear hw4 hd0 hd1 hd2 hd3 hd4 hd5 hf0 hf1 hf2 hf3 hf4 hf5 hd0' hd1' hd2' hd3' hd4' hd5' hf0' hf1' hf2' hf3' hf4' hf5' hg0 hg1 hg2 hg3 hh0 hh1 hh2 hh3 hx0 hx1 hx2 hx3 BK BB BD0 BD1 ne1 ne2 BS HD0 HD1 HB1
        have he1 : w4.cell? ⟨gb, 1, none⟩ = some (.int .i64 (rd_T45 l0 i).f1) := (blk_cell E4.out.1 1).trans rfl
        have he3 : w4.cell? ⟨gb, 3, none⟩ = some (.int .i64 1) := (blk_cell E4.out.1 3).trans rfl
        have hes : w4.cell? ⟨w.heap.size + 1, 3, none⟩ = some (.int .i64 s1) := (blk_cell E4.out.2.1 3).trans rfl
        have hef := blk_frozen E4.out.2.1 3
        go_still_tail 9, (by kernel_rfl)
        change wpList _ _ _ _ _ w4.drew
        go_wp2
        go_roundg k1
        case measure => omega
        case rel => exact ⟨_, _, _, _, _, _, _, rfl, H', ⟨by have := HK1.out; omega⟩, ⟨blk_put E4.out.2.1 3 _ rfl⟩, ⟨blk_far E4.out.2.2.1 (p := ⟨w.heap.size + 1, 3, none⟩) (by simp) _⟩, ⟨below_drew (Below.setCell E4.out.2.2.2 (Nat.le_succ _) _)⟩⟩
       ·rw [if_neg o1] at H
        by_cases o2 : (rd_T45 l0 i).f3 = 2
        ·rw [if_pos o2] at H
         have H' := Aside0.mk H
         clear H
         rw [o2] at hx3
         go_wp2_with ((with_reducible refine gate_dst (N := 6) rfl ?_); refine box_event ?hg (N := 6) ?hd (cs := #[.int .i64 0, .int .i64 0, .int .i64 0, .int .i64 0]) (t := 45) ?hr ?_; (case hd => rfl); (case hg => rfl); (case hr => first | (go_simp; done) | (go_simp; rfl)); intro gb hg w3 hbox hb; have BK := Aside0.mk hbox; have BB := Aside0.mk hb; have BD1 := Aside0.mk (blk_below HD1.out hb); have BD0 := Aside0.mk (blk_below HD0.out hb); have ne1 := (by rw [hg]; exact Nat.ne_of_lt (blk_lt HD1.out) : w.heap.size + 1 ≠ gb); have ne2 := (by rw [hg]; exact Nat.ne_of_gt (blk_lt HD1.out) : gb ≠ w.heap.size + 1); have BS := Aside0.mk hg; clear hb hbox hg; have hd0' : w3.cell? ⟨w.heap.size + 1, 0, none⟩ = some (.int .i64 wd) := (blk_cell BD1.out 0).trans rfl; have hf0' := blk_frozen BD1.out 0; have hd1' : w3.cell? ⟨w.heap.size + 1, 1, none⟩ = some (.int .i64 sh) := (blk_cell BD1.out 1).trans rfl; have hf1' := blk_frozen BD1.out 1; have hd2' : w3.cell? ⟨w.heap.size + 1, 2, none⟩ = some (.int .i64 s0) := (blk_cell BD1.out 2).trans rfl; have hf2' := blk_frozen BD1.out 2; have hd3' : w3.cell? ⟨w.heap.size + 1, 3, none⟩ = some (.int .i64 s1) := (blk_cell BD1.out 3).trans rfl; have hf3' := blk_frozen BD1.out 3; have hd4' : w3.cell? ⟨w.heap.size + 1, 4, none⟩ = some (.int .i64 s2) := (blk_cell BD1.out 4).trans rfl; have hf4' := blk_frozen BD1.out 4; have hd5' : w3.cell? ⟨w.heap.size + 1, 5, none⟩ = some (.int .i64 s3) := (blk_cell BD1.out 5).trans rfl; have hf5' := blk_frozen BD1.out 5; have hg0 : w3.cell? ⟨gb, 0, none⟩ = some (.int .i64 0) := (blk_cell BK.out 0).trans rfl; have hh0 := blk_frozen BK.out 0; have hg1 : w3.cell? ⟨gb, 1, none⟩ = some (.int .i64 0) := (blk_cell BK.out 1).trans rfl; have hh1 := blk_frozen BK.out 1; have hg2 : w3.cell? ⟨gb, 2, none⟩ = some (.int .i64 0) := (blk_cell BK.out 2).trans rfl; have hh2 := blk_frozen BK.out 2; have hg3 : w3.cell? ⟨gb, 3, none⟩ = some (.int .i64 0) := (blk_cell BK.out 3).trans rfl; have hh3 := blk_frozen BK.out 3)
         obtain ⟨w4, hw4⟩ : ∃ w4, w4 = (((((w3.setCell ⟨gb, 0, none⟩ (Value.int IntKind.i64 (rd_T45 l0 i).f0)).setCell ⟨gb, 1, none⟩ (Value.int IntKind.i64 (rd_T45 l0 i).f1)).setCell ⟨gb, 2, none⟩ (Value.int IntKind.i64 (rd_T45 l0 i).f2)).setCell ⟨gb, 3, none⟩ (Value.int IntKind.i64 2)).setCell ⟨w.heap.size + 1, 0, none⟩ (Value.int IntKind.i64 (wrap64 (wd + (rd_T45 l0 i).f0)))).setCell ⟨w.heap.size + 1, 1, none⟩ (Value.int IntKind.i64 (wrap64 (sh + (rd_T45 l0 i).f2))) := ⟨_, rfl⟩
         rw [← hw4]
         have E4 := Aside0.mk (glue_Total_mid BK.out BD1.out BD0.out w.heap.size HB1.out BB.out BS.out ne1 (by rw [BS.out]; exact Nat.ne_of_lt (blk_lt HD0.out)) (by omega) (Nat.le_succ _) HB1.out.size hw4)
         clear hw4 hd0 hd1 hd2 hd3 hd4 hd5 hf0 hf1 hf2 hf3 hf4 hf5 hd0' hd1' hd2' hd3' hd4' hd5' hf0' hf1' hf2' hf3' hf4' hf5' hg0 hg1 hg2 hg3 hh0 hh1 hh2 hh3 hx0 hx1 hx2 hx3 BK BB BD0 BD1 ne1 ne2 BS HD0 HD1 HB1
         have he1 : w4.cell? ⟨gb, 1, none⟩ = some (.int .i64 (rd_T45 l0 i).f1) := (blk_cell E4.out.1 1).trans rfl
         have he3 : w4.cell? ⟨gb, 3, none⟩ = some (.int .i64 2) := (blk_cell E4.out.1 3).trans rfl
         have hes : w4.cell? ⟨w.heap.size + 1, 4, none⟩ = some (.int .i64 s2) := (blk_cell E4.out.2.1 4).trans rfl
         have hef := blk_frozen E4.out.2.1 4
         go_still_tail 9, (by kernel_rfl)
         change wpList _ _ _ _ _ w4.drew
         go_wp2
         go_roundg k1
         case measure => omega
         case rel => exact ⟨_, _, _, _, _, _, _, rfl, H', ⟨by have := HK1.out; omega⟩, ⟨blk_put E4.out.2.1 4 _ rfl⟩, ⟨blk_far E4.out.2.2.1 (p := ⟨w.heap.size + 1, 4, none⟩) (by simp) _⟩, ⟨below_drew (Below.setCell E4.out.2.2.2 (Nat.le_succ _) _)⟩⟩
        ·rw [if_neg o2] at H
         by_cases o3 : (rd_T45 l0 i).f3 = 3
         ·rw [if_pos o3] at H
          have H' := Aside0.mk H
          clear H
          rw [o3] at hx3
          go_wp2_with ((with_reducible refine gate_dst (N := 6) rfl ?_); refine box_event ?hg (N := 6) ?hd (cs := #[.int .i64 0, .int .i64 0, .int .i64 0, .int .i64 0]) (t := 45) ?hr ?_; (case hd => rfl); (case hg => rfl); (case hr => first | (go_simp; done) | (go_simp; rfl)); intro gb hg w3 hbox hb; have BK := Aside0.mk hbox; have BB := Aside0.mk hb; have BD1 := Aside0.mk (blk_below HD1.out hb); have BD0 := Aside0.mk (blk_below HD0.out hb); have ne1 := (by rw [hg]; exact Nat.ne_of_lt (blk_lt HD1.out) : w.heap.size + 1 ≠ gb); have ne2 := (by rw [hg]; exact Nat.ne_of_gt (blk_lt HD1.out) : gb ≠ w.heap.size + 1); have BS := Aside0.mk hg; clear hb hbox hg; have hd0' : w3.cell? ⟨w.heap.size + 1, 0, none⟩ = some (.int .i64 wd) := (blk_cell BD1.out 0).trans rfl; have hf0' := blk_frozen BD1.out 0; have hd1' : w3.cell? ⟨w.heap.size + 1, 1, none⟩ = some (.int .i64 sh) := (blk_cell BD1.out 1).trans rfl; have hf1' := blk_frozen BD1.out 1; have hd2' : w3.cell? ⟨w.heap.size + 1, 2, none⟩ = some (.int .i64 s0) := (blk_cell BD1.out 2).trans rfl; have hf2' := blk_frozen BD1.out 2; have hd3' : w3.cell? ⟨w.heap.size + 1, 3, none⟩ = some (.int .i64 s1) := (blk_cell BD1.out 3).trans rfl; have hf3' := blk_frozen BD1.out 3; have hd4' : w3.cell? ⟨w.heap.size + 1, 4, none⟩ = some (.int .i64 s2) := (blk_cell BD1.out 4).trans rfl; have hf4' := blk_frozen BD1.out 4; have hd5' : w3.cell? ⟨w.heap.size + 1, 5, none⟩ = some (.int .i64 s3) := (blk_cell BD1.out 5).trans rfl; have hf5' := blk_frozen BD1.out 5; have hg0 : w3.cell? ⟨gb, 0, none⟩ = some (.int .i64 0) := (blk_cell BK.out 0).trans rfl; have hh0 := blk_frozen BK.out 0; have hg1 : w3.cell? ⟨gb, 1, none⟩ = some (.int .i64 0) := (blk_cell BK.out 1).trans rfl; have hh1 := blk_frozen BK.out 1; have hg2 : w3.cell? ⟨gb, 2, none⟩ = some (.int .i64 0) := (blk_cell BK.out 2).trans rfl; have hh2 := blk_frozen BK.out 2; have hg3 : w3.cell? ⟨gb, 3, none⟩ = some (.int .i64 0) := (blk_cell BK.out 3).trans rfl; have hh3 := blk_frozen BK.out 3)
          obtain ⟨w4, hw4⟩ : ∃ w4, w4 = (((((w3.setCell ⟨gb, 0, none⟩ (Value.int IntKind.i64 (rd_T45 l0 i).f0)).setCell ⟨gb, 1, none⟩ (Value.int IntKind.i64 (rd_T45 l0 i).f1)).setCell ⟨gb, 2, none⟩ (Value.int IntKind.i64 (rd_T45 l0 i).f2)).setCell ⟨gb, 3, none⟩ (Value.int IntKind.i64 3)).setCell ⟨w.heap.size + 1, 0, none⟩ (Value.int IntKind.i64 (wrap64 (wd + (rd_T45 l0 i).f0)))).setCell ⟨w.heap.size + 1, 1, none⟩ (Value.int IntKind.i64 (wrap64 (sh + (rd_T45 l0 i).f2))) := ⟨_, rfl⟩
          rw [← hw4]
          have E4 := Aside0.mk (glue_Total_mid BK.out BD1.out BD0.out w.heap.size HB1.out BB.out BS.out ne1 (by rw [BS.out]; exact Nat.ne_of_lt (blk_lt HD0.out)) (by omega) (Nat.le_succ _) HB1.out.size hw4)
          clear hw4 hd0 hd1 hd2 hd3 hd4 hd5 hf0 hf1 hf2 hf3 hf4 hf5 hd0' hd1' hd2' hd3' hd4' hd5' hf0' hf1' hf2' hf3' hf4' hf5' hg0 hg1 hg2 hg3 hh0 hh1 hh2 hh3 hx0 hx1 hx2 hx3 BK BB BD0 BD1 ne1 ne2 BS HD0 HD1 HB1
          have he1 : w4.cell? ⟨gb, 1, none⟩ = some (.int .i64 (rd_T45 l0 i).f1) := (blk_cell E4.out.1 1).trans rfl
          have he3 : w4.cell? ⟨gb, 3, none⟩ = some (.int .i64 3) := (blk_cell E4.out.1 3).trans rfl
          have hes : w4.cell? ⟨w.heap.size + 1, 5, none⟩ = some (.int .i64 s3) := (blk_cell E4.out.2.1 5).trans rfl
          have hef := blk_frozen E4.out.2.1 5
          go_still_tail 9, (by kernel_rfl)
          change wpList _ _ _ _ _ w4.drew
          go_wp2
          go_roundg k1
          case measure => omega
          case rel => exact ⟨_, _, _, _, _, _, _, rfl, H', ⟨by have := HK1.out; omega⟩, ⟨blk_put E4.out.2.1 5 _ rfl⟩, ⟨blk_far E4.out.2.2.1 (p := ⟨w.heap.size + 1, 5, none⟩) (by simp) _⟩, ⟨below_drew (Below.setCell E4.out.2.2.2 (Nat.le_succ _) _)⟩⟩
         ·rw [if_neg o3] at H
          exact absurd H (by simp)
     ·rw [if_neg c6] at H
      exact absurd H (by simp)
    ·rw [if_neg c5] at H
     simp only [Option.some.injEq, Prod.mk.injEq] at H
     obtain ⟨rfl, rfl, rfl, rfl, rfl, rfl, rfl⟩ := H
     have c5b := decide_eq_false c5
     replace c5 := eq_false c5
     have hf0' := blk_frozen HD0.out 0
     have hf1' := blk_frozen HD0.out 1
     have hf2' := blk_frozen HD0.out 2
     have hf3' := blk_frozen HD0.out 3
     have hf4' := blk_frozen HD0.out 4
     have hf5' := blk_frozen HD0.out 5
     have he0 : wr.cell? ⟨w.heap.size, 0, none⟩ = some (.int .i64 0) := (blk_cell HD0.out 0).trans rfl
     have he1 : wr.cell? ⟨w.heap.size, 1, none⟩ = some (.int .i64 0) := (blk_cell HD0.out 1).trans rfl
     have he2 : wr.cell? ⟨w.heap.size, 2, none⟩ = some (.int .i64 0) := (blk_cell HD0.out 2).trans rfl
     have he3 : wr.cell? ⟨w.heap.size, 3, none⟩ = some (.int .i64 0) := (blk_cell HD0.out 3).trans rfl
     have he4 : wr.cell? ⟨w.heap.size, 4, none⟩ = some (.int .i64 0) := (blk_cell HD0.out 4).trans rfl
     have he5 : wr.cell? ⟨w.heap.size, 5, none⟩ = some (.int .i64 0) := (blk_cell HD0.out 5).trans rfl
     go_wp2
     refine bodyPost_ret (results_ct rfl _ _ w.heap.size 54 #[.int .i64 wd, .int .i64 sh, .int .i64 s0, .int .i64 s1, .int .i64 s2, .int .i64 s3] (0, 0) _ rfl (by
      refine blk_put (cs := #[.int .i64 wd, .int .i64 sh, .int .i64 s0, .int .i64 s1, .int .i64 s2, .int .i64 0]) ?_ 5 _ rfl; refine blk_put (cs := #[.int .i64 wd, .int .i64 sh, .int .i64 s0, .int .i64 s1, .int .i64 0, .int .i64 0]) ?_ 4 _ rfl; refine blk_put (cs := #[.int .i64 wd, .int .i64 sh, .int .i64 s0, .int .i64 0, .int .i64 0, .int .i64 0]) ?_ 3 _ rfl; refine blk_put (cs := #[.int .i64 wd, .int .i64 sh, .int .i64 0, .int .i64 0, .int .i64 0, .int .i64 0]) ?_ 2 _ rfl; refine blk_put (cs := #[.int .i64 wd, .int .i64 0, .int .i64 0, .int .i64 0, .int .i64 0, .int .i64 0]) ?_ 1 _ rfl; refine blk_put (cs := #[.int .i64 0, .int .i64 0, .int .i64 0, .int .i64 0, .int .i64 0, .int .i64 0]) ?_ 0 _ rfl; exact HD0.out) Try.underlying54 rfl (by kernel_rfl)) rfl ?_
     exact ⟨rfl, Below.setCell (Below.setCell (Below.setCell (Below.setCell (Below.setCell (Below.setCell (HB1.out) (Nat.le_refl _) _) (Nat.le_refl _) _) (Nat.le_refl _) _) (Nat.le_refl _) _) (Nat.le_refl _) _) (Nat.le_refl _) _⟩

/-! ### scaled_fitted: function 37 -/
def scaled_fitted.f (a0 : Int) (a1 : Bool) : Option (Int × Bool) := if a1 = true then ((scaled_Fits.f a0).bind fun t141 => (if t141 = true then (some (a0, true)) else (some (0, false)))) else (some (0, false))
set_option maxHeartbeats 8000000 in
set_option maxRecDepth 100000 in
theorem scaled_fitted.calls (a0 : Int) (a1 : Bool) (r1 : Int) (r2 : Bool) (w : World) (h : scaled_fitted.f a0 a1 = some (r1, r2)) :
  Calls Try.prog 37 #[.int .i64 a0, .bool a1] w fun e w' => e = .returned (.tuple #[.int .i64 r1, .bool r2]) ∧ Drawn0 w w' := by
 have H : (if a1 = true then ((scaled_Fits.f a0).bind fun t141 => (if t141 = true then (some (a0, true)) else (some (0, false)))) else (some (0, false))) = some (r1, r2) := h
 clear h
 by_cases c3 : a1 = true
 ·subst c3
  have H1 : ((scaled_Fits.f a0).bind fun t141 => (if t141 = true then (some (a0, true)) else (some (0, false)))) = some (r1, r2) := by rw [if_pos rfl] at H; exact H
  clear H
  have H := H1
  clear H1
  replace H := Option.bind_eq_some_iff.mp H
  obtain ⟨t141, A40, H⟩ := H
  replace H : (if t141 = true then (some (a0, true)) else (some (0, false))) = some (r1, r2) := H
  have A4 := Aside0.mk A40
  clear A40
  by_cases c5 : t141 = true
  ·subst c5
   have H1 : (some (a0, true)) = some (r1, r2) := by rw [if_pos rfl] at H; exact H
   clear H
   have H := H1
   clear H1
   simp only [Option.some.injEq, Prod.mk.injEq] at H
   obtain ⟨rfl, rfl⟩ := H
   go_enter Try.func37, Try.ntmps37
   go_wp2_with (first | (go_at_call 38; (with_reducible refine (scaled_Fits.calls a0 true _ A4.out).mono ?_); rintro e w' ⟨rfl, ⟨nd, rfl⟩⟩))
   go_ret2
   exact ⟨by first | rfl | (simp; done) | (simp [*]; done), by repeat (first | exact Drawn0.refl _ | apply Drawn0.step)⟩
  ·replace c5 := Bool.eq_false_iff.mpr c5
   subst c5
   have H1 : (some (0, false)) = some (r1, r2) := by rw [if_neg (show ¬ (false = true) by decide)] at H; exact H
   clear H
   have H := H1
   clear H1
   simp only [Option.some.injEq, Prod.mk.injEq] at H
   obtain ⟨rfl, rfl⟩ := H
   go_enter Try.func37, Try.ntmps37
   go_wp2_with (first | (go_at_call 38; (with_reducible refine (scaled_Fits.calls a0 false _ A4.out).mono ?_); rintro e w' ⟨rfl, ⟨nd, rfl⟩⟩))
   go_ret2
   exact ⟨by first | rfl | (simp; done) | (simp [*]; done), by repeat (first | exact Drawn0.refl _ | apply Drawn0.step)⟩
 ·replace c3 := Bool.eq_false_iff.mpr c3
  subst c3
  have H1 : (some (0, false)) = some (r1, r2) := by rw [if_neg (show ¬ (false = true) by decide)] at H; exact H
  clear H
  have H := H1
  clear H1
  simp only [Option.some.injEq, Prod.mk.injEq] at H
  obtain ⟨rfl, rfl⟩ := H
  go_enter Try.func37, Try.ntmps37
  go_wp2
  go_ret2
  exact ⟨by first | rfl | (simp; done) | (simp [*]; done), by repeat (first | exact Drawn0.refl _ | apply Drawn0.step)⟩

/-! ### scaled_Sub: function 31 -/
def scaled_Sub.f (a0 : Int) (a1 : Int) : Option (Int × Bool) := (scaled_Fits.f a0).bind fun t142 => (if t142 = true then ((scaled_Fits.f a1).bind fun t143 => ((scaled_fitted.f (wrap64 (a0 - a1)) t143).bind fun bt144 => (some (bt144.1, bt144.2)))) else ((scaled_fitted.f (wrap64 (a0 - a1)) false).bind fun bt146 => (some (bt146.1, bt146.2))))
set_option maxHeartbeats 8000000 in
set_option maxRecDepth 100000 in
theorem scaled_Sub.calls (a0 : Int) (a1 : Int) (r1 : Int) (r2 : Bool) (w : World) (h : scaled_Sub.f a0 a1 = some (r1, r2)) :
  Calls Try.prog 31 #[.int .i64 a0, .int .i64 a1] w fun e w' => e = .returned (.tuple #[.int .i64 r1, .bool r2]) ∧ Drawn0 w w' := by
 have H : ((scaled_Fits.f a0).bind fun t142 => (if t142 = true then ((scaled_Fits.f a1).bind fun t143 => ((scaled_fitted.f (wrap64 (a0 - a1)) t143).bind fun bt144 => (some (bt144.1, bt144.2)))) else ((scaled_fitted.f (wrap64 (a0 - a1)) false).bind fun bt146 => (some (bt146.1, bt146.2))))) = some (r1, r2) := h
 clear h
 replace H := Option.bind_eq_some_iff.mp H
 obtain ⟨t142, A30, H⟩ := H
 replace H : (if t142 = true then ((scaled_Fits.f a1).bind fun t143 => ((scaled_fitted.f (wrap64 (a0 - a1)) t143).bind fun bt144 => (some (bt144.1, bt144.2)))) else ((scaled_fitted.f (wrap64 (a0 - a1)) false).bind fun bt146 => (some (bt146.1, bt146.2)))) = some (r1, r2) := H
 have A3 := Aside0.mk A30
 clear A30
 by_cases c4 : t142 = true
 ·subst c4
  have H1 : ((scaled_Fits.f a1).bind fun t143 => ((scaled_fitted.f (wrap64 (a0 - a1)) t143).bind fun bt144 => (some (bt144.1, bt144.2)))) = some (r1, r2) := by rw [if_pos rfl] at H; exact H
  clear H
  have H := H1
  clear H1
  replace H := Option.bind_eq_some_iff.mp H
  obtain ⟨t143, A50, H⟩ := H
  replace H : ((scaled_fitted.f (wrap64 (a0 - a1)) t143).bind fun bt144 => (some (bt144.1, bt144.2))) = some (r1, r2) := H
  have A5 := Aside0.mk A50
  clear A50
  replace H := Option.bind_eq_some_iff.mp H
  obtain ⟨⟨t144, t145⟩, A60, H⟩ := H
  replace H : (some (t144, t145)) = some (r1, r2) := H
  have A6 := Aside0.mk A60
  clear A60
  simp only [Option.some.injEq, Prod.mk.injEq] at H
  obtain ⟨rfl, rfl⟩ := H
  go_enter Try.func31, Try.ntmps31
  go_wp2_with (first | ((with_reducible refine gate_callee (f := 38) rfl ?_); refine goesL_ (some 10) rfl rfl Try.func38 (by kernel_rfl) rfl #[.int .i64 a0] rfl (by (try simp only [List.map_toArray, List.map_cons, List.map_nil]); first | done | rfl | (simp only [List.length_drop, List.length_take]; rfl) | (simp only [*]; first | done | rfl)) ?_; (with_reducible refine (scaled_Fits.calls a0 true _ A3.out).mono ?_); rintro e w' ⟨rfl, ⟨nd, rfl⟩⟩; refine ⟨_, rfl, ?_⟩) | (go_at_call 38; (with_reducible refine (scaled_Fits.calls a1 t143 _ A5.out).mono ?_); rintro e w' ⟨rfl, ⟨nd, rfl⟩⟩) | ((with_reducible refine gate_callee (f := 37) rfl ?_); refine goesL_ (some 15) rfl rfl Try.func37 (by kernel_rfl) rfl #[.int .i64 (wrap64 (a0 - a1)), .bool t143] rfl (by (try simp only [List.map_toArray, List.map_cons, List.map_nil]); first | done | rfl | (simp only [List.length_drop, List.length_take]; rfl) | (simp only [*]; first | done | rfl)) ?_; (with_reducible refine (scaled_fitted.calls (wrap64 (a0 - a1)) t143 t144 t145 _ A6.out).mono ?_); rintro e w' ⟨rfl, ⟨nd, rfl⟩⟩; refine ⟨_, rfl, ?_⟩))
  go_ret2
  exact ⟨by first | rfl | (simp; done) | (simp [*]; done), by repeat (first | exact Drawn0.refl _ | apply Drawn0.step)⟩
 ·replace c4 := Bool.eq_false_iff.mpr c4
  subst c4
  have H1 : ((scaled_fitted.f (wrap64 (a0 - a1)) false).bind fun bt146 => (some (bt146.1, bt146.2))) = some (r1, r2) := by rw [if_neg (show ¬ (false = true) by decide)] at H; exact H
  clear H
  have H := H1
  clear H1
  replace H := Option.bind_eq_some_iff.mp H
  obtain ⟨⟨t146, t147⟩, A70, H⟩ := H
  replace H : (some (t146, t147)) = some (r1, r2) := H
  have A7 := Aside0.mk A70
  clear A70
  simp only [Option.some.injEq, Prod.mk.injEq] at H
  obtain ⟨rfl, rfl⟩ := H
  go_enter Try.func31, Try.ntmps31
  go_wp2_with (first | ((with_reducible refine gate_callee (f := 38) rfl ?_); refine goesL_ (some 10) rfl rfl Try.func38 (by kernel_rfl) rfl #[.int .i64 a0] rfl (by (try simp only [List.map_toArray, List.map_cons, List.map_nil]); first | done | rfl | (simp only [List.length_drop, List.length_take]; rfl) | (simp only [*]; first | done | rfl)) ?_; (with_reducible refine (scaled_Fits.calls a0 false _ A3.out).mono ?_); rintro e w' ⟨rfl, ⟨nd, rfl⟩⟩; refine ⟨_, rfl, ?_⟩) | ((with_reducible refine gate_callee (f := 37) rfl ?_); refine goesL_ (some 15) rfl rfl Try.func37 (by kernel_rfl) rfl #[.int .i64 (wrap64 (a0 - a1)), .bool false] rfl (by (try simp only [List.map_toArray, List.map_cons, List.map_nil]); first | done | rfl | (simp only [List.length_drop, List.length_take]; rfl) | (simp only [*]; first | done | rfl)) ?_; (with_reducible refine (scaled_fitted.calls (wrap64 (a0 - a1)) false t146 t147 _ A7.out).mono ?_); rintro e w' ⟨rfl, ⟨nd, rfl⟩⟩; refine ⟨_, rfl, ?_⟩))
  go_ret2
  exact ⟨by first | rfl | (simp; done) | (simp [*]; done), by repeat (first | exact Drawn0.refl _ | apply Drawn0.step)⟩

/-! ### glue_Badness: function 32 -/
def glue_Badness.j0 : Nat → Int → Int → Bool → Option (Int)
 | 0, _, _, _ => none
 | k + 1, x0, x1, x6 => if x6 = true then (some (-1)) else (if x0 = 0 then (some 0) else (if x1 = 0 then (some 10000) else (if x0 ≤ 7230584 then (if (wrap64 (Int.tdiv (wrap64 (x0 * 297)) x1)) > 1290 then (some 10000) else (some (wrap64 (Int.tdiv (wrap64 ((wrap64 ((wrap64 ((wrap64 (Int.tdiv (wrap64 (x0 * 297)) x1)) * (wrap64 (Int.tdiv (wrap64 (x0 * 297)) x1)))) * (wrap64 (Int.tdiv (wrap64 (x0 * 297)) x1)))) + 131072)) 262144)))) else (if x1 ≥ 1663497 then (if (wrap64 (Int.tdiv x1 297)) = 0 then (none) else (if (wrap64 (Int.tdiv x0 (wrap64 (Int.tdiv x1 297)))) > 1290 then (some 10000) else (some (wrap64 (Int.tdiv (wrap64 ((wrap64 ((wrap64 ((wrap64 (Int.tdiv x0 (wrap64 (Int.tdiv x1 297)))) * (wrap64 (Int.tdiv x0 (wrap64 (Int.tdiv x1 297)))))) * (wrap64 (Int.tdiv x0 (wrap64 (Int.tdiv x1 297)))))) + 131072)) 262144))))) else (if x0 > 1290 then (some 10000) else (some (wrap64 (Int.tdiv (wrap64 ((wrap64 ((wrap64 (x0 * x0)) * x0)) + 131072)) 262144))))))))
def glue_Badness.f (k : Nat) (a0 : Int) (a1 : Int) : Option (Int) := (glue_amount.f a0).bind fun t148 => (if t148 = true then ((glue_amount.f a1).bind fun t149 => (glue_Badness.j0 k a0 a1 (!t149))) else (glue_Badness.j0 k a0 a1 true))
theorem glue_Badness.mono_l : ∀ k, (∀ y0 y1 y2, LeO (glue_Badness.j0 k y0 y1 y2) (glue_Badness.j0 (k + 1) y0 y1 y2))
 | 0 => fun _ _ _ r h => by simp [glue_Badness.j0] at h
 | k + 1 => by
  have ih0 := glue_Badness.mono_l k
  ·intro y0 y1 y2
   unfold glue_Badness.j0
   repeat' first
   | (with_reducible exact ih0 _ _ _)
   | (with_reducible exact LeO.refl _)
   | (with_reducible exact LeO.none _)
   | (with_reducible refine LeO.ite ?_ ?_)
   | (with_reducible refine LeO.bind ?_ (fun _ => ?_))
   | exact ih0 _ _ _
   | exact LeO.none _
   | refine LeO.ite ?_ ?_
   | refine LeO.bind ?_ (fun _ => ?_)
theorem glue_Badness.mono : ∀ a0 a1 k, LeO (glue_Badness.f k a0 a1) (glue_Badness.f (k + 1) a0 a1) := by
 intro a0 a1 k
 have ih0 := glue_Badness.mono_l k
 unfold glue_Badness.f
 repeat' first
   | (with_reducible exact ih0 _ _ _)
   | (with_reducible exact LeO.refl _)
   | (with_reducible exact LeO.none _)
   | (with_reducible refine LeO.ite ?_ ?_)
   | (with_reducible refine LeO.bind ?_ (fun _ => ?_))
   | exact ih0 _ _ _
   | exact LeO.none _
   | refine LeO.ite ?_ ?_
   | refine LeO.bind ?_ (fun _ => ?_)
set_option maxHeartbeats 8000000 in
set_option maxRecDepth 100000 in
theorem glue_Badness.calls (k : Nat) (a0 : Int) (a1 : Int) (r : Int) (w : World) (h : glue_Badness.f k a0 a1 = some r) :
  Calls Try.prog 32 #[.int .i64 a0, .int .i64 a1] w fun e w' => e = .returned (.int .i64 r) ∧ Drawn0 w w' := by
 have H : ((glue_amount.f a0).bind fun t148 => (if t148 = true then ((glue_amount.f a1).bind fun t149 => (glue_Badness.j0 k a0 a1 (!t149))) else (glue_Badness.j0 k a0 a1 true))) = some r := h
 clear h
 have HC3 := Aside0.mk H
 clear H
 go_enter Try.func32, Try.ntmps32
 go_upto_region 1 with (fail)
 go_cut [6] (fun v6 wc => ∃ (kq : Nat) (x6_2 : Bool), v6 = .bool x6_2 ∧ Aside0 (glue_Badness.j0 kq a0 a1 x6_2 = some r) ∧ Aside0 (kq ≤ k) ∧ Drawn0 w wc)
 case first =>
  have H := HC3.out
  clear HC3
  replace H := Option.bind_eq_some_iff.mp H
  obtain ⟨t148, A40, H⟩ := H
  replace H : (if t148 = true then ((glue_amount.f a1).bind fun t149 => (glue_Badness.j0 k a0 a1 (!t149))) else (glue_Badness.j0 k a0 a1 true)) = some r := H
  have A4 := Aside0.mk A40
  clear A40
  by_cases c5 : t148 = true
  ·subst c5
   have H1 : ((glue_amount.f a1).bind fun t149 => (glue_Badness.j0 k a0 a1 (!t149))) = some r := by rw [if_pos rfl] at H; exact H
   clear H
   have H := H1
   clear H1
   replace H := Option.bind_eq_some_iff.mp H
   obtain ⟨t149, A60, H⟩ := H
   replace H : (glue_Badness.j0 k a0 a1 (!t149)) = some r := H
   have A6 := Aside0.mk A60
   clear A60
   have H' := Aside0.mk H
   clear H
   go_wp2_with (first | ((with_reducible refine gate_callee (f := 39) rfl ?_); refine goesL_ (some 8) rfl rfl Try.func39 (by kernel_rfl) rfl #[.int .i64 a0] rfl (by (try simp only [List.map_toArray, List.map_cons, List.map_nil]); first | done | rfl | (simp only [List.length_drop, List.length_take]; rfl) | (simp only [*]; first | done | rfl)) ?_; (with_reducible refine (glue_amount.calls a0 true _ A4.out).mono ?_); rintro e w' ⟨rfl, ⟨nd, rfl⟩⟩; refine ⟨_, rfl, ?_⟩) | (go_at_call 39; (with_reducible refine (glue_amount.calls a1 t149 _ A6.out).mono ?_); rintro e w' ⟨rfl, ⟨nd, rfl⟩⟩))
   go_meet
   case rel => exact ⟨_, (!t149), (by first | rfl | (simp; done) | (simp [*]; done)), H', ⟨by first | omega | exact Nat.le_refl _⟩, by repeat (first | exact Drawn0.refl _ | apply Drawn0.step)⟩
  ·replace c5 := Bool.eq_false_iff.mpr c5
   subst c5
   have H1 : (glue_Badness.j0 k a0 a1 true) = some r := by rw [if_neg (show ¬ (false = true) by decide)] at H; exact H
   clear H
   have H := H1
   clear H1
   have H' := Aside0.mk H
   clear H
   go_wp2_with (first | ((with_reducible refine gate_callee (f := 39) rfl ?_); refine goesL_ (some 8) rfl rfl Try.func39 (by kernel_rfl) rfl #[.int .i64 a0] rfl (by (try simp only [List.map_toArray, List.map_cons, List.map_nil]); first | done | rfl | (simp only [List.length_drop, List.length_take]; rfl) | (simp only [*]; first | done | rfl)) ?_; (with_reducible refine (glue_amount.calls a0 false _ A4.out).mono ?_); rintro e w' ⟨rfl, ⟨nd, rfl⟩⟩; refine ⟨_, rfl, ?_⟩))
   go_meet
   case rel => exact ⟨_, (true), (by first | rfl | (simp; done) | (simp [*]; done)), H', ⟨by first | omega | exact Nat.le_refl _⟩, by repeat (first | exact Drawn0.refl _ | apply Drawn0.step)⟩
 case rest =>
  clear HC3
  try clear p2
  try clear c3
  try clear c5
  obtain ⟨kq, x6_2, rfl, HA, HJ2, ⟨mc2, rfl⟩⟩ := hcut
  cases kq with
  | zero => exact absurd HA.out (by simp [glue_Badness.j0])
  | succ kj2 =>
   have H := HA.out
   clear HA
   simp only [glue_Badness.j0] at H
   by_cases c7 : x6_2 = true
   ·subst c7
    have H1 : (some (-1)) = some r := by rw [if_pos rfl] at H; exact H
    clear H
    have H := H1
    clear H1
    obtain rfl := Option.some.inj H
    go_wp2
    go_ret
    exact ⟨by first | rfl | (simp; done) | (simp [*]; done), by repeat (first | exact Drawn0.refl _ | apply Drawn0.step)⟩
   ·replace c7 := Bool.eq_false_iff.mpr c7
    subst c7
    have H1 : (if a0 = 0 then (some 0) else (if a1 = 0 then (some 10000) else (if a0 ≤ 7230584 then (if (wrap64 (Int.tdiv (wrap64 (a0 * 297)) a1)) > 1290 then (some 10000) else (some (wrap64 (Int.tdiv (wrap64 ((wrap64 ((wrap64 ((wrap64 (Int.tdiv (wrap64 (a0 * 297)) a1)) * (wrap64 (Int.tdiv (wrap64 (a0 * 297)) a1)))) * (wrap64 (Int.tdiv (wrap64 (a0 * 297)) a1)))) + 131072)) 262144)))) else (if a1 ≥ 1663497 then (if (wrap64 (Int.tdiv a1 297)) = 0 then (none) else (if (wrap64 (Int.tdiv a0 (wrap64 (Int.tdiv a1 297)))) > 1290 then (some 10000) else (some (wrap64 (Int.tdiv (wrap64 ((wrap64 ((wrap64 ((wrap64 (Int.tdiv a0 (wrap64 (Int.tdiv a1 297)))) * (wrap64 (Int.tdiv a0 (wrap64 (Int.tdiv a1 297)))))) * (wrap64 (Int.tdiv a0 (wrap64 (Int.tdiv a1 297)))))) + 131072)) 262144))))) else (if a0 > 1290 then (some 10000) else (some (wrap64 (Int.tdiv (wrap64 ((wrap64 ((wrap64 (a0 * a0)) * a0)) + 131072)) 262144)))))))) = some r := by rw [if_neg (show ¬ (false = true) by decide)] at H; exact H
    clear H
    have H := H1
    clear H1
    by_cases c8 : a0 = 0
    ·rw [if_pos c8] at H
     have c8b0 : (a0 == 0) = true := beq_iff_eq.mpr c8
     have c8b1 : (a0 != 0) = false := bne_eq_false_iff_eq.mpr c8
     clear c8
     obtain rfl := Option.some.inj H
     go_wp2
     go_ret
     exact ⟨by first | rfl | (simp; done) | (simp [*]; done), by repeat (first | exact Drawn0.refl _ | apply Drawn0.step)⟩
    ·rw [if_neg c8] at H
     have c8b0 : (a0 == 0) = false := beq_eq_false_iff_ne.mpr c8
     have c8b1 : (a0 != 0) = true := bne_iff_ne.mpr c8
     by_cases c9 : a1 = 0
     ·rw [if_pos c9] at H
      have c9b0 : (a1 == 0) = true := beq_iff_eq.mpr c9
      have c9b1 : (a1 != 0) = false := bne_eq_false_iff_eq.mpr c9
      clear c9
      obtain rfl := Option.some.inj H
      go_wp2
      go_ret
      exact ⟨by first | rfl | (simp; done) | (simp [*]; done), by repeat (first | exact Drawn0.refl _ | apply Drawn0.step)⟩
     ·rw [if_neg c9] at H
      have c9b0 : (a1 == 0) = false := beq_eq_false_iff_ne.mpr c9
      have c9b1 : (a1 != 0) = true := bne_iff_ne.mpr c9
      by_cases c10 : a0 ≤ 7230584
      ·rw [if_pos c10] at H
       have c10b0 : decide (a0 ≤ 7230584) = true := decide_eq_true c10
       clear c10
       by_cases c11 : (wrap64 (Int.tdiv (wrap64 (a0 * 297)) a1)) > 1290
       ·rw [if_pos c11] at H
        have c11b0 : decide (1290 < (wrap64 (Int.tdiv (wrap64 (a0 * 297)) a1))) = true := decide_eq_true c11
        clear c11
        obtain rfl := Option.some.inj H
        go_wp2
        go_ret
        exact ⟨by first | rfl | (simp; done) | (simp [*]; done), by repeat (first | exact Drawn0.refl _ | apply Drawn0.step)⟩
       ·rw [if_neg c11] at H
        have c11b0 : decide (1290 < (wrap64 (Int.tdiv (wrap64 (a0 * 297)) a1))) = false := decide_eq_false c11
        clear c11
        obtain rfl := Option.some.inj H
        go_wp2
        go_ret
        exact ⟨by first | rfl | (simp; done) | (simp [*]; done), by repeat (first | exact Drawn0.refl _ | apply Drawn0.step)⟩
      ·rw [if_neg c10] at H
       have c10b0 : decide (a0 ≤ 7230584) = false := decide_eq_false c10
       clear c10
       by_cases c12 : a1 ≥ 1663497
       ·rw [if_pos c12] at H
        have c12b0 : decide (1663497 ≤ a1) = true := decide_eq_true c12
        clear c12
        by_cases c13 : (wrap64 (Int.tdiv a1 297)) = 0
        ·rw [if_pos c13] at H
         exact absurd H (by simp)
        ·rw [if_neg c13] at H
         have c13b0 : ((wrap64 (Int.tdiv a1 297)) == 0) = false := beq_eq_false_iff_ne.mpr c13
         have c13b1 : ((wrap64 (Int.tdiv a1 297)) != 0) = true := bne_iff_ne.mpr c13
         by_cases c14 : (wrap64 (Int.tdiv a0 (wrap64 (Int.tdiv a1 297)))) > 1290
         ·rw [if_pos c14] at H
          have c14b0 : decide (1290 < (wrap64 (Int.tdiv a0 (wrap64 (Int.tdiv a1 297))))) = true := decide_eq_true c14
          clear c14
          obtain rfl := Option.some.inj H
          go_wp2
          go_ret
          exact ⟨by first | rfl | (simp; done) | (simp [*]; done), by repeat (first | exact Drawn0.refl _ | apply Drawn0.step)⟩
         ·rw [if_neg c14] at H
          have c14b0 : decide (1290 < (wrap64 (Int.tdiv a0 (wrap64 (Int.tdiv a1 297))))) = false := decide_eq_false c14
          clear c14
          obtain rfl := Option.some.inj H
          go_wp2
          go_ret
          exact ⟨by first | rfl | (simp; done) | (simp [*]; done), by repeat (first | exact Drawn0.refl _ | apply Drawn0.step)⟩
       ·rw [if_neg c12] at H
        have c12b0 : decide (1663497 ≤ a1) = false := decide_eq_false c12
        clear c12
        by_cases c15 : a0 > 1290
        ·rw [if_pos c15] at H
         have c15b0 : decide (1290 < a0) = true := decide_eq_true c15
         clear c15
         obtain rfl := Option.some.inj H
         go_wp2
         go_ret
         exact ⟨by first | rfl | (simp; done) | (simp [*]; done), by repeat (first | exact Drawn0.refl _ | apply Drawn0.step)⟩
        ·rw [if_neg c15] at H
         have c15b0 : decide (1290 < a0) = false := decide_eq_false c15
         clear c15
         obtain rfl := Option.some.inj H
         go_wp2
         go_ret
         exact ⟨by first | rfl | (simp; done) | (simp [*]; done), by repeat (first | exact Drawn0.refl _ | apply Drawn0.step)⟩

end Go.Proofs.Ytagpdpcodcmgkaa.PTo

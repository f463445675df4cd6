/- Written by a program of this session: functions of the given program as plain Lean functions, the walks that show it, and the row of each law, for every input that its statement speaks of. -/
import Derived.Test.YtpfnfofaajpdmaaPWix0
import Derived.Test.YtpfnfofaajpdmaaPWix12
import Derived.Test.YtpfnfofaajpdmaaPWix13
namespace Go.Proofs.Ytpfnfofaajpdmaa.PWi
open Go.RowKit Go.Proofs.YtpfnfofaajpdmaaW.PrintWords Go.Proofs.YtpfnfofaajpdmaaW.PrintLast Go.Proofs.YtpfnfofaajpdmaaW.PrintMore
attribute [local go_sem] max2_int min2_int max_two min_two max_three min_three max_four min_four   -- for this text's walks alone
set_option linter.unusedVariables false
set_option linter.unusedSimpArgs false

/-! ### variorumref03_Total: function 47 -/
def variorumref03_Total.l0 : Nat → List S38 → Int → Int → Int → Int → Int → Int → Int → Option (Int × Int × Int × Int × Int × Int × Bool)
 | 0, _, _, _, _, _, _, _, _ => none
 | k + 1, x0, wd, sh, s0, s1, s2, s3, i => if i < (x0.length : Int) then (if 0 ≤ i then (
   if (rd_T38 x0 i).f3 = 0 then variorumref03_Total.l0 k x0 (wrap64 (wd + (rd_T38 x0 i).f0)) (wrap64 (sh + (rd_T38 x0 i).f2)) (wrap64 (s0 + (rd_T38 x0 i).f1)) s1 s2 s3 (wrap64 (i + 1))
   else if (rd_T38 x0 i).f3 = 1 then variorumref03_Total.l0 k x0 (wrap64 (wd + (rd_T38 x0 i).f0)) (wrap64 (sh + (rd_T38 x0 i).f2)) s0 (wrap64 (s1 + (rd_T38 x0 i).f1)) s2 s3 (wrap64 (i + 1))
   else if (rd_T38 x0 i).f3 = 2 then variorumref03_Total.l0 k x0 (wrap64 (wd + (rd_T38 x0 i).f0)) (wrap64 (sh + (rd_T38 x0 i).f2)) s0 s1 (wrap64 (s2 + (rd_T38 x0 i).f1)) s3 (wrap64 (i + 1))
   else if (rd_T38 x0 i).f3 = 3 then variorumref03_Total.l0 k x0 (wrap64 (wd + (rd_T38 x0 i).f0)) (wrap64 (sh + (rd_T38 x0 i).f2)) s0 s1 s2 (wrap64 (s3 + (rd_T38 x0 i).f1)) (wrap64 (i + 1))
   else none) else none) else some (wd, sh, s0, s1, s2, s3, true)
def variorumref03_Total.f (k : Nat) (l0 : List S38) : Option (Int × Int × Int × Int × Int × Int × Bool) := (variorumref03_May.f k l0).bind fun t => if t = true then variorumref03_Total.l0 k l0 0 0 0 0 0 0 0 else some (0, 0, 0, 0, 0, 0, false)
theorem variorumref03_Total.mono_0 : ∀ k x0 wd sh s0 s1 s2 s3 i, LeO (variorumref03_Total.l0 k x0 wd sh s0 s1 s2 s3 i) (variorumref03_Total.l0 (k + 1) x0 wd sh s0 s1 s2 s3 i)
 | 0 => fun _ _ _ _ _ _ _ _ r h => by simp [variorumref03_Total.l0] at h
 | k + 1 => by
  intro x0 wd sh s0 s1 s2 s3 i
  have ih := variorumref03_Total.mono_0 k
  unfold variorumref03_Total.l0
  exact LeO.ite (LeO.ite (LeO.ite (ih _ _ _ _ _ _ _ _) (LeO.ite (ih _ _ _ _ _ _ _ _) (LeO.ite (ih _ _ _ _ _ _ _ _) (LeO.ite (ih _ _ _ _ _ _ _ _) (LeO.refl _))))) (LeO.refl _)) (LeO.refl _)
theorem variorumref03_Total.mono : ∀ a0 k, LeO (variorumref03_Total.f k a0) (variorumref03_Total.f (k + 1) a0) := by
 intro a0 k
 unfold variorumref03_Total.f
 exact LeO.bind (variorumref03_May.mono _ _) (fun _ => LeO.ite (variorumref03_Total.mono_0 _ _ _ _ _ _ _ _ _) (LeO.refl _))

set_option maxHeartbeats 8000000 in
set_option maxRecDepth 100000 in
theorem variorumref03_Total.calls (k : Nat) (A0 : Option Addr) (c0 : Nat) (l0 : List S38) (r1 r2 r3 r4 r5 r6 : Int) (r7 : Bool) (w : World) (hr0 : Kd.C k38 w A0 l0.length l0) (hc0 : l0.length ≤ c0) (h : variorumref03_Total.f k l0 = some (r1, r2, r3, r4, r5, r6, r7)) :
  Calls Try.prog 47 #[.slice A0 l0.length c0] w fun e w' => e = .returned (.tuple #[.agg #[.int .i64 r1, .int .i64 r2, .int .i64 r3, .int .i64 r4, .int .i64 r5, .int .i64 r6], .bool r7]) ∧ Below w.heap.size w w' := by
 have hu54 := Try.underlying87
 have hu52 := Try.underlying85
 have hu45 := Try.underlying38
 have HR0 := a_ hr0
 have HC0 := a_ hc0
 clear hr0 hc0
 obtain ⟨t, A40, H⟩ := Option.bind_eq_some_iff.mp h
 clear h
 have A4 := a_ A40
 clear A40
 obtain ⟨W0, hW0⟩ : ∃ W0, W0 = (w.alloc (.cells #[.int .i64 0, .int .i64 0, .int .i64 0, .int .i64 0, .int .i64 0, .int .i64 0] 87)).alloc (.cells #[.int .i64 0, .int .i64 0, .int .i64 0, .int .i64 0, .int .i64 0, .int .i64 0] 87) := ⟨_, rfl⟩
 have B0 := a_ (show Below w.heap.size w W0 by rw [hW0]; exact below_alloc (below_alloc (Below.refl _ _) _) _)
 have HCC := a_ (Kd.C_below HR0.out B0.out)
 have G0 := a_ (show W0.heap[w.heap.size]? = some (.cells #[.int .i64 0, .int .i64 0, .int .i64 0, .int .i64 0, .int .i64 0, .int .i64 0] 87 (0, 0)) by rw [hW0]; exact blk_alloc (blk_new _ _) _)
 have G1 := a_ (show W0.heap[w.heap.size + 1]? = some (.cells #[.int .i64 0, .int .i64 0, .int .i64 0, .int .i64 0, .int .i64 0, .int .i64 0] 87 (0, 0)) by
  have e : (w.alloc (.cells #[.int .i64 0, .int .i64 0, .int .i64 0, .int .i64 0, .int .i64 0, .int .i64 0] 87)).heap.size = w.heap.size + 1 := by simp
  have h2 := blk_new (w.alloc (.cells #[.int .i64 0, .int .i64 0, .int .i64 0, .int .i64 0, .int .i64 0, .int .i64 0] 87)) (.cells #[.int .i64 0, .int .i64 0, .int .i64 0, .int .i64 0, .int .i64 0, .int .i64 0] 87)
  rw [e] at h2
  rw [hW0]; exact h2)
 cases t with
 | false =>
  rw [if_neg (by decide)] at H
  simp only [Option.some.injEq, Prod.mk.injEq] at H
  obtain ⟨rfl, rfl, rfl, rfl, rfl, rfl, rfl⟩ := H
  go_enter Try.func47, Try.ntmps47
  go_wp2_with fail
  rw [← hW0]
  refine (variorumref03_May.calls k A0 c0 l0 false W0 HCC.out HC0.out A4.out).mono ?_
  rintro e w1 ⟨rfl, hb⟩
  have B1 : Aside0 (Below w.heap.size w w1) := ⟨below_then B0.out B0.out.size hb⟩
  have D0 : Aside0 (w1.heap[w.heap.size]? = some (.cells #[.int .i64 0, .int .i64 0, .int .i64 0, .int .i64 0, .int .i64 0, .int .i64 0] 87 (0, 0))) := ⟨blk_below G0.out hb⟩
  have D1 : Aside0 (w1.heap[w.heap.size + 1]? = some (.cells #[.int .i64 0, .int .i64 0, .int .i64 0, .int .i64 0, .int .i64 0, .int .i64 0] 87 (0, 0))) := ⟨blk_below G1.out hb⟩
  clear hb hW0
  have he0 : w1.cell? ⟨w.heap.size, 0, none⟩ = some (.int .i64 0) := (blk_cell D0.out 0).trans rfl
  have he1 : w1.cell? ⟨w.heap.size, 1, none⟩ = some (.int .i64 0) := (blk_cell D0.out 1).trans rfl
  have he2 : w1.cell? ⟨w.heap.size, 2, none⟩ = some (.int .i64 0) := (blk_cell D0.out 2).trans rfl
  have he3 : w1.cell? ⟨w.heap.size, 3, none⟩ = some (.int .i64 0) := (blk_cell D0.out 3).trans rfl
  have he4 : w1.cell? ⟨w.heap.size, 4, none⟩ = some (.int .i64 0) := (blk_cell D0.out 4).trans rfl
  have he5 : w1.cell? ⟨w.heap.size, 5, none⟩ = some (.int .i64 0) := (blk_cell D0.out 5).trans rfl
  have hd0 : w1.cell? ⟨w.heap.size + 1, 0, none⟩ = some (.int .i64 0) := (blk_cell D1.out 0).trans rfl
  have hf0 := blk_frozen D0.out 0
  have hd1 : w1.cell? ⟨w.heap.size + 1, 1, none⟩ = some (.int .i64 0) := (blk_cell D1.out 1).trans rfl
  have hf1 := blk_frozen D0.out 1
  have hd2 : w1.cell? ⟨w.heap.size + 1, 2, none⟩ = some (.int .i64 0) := (blk_cell D1.out 2).trans rfl
  have hf2 := blk_frozen D0.out 2
  have hd3 : w1.cell? ⟨w.heap.size + 1, 3, none⟩ = some (.int .i64 0) := (blk_cell D1.out 3).trans rfl
  have hf3 := blk_frozen D0.out 3
  have hd4 : w1.cell? ⟨w.heap.size + 1, 4, none⟩ = some (.int .i64 0) := (blk_cell D1.out 4).trans rfl
  have hf4 := blk_frozen D0.out 4
  have hd5 : w1.cell? ⟨w.heap.size + 1, 5, none⟩ = some (.int .i64 0) := (blk_cell D1.out 5).trans rfl
  have hf5 := blk_frozen D0.out 5
  go_wp2
  refine bodyPost_ret (results_ct rfl _ _ w.heap.size 87 #[.int .i64 0, .int .i64 0, .int .i64 0, .int .i64 0, .int .i64 0, .int .i64 0] (0, 0) _ rfl (by
   refine blk_put (cs := #[.int .i64 0, .int .i64 0, .int .i64 0, .int .i64 0, .int .i64 0, .int .i64 0]) ?_ 5 _ rfl; refine blk_put (cs := #[.int .i64 0, .int .i64 0, .int .i64 0, .int .i64 0, .int .i64 0, .int .i64 0]) ?_ 4 _ rfl; refine blk_put (cs := #[.int .i64 0, .int .i64 0, .int .i64 0, .int .i64 0, .int .i64 0, .int .i64 0]) ?_ 3 _ rfl; refine blk_put (cs := #[.int .i64 0, .int .i64 0, .int .i64 0, .int .i64 0, .int .i64 0, .int .i64 0]) ?_ 2 _ rfl; refine blk_put (cs := #[.int .i64 0, .int .i64 0, .int .i64 0, .int .i64 0, .int .i64 0, .int .i64 0]) ?_ 1 _ rfl; refine blk_put (cs := #[.int .i64 0, .int .i64 0, .int .i64 0, .int .i64 0, .int .i64 0, .int .i64 0]) ?_ 0 _ rfl; exact D0.out) Try.underlying87 rfl (by kernel_rfl)) rfl ?_
  exact ⟨rfl, Below.setCell (Below.setCell (Below.setCell (Below.setCell (Below.setCell (Below.setCell (B1.out) (Nat.le_refl _) _) (Nat.le_refl _) _) (Nat.le_refl _) _) (Nat.le_refl _) _) (Nat.le_refl _) _) (Nat.le_refl _) _⟩
 | true =>
  rw [if_pos rfl] at H
  have H' := a_ H
  clear H
  go_enter Try.func47, Try.ntmps47
  go_wp2_with fail
  rw [← hW0]
  refine (variorumref03_May.calls k A0 c0 l0 true W0 HCC.out HC0.out A4.out).mono ?_
  rintro e w1 ⟨rfl, hb⟩
  have B1 : Aside0 (Below w.heap.size w w1) := ⟨below_then B0.out B0.out.size hb⟩
  have D0 : Aside0 (w1.heap[w.heap.size]? = some (.cells #[.int .i64 0, .int .i64 0, .int .i64 0, .int .i64 0, .int .i64 0, .int .i64 0] 87 (0, 0))) := ⟨blk_below G0.out hb⟩
  have D1 : Aside0 (w1.heap[w.heap.size + 1]? = some (.cells #[.int .i64 0, .int .i64 0, .int .i64 0, .int .i64 0, .int .i64 0, .int .i64 0] 87 (0, 0))) := ⟨blk_below G1.out hb⟩
  clear hb hW0
  go_wp2
  go_loopg [5] k (fun kq v13 w' => ∃ (wd sh s0 s1 s2 s3 i : Int), v13 = .int .i64 i ∧ Aside0 (variorumref03_Total.l0 kq l0 wd sh s0 s1 s2 s3 i = some (r1, r2, r3, r4, r5, r6, r7)) ∧ Aside0 (kq ≤ k) ∧ Aside0 (w'.heap[w.heap.size + 1]? = some (.cells #[.int .i64 wd, .int .i64 sh, .int .i64 s0, .int .i64 s1, .int .i64 s2, .int .i64 s3] 87 (0, 0))) ∧ Aside0 (w'.heap[w.heap.size]? = some (.cells #[.int .i64 0, .int .i64 0, .int .i64 0, .int .i64 0, .int .i64 0, .int .i64 0] 87 (0, 0))) ∧ Aside0 (Below w.heap.size w w'))
  case atStart => exact ⟨0, 0, 0, 0, 0, 0, 0, rfl, H', ⟨Nat.le_refl _⟩, D1, D0, B1⟩
  case round =>
   clear H'
   obtain ⟨wd, sh, s0, s1, s2, s3, i, rfl, HA, HK1, HD1, HD0, HB1⟩ := hrel
   cases gk with
   | zero => exact absurd HA.out (by simp [variorumref03_Total.l0])
   | succ k1 =>
    have H := HA.out
    clear HA
    simp only [variorumref03_Total.l0] at H
    have hd0 : wr.cell? ⟨w.heap.size + 1, 0, none⟩ = some (.int .i64 wd) := (blk_cell HD1.out 0).trans rfl
    have hf0 := blk_frozen HD1.out 0
    have hd1 : wr.cell? ⟨w.heap.size + 1, 1, none⟩ = some (.int .i64 sh) := (blk_cell HD1.out 1).trans rfl
    have hf1 := blk_frozen HD1.out 1
    have hd2 : wr.cell? ⟨w.heap.size + 1, 2, none⟩ = some (.int .i64 s0) := (blk_cell HD1.out 2).trans rfl
    have hf2 := blk_frozen HD1.out 2
    have hd3 : wr.cell? ⟨w.heap.size + 1, 3, none⟩ = some (.int .i64 s1) := (blk_cell HD1.out 3).trans rfl
    have hf3 := blk_frozen HD1.out 3
    have hd4 : wr.cell? ⟨w.heap.size + 1, 4, none⟩ = some (.int .i64 s2) := (blk_cell HD1.out 4).trans rfl
    have hf4 := blk_frozen HD1.out 4
    have hd5 : wr.cell? ⟨w.heap.size + 1, 5, none⟩ = some (.int .i64 s3) := (blk_cell HD1.out 5).trans rfl
    have hf5 := blk_frozen HD1.out 5
    by_cases c5 : i < (l0.length : Int)
    ·rw [if_pos c5] at H
     by_cases c6 : 0 ≤ i
     ·rw [if_pos c6] at H
      have C5 := a_ c5
      have C6 := a_ c6
      have c5b := decide_eq_true c5
      replace c6 := eq_true c6
      replace c5 := eq_true c5
      by_cases o0 : (rd_T38 l0 i).f3 = 0
      ·rw [if_pos o0] at H
       have H' := a_ H
       clear H
       have HC1 := a_ (Kd.C_below HR0.out HB1.out)
       obtain ⟨ad1, e1, hx0, hx1, hx2, hx3⟩ := at_T38 HC1.out i C6.out C5.out
       cases e1
       rw [o0] at hx3
       clear hd0 hd1 hd2 hd3 hd4 hd5 hf0 hf1 hf2 hf3 hf4 hf5
       have hd : wr.cell? ⟨w.heap.size + 1, 0, none⟩ = some (.int .i64 wd) := (blk_cell HD1.out 0).trans rfl
       have hf := blk_frozen HD1.out 0
       go_wp2
       go_still_tail 8, (by kernel_rfl)
       change wpList _ _ _ _ _ wr.drew
       go_wp2
       obtain ⟨x0, hx⟩ : ∃ x0, x0 = (wr.setCell ⟨w.heap.size + 1, 0, none⟩ (Value.int IntKind.i64 (wrap64 (wd + (rd_T38 l0 i).f0)))).drew := ⟨_, rfl⟩
       rw [← hx]
       have HD10 : Aside0 (x0.heap[w.heap.size + 1]? = some (.cells #[.int .i64 (wrap64 (wd + (rd_T38 l0 i).f0)), .int .i64 sh, .int .i64 s0, .int .i64 s1, .int .i64 s2, .int .i64 s3] 87 (0, 0))) := ⟨by rw [hx]; exact blk_put HD1.out 0 _ rfl⟩
       have HD00 : Aside0 (x0.heap[w.heap.size]? = some (.cells #[.int .i64 0, .int .i64 0, .int .i64 0, .int .i64 0, .int .i64 0, .int .i64 0] 87 (0, 0))) := ⟨by rw [hx]; exact blk_far HD0.out (p := ⟨w.heap.size + 1, 0, none⟩) (by simp) _⟩
       have HBx0 : Aside0 (Below w.heap.size w x0) := ⟨by rw [hx]; exact below_drew (Below.setCell HB1.out (Nat.le_succ _) _)⟩
       clear hx hx0 hx1 hx2 hx3 hd hf
       have HCx0 := a_ (Kd.C_below HR0.out HBx0.out)
       obtain ⟨adx0, e1, hx0, hx1, hx2, hx3⟩ := at_T38 HCx0.out i C6.out C5.out
       cases e1
       rw [o0] at hx3
       have hd : x0.cell? ⟨w.heap.size + 1, 1, none⟩ = some (.int .i64 sh) := (blk_cell HD10.out 1).trans rfl
       have hf := blk_frozen HD10.out 1
       skip
       go_still_tail 8, (by kernel_rfl)
       change wpList _ _ _ _ _ x0.drew
       go_wp2
       obtain ⟨x1, hx⟩ : ∃ x1, x1 = (x0.setCell ⟨w.heap.size + 1, 1, none⟩ (Value.int IntKind.i64 (wrap64 (sh + (rd_T38 l0 i).f2)))).drew := ⟨_, rfl⟩
       rw [← hx]
       have HD11 : Aside0 (x1.heap[w.heap.size + 1]? = some (.cells #[.int .i64 (wrap64 (wd + (rd_T38 l0 i).f0)), .int .i64 (wrap64 (sh + (rd_T38 l0 i).f2)), .int .i64 s0, .int .i64 s1, .int .i64 s2, .int .i64 s3] 87 (0, 0))) := ⟨by rw [hx]; exact blk_put HD10.out 1 _ rfl⟩
       have HD01 : Aside0 (x1.heap[w.heap.size]? = some (.cells #[.int .i64 0, .int .i64 0, .int .i64 0, .int .i64 0, .int .i64 0, .int .i64 0] 87 (0, 0))) := ⟨by rw [hx]; exact blk_far HD00.out (p := ⟨w.heap.size + 1, 1, none⟩) (by simp) _⟩
       have HBx1 : Aside0 (Below w.heap.size w x1) := ⟨by rw [hx]; exact below_drew (Below.setCell HBx0.out (Nat.le_succ _) _)⟩
       clear hx hx0 hx1 hx2 hx3 hd hf
       have HCx1 := a_ (Kd.C_below HR0.out HBx1.out)
       obtain ⟨adx1, e1, hx0, hx1, hx2, hx3⟩ := at_T38 HCx1.out i C6.out C5.out
       cases e1
       rw [o0] at hx3
       have hd : x1.cell? ⟨w.heap.size + 1, 2, none⟩ = some (.int .i64 s0) := (blk_cell HD11.out 2).trans rfl
       have hf := blk_frozen HD11.out 2
       skip
       have hbit : bits BinOp.and IntKind.i64 0 3 = 0 := by decide +kernel
       go_still_tail 16, (by kernel_rfl)
       change wpList _ _ _ _ _ x1.drew
       go_wp2
       go_roundg k1
       case measure => omega
       case rel => exact ⟨_, _, _, _, _, _, _, rfl, H', ⟨by have := HK1.out; omega⟩, ⟨blk_put HD11.out 2 _ rfl⟩, ⟨blk_far HD01.out (p := ⟨w.heap.size + 1, 2, none⟩) (by simp) _⟩, ⟨below_drew (Below.setCell HBx1.out (Nat.le_succ _) _)⟩⟩
      ·rw [if_neg o0] at H
       by_cases o1 : (rd_T38 l0 i).f3 = 1
       ·rw [if_pos o1] at H
        have H' := a_ H
        clear H
        have HC1 := a_ (Kd.C_below HR0.out HB1.out)
        obtain ⟨ad1, e1, hx0, hx1, hx2, hx3⟩ := at_T38 HC1.out i C6.out C5.out
        cases e1
        rw [o1] at hx3
        clear hd0 hd1 hd2 hd3 hd4 hd5 hf0 hf1 hf2 hf3 hf4 hf5
        have hd : wr.cell? ⟨w.heap.size + 1, 0, none⟩ = some (.int .i64 wd) := (blk_cell HD1.out 0).trans rfl
        have hf := blk_frozen HD1.out 0
        go_wp2
        go_still_tail 8, (by kernel_rfl)
        change wpList _ _ _ _ _ wr.drew
        go_wp2
        obtain ⟨x0, hx⟩ : ∃ x0, x0 = (wr.setCell ⟨w.heap.size + 1, 0, none⟩ (Value.int IntKind.i64 (wrap64 (wd + (rd_T38 l0 i).f0)))).drew := ⟨_, rfl⟩
        rw [← hx]
        have HD10 : Aside0 (x0.heap[w.heap.size + 1]? = some (.cells #[.int .i64 (wrap64 (wd + (rd_T38 l0 i).f0)), .int .i64 sh, .int .i64 s0, .int .i64 s1, .int .i64 s2, .int .i64 s3] 87 (0, 0))) := ⟨by rw [hx]; exact blk_put HD1.out 0 _ rfl⟩
        have HD00 : Aside0 (x0.heap[w.heap.size]? = some (.cells #[.int .i64 0, .int .i64 0, .int .i64 0, .int .i64 0, .int .i64 0, .int .i64 0] 87 (0, 0))) := ⟨by rw [hx]; exact blk_far HD0.out (p := ⟨w.heap.size + 1, 0, none⟩) (by simp) _⟩
        have HBx0 : Aside0 (Below w.heap.size w x0) := ⟨by rw [hx]; exact below_drew (Below.setCell HB1.out (Nat.le_succ _) _)⟩
        clear hx hx0 hx1 hx2 hx3 hd hf
        have HCx0 := a_ (Kd.C_below HR0.out HBx0.out)
        obtain ⟨adx0, e1, hx0, hx1, hx2, hx3⟩ := at_T38 HCx0.out i C6.out C5.out
        cases e1
        rw [o1] at hx3
        have hd : x0.cell? ⟨w.heap.size + 1, 1, none⟩ = some (.int .i64 sh) := (blk_cell HD10.out 1).trans rfl
        have hf := blk_frozen HD10.out 1
        skip
        go_still_tail 8, (by kernel_rfl)
        change wpList _ _ _ _ _ x0.drew
        go_wp2
        obtain ⟨x1, hx⟩ : ∃ x1, x1 = (x0.setCell ⟨w.heap.size + 1, 1, none⟩ (Value.int IntKind.i64 (wrap64 (sh + (rd_T38 l0 i).f2)))).drew := ⟨_, rfl⟩
        rw [← hx]
        have HD11 : Aside0 (x1.heap[w.heap.size + 1]? = some (.cells #[.int .i64 (wrap64 (wd + (rd_T38 l0 i).f0)), .int .i64 (wrap64 (sh + (rd_T38 l0 i).f2)), .int .i64 s0, .int .i64 s1, .int .i64 s2, .int .i64 s3] 87 (0, 0))) := ⟨by rw [hx]; exact blk_put HD10.out 1 _ rfl⟩
        have HD01 : Aside0 (x1.heap[w.heap.size]? = some (.cells #[.int .i64 0, .int .i64 0, .int .i64 0, .int .i64 0, .int .i64 0, .int .i64 0] 87 (0, 0))) := ⟨by rw [hx]; exact blk_far HD00.out (p := ⟨w.heap.size + 1, 1, none⟩) (by simp) _⟩
        have HBx1 : Aside0 (Below w.heap.size w x1) := ⟨by rw [hx]; exact below_drew (Below.setCell HBx0.out (Nat.le_succ _) _)⟩
        clear hx hx0 hx1 hx2 hx3 hd hf
        have HCx1 := a_ (Kd.C_below HR0.out HBx1.out)
        obtain ⟨adx1, e1, hx0, hx1, hx2, hx3⟩ := at_T38 HCx1.out i C6.out C5.out
        cases e1
        rw [o1] at hx3
        have hd : x1.cell? ⟨w.heap.size + 1, 3, none⟩ = some (.int .i64 s1) := (blk_cell HD11.out 3).trans rfl
        have hf := blk_frozen HD11.out 3
        skip
        have hbit : bits BinOp.and IntKind.i64 1 3 = 1 := by decide +kernel
        go_still_tail 16, (by kernel_rfl)
        change wpList _ _ _ _ _ x1.drew
        go_wp2
        go_roundg k1
        case measure => omega
        case rel => exact ⟨_, _, _, _, _, _, _, rfl, H', ⟨by have := HK1.out; omega⟩, ⟨blk_put HD11.out 3 _ rfl⟩, ⟨blk_far HD01.out (p := ⟨w.heap.size + 1, 3, none⟩) (by simp) _⟩, ⟨below_drew (Below.setCell HBx1.out (Nat.le_succ _) _)⟩⟩
       ·rw [if_neg o1] at H
        by_cases o2 : (rd_T38 l0 i).f3 = 2
        ·rw [if_pos o2] at H
         have H' := a_ H
         clear H
         have HC1 := a_ (Kd.C_below HR0.out HB1.out)
         obtain ⟨ad1, e1, hx0, hx1, hx2, hx3⟩ := at_T38 HC1.out i C6.out C5.out
         cases e1
         rw [o2] at hx3
         clear hd0 hd1 hd2 hd3 hd4 hd5 hf0 hf1 hf2 hf3 hf4 hf5
         have hd : wr.cell? ⟨w.heap.size + 1, 0, none⟩ = some (.int .i64 wd) := (blk_cell HD1.out 0).trans rfl
         have hf := blk_frozen HD1.out 0
         go_wp2
         go_still_tail 8, (by kernel_rfl)
         change wpList _ _ _ _ _ wr.drew
         go_wp2
         obtain ⟨x0, hx⟩ : ∃ x0, x0 = (wr.setCell ⟨w.heap.size + 1, 0, none⟩ (Value.int IntKind.i64 (wrap64 (wd + (rd_T38 l0 i).f0)))).drew := ⟨_, rfl⟩
         rw [← hx]
         have HD10 : Aside0 (x0.heap[w.heap.size + 1]? = some (.cells #[.int .i64 (wrap64 (wd + (rd_T38 l0 i).f0)), .int .i64 sh, .int .i64 s0, .int .i64 s1, .int .i64 s2, .int .i64 s3] 87 (0, 0))) := ⟨by rw [hx]; exact blk_put HD1.out 0 _ rfl⟩
         have HD00 : Aside0 (x0.heap[w.heap.size]? = some (.cells #[.int .i64 0, .int .i64 0, .int .i64 0, .int .i64 0, .int .i64 0, .int .i64 0] 87 (0, 0))) := ⟨by rw [hx]; exact blk_far HD0.out (p := ⟨w.heap.size + 1, 0, none⟩) (by simp) _⟩
         have HBx0 : Aside0 (Below w.heap.size w x0) := ⟨by rw [hx]; exact below_drew (Below.setCell HB1.out (Nat.le_succ _) _)⟩
         clear hx hx0 hx1 hx2 hx3 hd hf
         have HCx0 := a_ (Kd.C_below HR0.out HBx0.out)
         obtain ⟨adx0, e1, hx0, hx1, hx2, hx3⟩ := at_T38 HCx0.out i C6.out C5.out
         cases e1
         rw [o2] at hx3
         have hd : x0.cell? ⟨w.heap.size + 1, 1, none⟩ = some (.int .i64 sh) := (blk_cell HD10.out 1).trans rfl
         have hf := blk_frozen HD10.out 1
         skip
         go_still_tail 8, (by kernel_rfl)
         change wpList _ _ _ _ _ x0.drew
         go_wp2
         obtain ⟨x1, hx⟩ : ∃ x1, x1 = (x0.setCell ⟨w.heap.size + 1, 1, none⟩ (Value.int IntKind.i64 (wrap64 (sh + (rd_T38 l0 i).f2)))).drew := ⟨_, rfl⟩
         rw [← hx]
         have HD11 : Aside0 (x1.heap[w.heap.size + 1]? = some (.cells #[.int .i64 (wrap64 (wd + (rd_T38 l0 i).f0)), .int .i64 (wrap64 (sh + (rd_T38 l0 i).f2)), .int .i64 s0, .int .i64 s1, .int .i64 s2, .int .i64 s3] 87 (0, 0))) := ⟨by rw [hx]; exact blk_put HD10.out 1 _ rfl⟩
         have HD01 : Aside0 (x1.heap[w.heap.size]? = some (.cells #[.int .i64 0, .int .i64 0, .int .i64 0, .int .i64 0, .int .i64 0, .int .i64 0] 87 (0, 0))) := ⟨by rw [hx]; exact blk_far HD00.out (p := ⟨w.heap.size + 1, 1, none⟩) (by simp) _⟩
         have HBx1 : Aside0 (Below w.heap.size w x1) := ⟨by rw [hx]; exact below_drew (Below.setCell HBx0.out (Nat.le_succ _) _)⟩
         clear hx hx0 hx1 hx2 hx3 hd hf
         have HCx1 := a_ (Kd.C_below HR0.out HBx1.out)
         obtain ⟨adx1, e1, hx0, hx1, hx2, hx3⟩ := at_T38 HCx1.out i C6.out C5.out
         cases e1
         rw [o2] at hx3
         have hd : x1.cell? ⟨w.heap.size + 1, 4, none⟩ = some (.int .i64 s2) := (blk_cell HD11.out 4).trans rfl
         have hf := blk_frozen HD11.out 4
         skip
         have hbit : bits BinOp.and IntKind.i64 2 3 = 2 := by decide +kernel
         go_still_tail 16, (by kernel_rfl)
         change wpList _ _ _ _ _ x1.drew
         go_wp2
         go_roundg k1
         case measure => omega
         case rel => exact ⟨_, _, _, _, _, _, _, rfl, H', ⟨by have := HK1.out; omega⟩, ⟨blk_put HD11.out 4 _ rfl⟩, ⟨blk_far HD01.out (p := ⟨w.heap.size + 1, 4, none⟩) (by simp) _⟩, ⟨below_drew (Below.setCell HBx1.out (Nat.le_succ _) _)⟩⟩
        ·rw [if_neg o2] at H
         by_cases o3 : (rd_T38 l0 i).f3 = 3
         ·rw [if_pos o3] at H
          have H' := a_ H
          clear H
          have HC1 := a_ (Kd.C_below HR0.out HB1.out)
          obtain ⟨ad1, e1, hx0, hx1, hx2, hx3⟩ := at_T38 HC1.out i C6.out C5.out
          cases e1
          rw [o3] at hx3
          clear hd0 hd1 hd2 hd3 hd4 hd5 hf0 hf1 hf2 hf3 hf4 hf5
          have hd : wr.cell? ⟨w.heap.size + 1, 0, none⟩ = some (.int .i64 wd) := (blk_cell HD1.out 0).trans rfl
          have hf := blk_frozen HD1.out 0
          go_wp2
          go_still_tail 8, (by kernel_rfl)
          change wpList _ _ _ _ _ wr.drew
          go_wp2
          obtain ⟨x0, hx⟩ : ∃ x0, x0 = (wr.setCell ⟨w.heap.size + 1, 0, none⟩ (Value.int IntKind.i64 (wrap64 (wd + (rd_T38 l0 i).f0)))).drew := ⟨_, rfl⟩
          rw [← hx]
          have HD10 : Aside0 (x0.heap[w.heap.size + 1]? = some (.cells #[.int .i64 (wrap64 (wd + (rd_T38 l0 i).f0)), .int .i64 sh, .int .i64 s0, .int .i64 s1, .int .i64 s2, .int .i64 s3] 87 (0, 0))) := ⟨by rw [hx]; exact blk_put HD1.out 0 _ rfl⟩
          have HD00 : Aside0 (x0.heap[w.heap.size]? = some (.cells #[.int .i64 0, .int .i64 0, .int .i64 0, .int .i64 0, .int .i64 0, .int .i64 0] 87 (0, 0))) := ⟨by rw [hx]; exact blk_far HD0.out (p := ⟨w.heap.size + 1, 0, none⟩) (by simp) _⟩
          have HBx0 : Aside0 (Below w.heap.size w x0) := ⟨by rw [hx]; exact below_drew (Below.setCell HB1.out (Nat.le_succ _) _)⟩
          clear hx hx0 hx1 hx2 hx3 hd hf
          have HCx0 := a_ (Kd.C_below HR0.out HBx0.out)
          obtain ⟨adx0, e1, hx0, hx1, hx2, hx3⟩ := at_T38 HCx0.out i C6.out C5.out
          cases e1
          rw [o3] at hx3
          have hd : x0.cell? ⟨w.heap.size + 1, 1, none⟩ = some (.int .i64 sh) := (blk_cell HD10.out 1).trans rfl
          have hf := blk_frozen HD10.out 1
          skip
          go_still_tail 8, (by kernel_rfl)
          change wpList _ _ _ _ _ x0.drew
          go_wp2
          obtain ⟨x1, hx⟩ : ∃ x1, x1 = (x0.setCell ⟨w.heap.size + 1, 1, none⟩ (Value.int IntKind.i64 (wrap64 (sh + (rd_T38 l0 i).f2)))).drew := ⟨_, rfl⟩
          rw [← hx]
          have HD11 : Aside0 (x1.heap[w.heap.size + 1]? = some (.cells #[.int .i64 (wrap64 (wd + (rd_T38 l0 i).f0)), .int .i64 (wrap64 (sh + (rd_T38 l0 i).f2)), .int .i64 s0, .int .i64 s1, .int .i64 s2, .int .i64 s3] 87 (0, 0))) := ⟨by rw [hx]; exact blk_put HD10.out 1 _ rfl⟩
          have HD01 : Aside0 (x1.heap[w.heap.size]? = some (.cells #[.int .i64 0, .int .i64 0, .int .i64 0, .int .i64 0, .int .i64 0, .int .i64 0] 87 (0, 0))) := ⟨by rw [hx]; exact blk_far HD00.out (p := ⟨w.heap.size + 1, 1, none⟩) (by simp) _⟩
          have HBx1 : Aside0 (Below w.heap.size w x1) := ⟨by rw [hx]; exact below_drew (Below.setCell HBx0.out (Nat.le_succ _) _)⟩
          clear hx hx0 hx1 hx2 hx3 hd hf
          have HCx1 := a_ (Kd.C_below HR0.out HBx1.out)
          obtain ⟨adx1, e1, hx0, hx1, hx2, hx3⟩ := at_T38 HCx1.out i C6.out C5.out
          cases e1
          rw [o3] at hx3
          have hd : x1.cell? ⟨w.heap.size + 1, 5, none⟩ = some (.int .i64 s3) := (blk_cell HD11.out 5).trans rfl
          have hf := blk_frozen HD11.out 5
          skip
          have hbit : bits BinOp.and IntKind.i64 3 3 = 3 := by decide +kernel
          go_still_tail 16, (by kernel_rfl)
          change wpList _ _ _ _ _ x1.drew
          go_wp2
          go_roundg k1
          case measure => omega
          case rel => exact ⟨_, _, _, _, _, _, _, rfl, H', ⟨by have := HK1.out; omega⟩, ⟨blk_put HD11.out 5 _ rfl⟩, ⟨blk_far HD01.out (p := ⟨w.heap.size + 1, 5, none⟩) (by simp) _⟩, ⟨below_drew (Below.setCell HBx1.out (Nat.le_succ _) _)⟩⟩
         ·rw [if_neg o3] at H
          exact absurd H (by simp)
     ·rw [if_neg c6] at H
      exact absurd H (by simp)
    ·rw [if_neg c5] at H
     simp only [Option.some.injEq, Prod.mk.injEq] at H
     obtain ⟨rfl, rfl, rfl, rfl, rfl, rfl, rfl⟩ := H
     have c5b := decide_eq_false c5
     replace c5 := eq_false c5
     have hf0' := blk_frozen HD0.out 0
     have hf1' := blk_frozen HD0.out 1
     have hf2' := blk_frozen HD0.out 2
     have hf3' := blk_frozen HD0.out 3
     have hf4' := blk_frozen HD0.out 4
     have hf5' := blk_frozen HD0.out 5
     have he0 : wr.cell? ⟨w.heap.size, 0, none⟩ = some (.int .i64 0) := (blk_cell HD0.out 0).trans rfl
     have he1 : wr.cell? ⟨w.heap.size, 1, none⟩ = some (.int .i64 0) := (blk_cell HD0.out 1).trans rfl
     have he2 : wr.cell? ⟨w.heap.size, 2, none⟩ = some (.int .i64 0) := (blk_cell HD0.out 2).trans rfl
     have he3 : wr.cell? ⟨w.heap.size, 3, none⟩ = some (.int .i64 0) := (blk_cell HD0.out 3).trans rfl
     have he4 : wr.cell? ⟨w.heap.size, 4, none⟩ = some (.int .i64 0) := (blk_cell HD0.out 4).trans rfl
     have he5 : wr.cell? ⟨w.heap.size, 5, none⟩ = some (.int .i64 0) := (blk_cell HD0.out 5).trans rfl
     go_wp2
     refine bodyPost_ret (results_ct rfl _ _ w.heap.size 87 #[.int .i64 wd, .int .i64 sh, .int .i64 s0, .int .i64 s1, .int .i64 s2, .int .i64 s3] (0, 0) _ rfl (by
      refine blk_put (cs := #[.int .i64 wd, .int .i64 sh, .int .i64 s0, .int .i64 s1, .int .i64 s2, .int .i64 0]) ?_ 5 _ rfl; refine blk_put (cs := #[.int .i64 wd, .int .i64 sh, .int .i64 s0, .int .i64 s1, .int .i64 0, .int .i64 0]) ?_ 4 _ rfl; refine blk_put (cs := #[.int .i64 wd, .int .i64 sh, .int .i64 s0, .int .i64 0, .int .i64 0, .int .i64 0]) ?_ 3 _ rfl; refine blk_put (cs := #[.int .i64 wd, .int .i64 sh, .int .i64 0, .int .i64 0, .int .i64 0, .int .i64 0]) ?_ 2 _ rfl; refine blk_put (cs := #[.int .i64 wd, .int .i64 0, .int .i64 0, .int .i64 0, .int .i64 0, .int .i64 0]) ?_ 1 _ rfl; refine blk_put (cs := #[.int .i64 0, .int .i64 0, .int .i64 0, .int .i64 0, .int .i64 0, .int .i64 0]) ?_ 0 _ rfl; exact HD0.out) Try.underlying87 rfl (by kernel_rfl)) rfl ?_
     exact ⟨rfl, Below.setCell (Below.setCell (Below.setCell (Below.setCell (Below.setCell (Below.setCell (HB1.out) (Nat.le_refl _) _) (Nat.le_refl _) _) (Nat.le_refl _) _) (Nat.le_refl _) _) (Nat.le_refl _) _) (Nat.le_refl _) _⟩

/-! ### variorumref02_one: function 56 -/
def variorumref02_one.f (a0 : Int) (a1 : Bool) : Option (Int × Bool) := if a1 = true then ((variorumref02_Fits.f a0).bind fun t340 => (if t340 = true then (some (a0, true)) else (some (0, false)))) else (some (0, false))
set_option maxHeartbeats 8000000 in
set_option maxRecDepth 100000 in
theorem variorumref02_one.calls (a0 : Int) (a1 : Bool) (r1 : Int) (r2 : Bool) (w : World) (h : variorumref02_one.f a0 a1 = some (r1, r2)) :
  Calls Try.prog 56 #[.int .i64 a0, .bool a1] w fun e w' => e = .returned (.tuple #[.int .i64 r1, .bool r2]) ∧ Drawn0 w w' := by
 have H : (if a1 = true then ((variorumref02_Fits.f a0).bind fun t340 => (if t340 = true then (some (a0, true)) else (some (0, false)))) else (some (0, false))) = some (r1, r2) := h
 clear h
 by_cases c3 : a1 = true
 ·subst c3
  have H1 : ((variorumref02_Fits.f a0).bind fun t340 => (if t340 = true then (some (a0, true)) else (some (0, false)))) = some (r1, r2) := by rw [if_pos rfl] at H; exact H
  clear H
  have H := H1
  clear H1
  replace H := Option.bind_eq_some_iff.mp H
  obtain ⟨t340, A40, H⟩ := H
  replace H : (if t340 = true then (some (a0, true)) else (some (0, false))) = some (r1, r2) := H
  have A4 := a_ A40
  clear A40
  by_cases c5 : t340 = true
  ·subst c5
   have H1 : (some (a0, true)) = some (r1, r2) := by rw [if_pos rfl] at H; exact H
   clear H
   have H := H1
   clear H1
   simp only [Option.some.injEq, Prod.mk.injEq] at H
   obtain ⟨rfl, rfl⟩ := H
   go_enter Try.func56, Try.ntmps56
   go_wp2_with (first | (go_at_call 38; (with_reducible refine (variorumref02_Fits.calls a0 true _ A4.out).mono ?_); rintro e w' ⟨rfl, ⟨nd, rfl⟩⟩))
   go_ret2
   exact ⟨by first | rfl | (simp; done) | (simp [*]; done), by repeat (first | exact Drawn0.refl _ | apply Drawn0.step)⟩
  ·replace c5 := Bool.eq_false_iff.mpr c5
   subst c5
   have H1 : (some (0, false)) = some (r1, r2) := by rw [if_neg (show ¬ (false = true) by decide)] at H; exact H
   clear H
   have H := H1
   clear H1
   simp only [Option.some.injEq, Prod.mk.injEq] at H
   obtain ⟨rfl, rfl⟩ := H
   go_enter Try.func56, Try.ntmps56
   go_wp2_with (first | (go_at_call 38; (with_reducible refine (variorumref02_Fits.calls a0 false _ A4.out).mono ?_); rintro e w' ⟨rfl, ⟨nd, rfl⟩⟩))
   go_ret2
   exact ⟨by first | rfl | (simp; done) | (simp [*]; done), by repeat (first | exact Drawn0.refl _ | apply Drawn0.step)⟩
 ·replace c3 := Bool.eq_false_iff.mpr c3
  subst c3
  have H1 : (some (0, false)) = some (r1, r2) := by rw [if_neg (show ¬ (false = true) by decide)] at H; exact H
  clear H
  have H := H1
  clear H1
  simp only [Option.some.injEq, Prod.mk.injEq] at H
  obtain ⟨rfl, rfl⟩ := H
  go_enter Try.func56, Try.ntmps56
  go_wp2
  go_ret2
  exact ⟨by first | rfl | (simp; done) | (simp [*]; done), by repeat (first | exact Drawn0.refl _ | apply Drawn0.step)⟩

/-! ### variorumref02_Sub: function 48 -/
def variorumref02_Sub.f (a0 : Int) (a1 : Int) : Option (Int × Bool) := (variorumref02_Fits.f a0).bind fun t341 => (if t341 = true then ((variorumref02_Fits.f a1).bind fun t342 => ((variorumref02_one.f (wrap64 (a0 - a1)) t342).bind fun bt343 => (some (bt343.1, bt343.2)))) else ((variorumref02_one.f (wrap64 (a0 - a1)) false).bind fun bt345 => (some (bt345.1, bt345.2))))
set_option maxHeartbeats 8000000 in
set_option maxRecDepth 100000 in
theorem variorumref02_Sub.calls (a0 : Int) (a1 : Int) (r1 : Int) (r2 : Bool) (w : World) (h : variorumref02_Sub.f a0 a1 = some (r1, r2)) :
  Calls Try.prog 48 #[.int .i64 a0, .int .i64 a1] w fun e w' => e = .returned (.tuple #[.int .i64 r1, .bool r2]) ∧ Drawn0 w w' := by
 have H : ((variorumref02_Fits.f a0).bind fun t341 => (if t341 = true then ((variorumref02_Fits.f a1).bind fun t342 => ((variorumref02_one.f (wrap64 (a0 - a1)) t342).bind fun bt343 => (some (bt343.1, bt343.2)))) else ((variorumref02_one.f (wrap64 (a0 - a1)) false).bind fun bt345 => (some (bt345.1, bt345.2))))) = some (r1, r2) := h
 clear h
 replace H := Option.bind_eq_some_iff.mp H
 obtain ⟨t341, A30, H⟩ := H
 replace H : (if t341 = true then ((variorumref02_Fits.f a1).bind fun t342 => ((variorumref02_one.f (wrap64 (a0 - a1)) t342).bind fun bt343 => (some (bt343.1, bt343.2)))) else ((variorumref02_one.f (wrap64 (a0 - a1)) false).bind fun bt345 => (some (bt345.1, bt345.2)))) = some (r1, r2) := H
 have A3 := a_ A30
 clear A30
 by_cases c4 : t341 = true
 ·subst c4
  have H1 : ((variorumref02_Fits.f a1).bind fun t342 => ((variorumref02_one.f (wrap64 (a0 - a1)) t342).bind fun bt343 => (some (bt343.1, bt343.2)))) = some (r1, r2) := by rw [if_pos rfl] at H; exact H
  clear H
  have H := H1
  clear H1
  replace H := Option.bind_eq_some_iff.mp H
  obtain ⟨t342, A50, H⟩ := H
  replace H : ((variorumref02_one.f (wrap64 (a0 - a1)) t342).bind fun bt343 => (some (bt343.1, bt343.2))) = some (r1, r2) := H
  have A5 := a_ A50
  clear A50
  replace H := Option.bind_eq_some_iff.mp H
  obtain ⟨⟨t343, t344⟩, A60, H⟩ := H
  replace H : (some (t343, t344)) = some (r1, r2) := H
  have A6 := a_ A60
  clear A60
  simp only [Option.some.injEq, Prod.mk.injEq] at H
  obtain ⟨rfl, rfl⟩ := H
  go_enter Try.func48, Try.ntmps48
  go_wp2_with (first | ((with_reducible refine gate_callee (f := 38) rfl ?_); refine gl_ (some 10) Try.func38 (by kernel_rfl) #[.int .i64 a0] ?_; (with_reducible refine (variorumref02_Fits.calls a0 true _ A3.out).mono ?_); rintro e w' ⟨rfl, ⟨nd, rfl⟩⟩; refine ⟨_, rfl, ?_⟩) | (go_at_call 38; (with_reducible refine (variorumref02_Fits.calls a1 t342 _ A5.out).mono ?_); rintro e w' ⟨rfl, ⟨nd, rfl⟩⟩) | ((with_reducible refine gate_callee (f := 56) rfl ?_); refine gl_ (some 15) Try.func56 (by kernel_rfl) #[.int .i64 (wrap64 (a0 - a1)), .bool t342] ?_; (with_reducible refine (variorumref02_one.calls (wrap64 (a0 - a1)) t342 t343 t344 _ A6.out).mono ?_); rintro e w' ⟨rfl, ⟨nd, rfl⟩⟩; refine ⟨_, rfl, ?_⟩))
  go_ret2
  exact ⟨by first | rfl | (simp; done) | (simp [*]; done), by repeat (first | exact Drawn0.refl _ | apply Drawn0.step)⟩
 ·replace c4 := Bool.eq_false_iff.mpr c4
  subst c4
  have H1 : ((variorumref02_one.f (wrap64 (a0 - a1)) false).bind fun bt345 => (some (bt345.1, bt345.2))) = some (r1, r2) := by rw [if_neg (show ¬ (false = true) by decide)] at H; exact H
  clear H
  have H := H1
  clear H1
  replace H := Option.bind_eq_some_iff.mp H
  obtain ⟨⟨t345, t346⟩, A70, H⟩ := H
  replace H : (some (t345, t346)) = some (r1, r2) := H
  have A7 := a_ A70
  clear A70
  simp only [Option.some.injEq, Prod.mk.injEq] at H
  obtain ⟨rfl, rfl⟩ := H
  go_enter Try.func48, Try.ntmps48
  go_wp2_with (first | ((with_reducible refine gate_callee (f := 38) rfl ?_); refine gl_ (some 10) Try.func38 (by kernel_rfl) #[.int .i64 a0] ?_; (with_reducible refine (variorumref02_Fits.calls a0 false _ A3.out).mono ?_); rintro e w' ⟨rfl, ⟨nd, rfl⟩⟩; refine ⟨_, rfl, ?_⟩) | ((with_reducible refine gate_callee (f := 56) rfl ?_); refine gl_ (some 15) Try.func56 (by kernel_rfl) #[.int .i64 (wrap64 (a0 - a1)), .bool false] ?_; (with_reducible refine (variorumref02_one.calls (wrap64 (a0 - a1)) false t345 t346 _ A7.out).mono ?_); rintro e w' ⟨rfl, ⟨nd, rfl⟩⟩; refine ⟨_, rfl, ?_⟩))
  go_ret2
  exact ⟨by first | rfl | (simp; done) | (simp [*]; done), by repeat (first | exact Drawn0.refl _ | apply Drawn0.step)⟩

/-! ### variorumref03_Badness: function 49 -/
mutual
def variorumref03_Badness.j0 : Nat → Int → Int → Bool → Option (Int)
 | 0, _, _, _ => none
 | k + 1, x0, x1, x21 => if x21 = true then (some (-1)) else (if x0 = 0 then (some 0) else (if x1 = 0 then (some 10000) else (if x0 ≤ 7230584 then (variorumref03_Badness.j1 k x0 x1 (wrap64 (Int.tdiv (wrap64 (297 * x0)) x1))) else (variorumref03_Badness.j1 k x0 x1 x0))))
def variorumref03_Badness.j1 : Nat → Int → Int → Int → Option (Int)
 | 0, _, _, _ => none
 | k + 1, x0, x1, x5 => if x0 > 7230584 then (variorumref03_Badness.j2 k x0 x1 x5 (decide (x1 ≥ 1663497))) else (variorumref03_Badness.j2 k x0 x1 x5 false)
def variorumref03_Badness.j2 : Nat → Int → Int → Int → Bool → Option (Int)
 | 0, _, _, _, _ => none
 | k + 1, x0, x1, x5, x38 => if x38 = true then (if (wrap64 (Int.tdiv x1 297)) = 0 then (none) else (if (wrap64 (Int.tdiv x0 (wrap64 (Int.tdiv x1 297)))) > 1290 then (some 10000) else (some (wrap64 (Int.tdiv (wrap64 ((wrap64 ((wrap64 ((wrap64 (Int.tdiv x0 (wrap64 (Int.tdiv x1 297)))) * (wrap64 (Int.tdiv x0 (wrap64 (Int.tdiv x1 297)))))) * (wrap64 (Int.tdiv x0 (wrap64 (Int.tdiv x1 297)))))) + 131072)) 262144))))) else (if x5 > 1290 then (some 10000) else (some (wrap64 (Int.tdiv (wrap64 ((wrap64 ((wrap64 (x5 * x5)) * x5)) + 131072)) 262144))))
end
def variorumref03_Badness.f (k : Nat) (a0 : Int) (a1 : Int) : Option (Int) := if a0 < 0 then (variorumref03_Badness.j0 k a0 a1 true) else (if a1 < 0 then (variorumref03_Badness.j0 k a0 a1 true) else ((variorumref02_Most.f).bind fun t347 => (if a0 > t347 then (variorumref03_Badness.j0 k a0 a1 true) else ((variorumref02_Most.f).bind fun t348 => (variorumref03_Badness.j0 k a0 a1 (decide (a1 > t348)))))))
theorem variorumref03_Badness.mono_l : ∀ k, (∀ y0 y1 y2, LeO (variorumref03_Badness.j0 k y0 y1 y2) (variorumref03_Badness.j0 (k + 1) y0 y1 y2)) ∧ (∀ y0 y1 y2, LeO (variorumref03_Badness.j1 k y0 y1 y2) (variorumref03_Badness.j1 (k + 1) y0 y1 y2)) ∧ (∀ y0 y1 y2 y3, LeO (variorumref03_Badness.j2 k y0 y1 y2 y3) (variorumref03_Badness.j2 (k + 1) y0 y1 y2 y3))
 | 0 => ⟨fun _ _ _ r h => by simp [variorumref03_Badness.j0] at h, fun _ _ _ r h => by simp [variorumref03_Badness.j1] at h, fun _ _ _ _ r h => by simp [variorumref03_Badness.j2] at h⟩
 | k + 1 => by
  obtain ⟨ih0, ih1, ih2⟩ := variorumref03_Badness.mono_l k
  refine ⟨?_, ?_, ?_⟩
  ·intro y0 y1 y2
   unfold variorumref03_Badness.j0
   repeat' first | (with_reducible first | exact ih0 _ _ _ | exact ih1 _ _ _ | exact ih2 _ _ _ _ | exact LeO.refl _ | exact LeO.none _ | refine LeO.ite ?_ ?_ | refine LeO.bind ?_ (fun _ => ?_)) | exact LeO.none _ | refine LeO.ite ?_ ?_ | refine LeO.bind ?_ (fun _ => ?_)
  ·intro y0 y1 y2
   unfold variorumref03_Badness.j1
   repeat' first | (with_reducible first | exact ih0 _ _ _ | exact ih1 _ _ _ | exact ih2 _ _ _ _ | exact LeO.refl _ | exact LeO.none _ | refine LeO.ite ?_ ?_ | refine LeO.bind ?_ (fun _ => ?_)) | exact LeO.none _ | refine LeO.ite ?_ ?_ | refine LeO.bind ?_ (fun _ => ?_)
  ·intro y0 y1 y2 y3
   unfold variorumref03_Badness.j2
   repeat' first | (with_reducible first | exact ih0 _ _ _ | exact ih1 _ _ _ | exact ih2 _ _ _ _ | exact LeO.refl _ | exact LeO.none _ | refine LeO.ite ?_ ?_ | refine LeO.bind ?_ (fun _ => ?_)) | exact LeO.none _ | refine LeO.ite ?_ ?_ | refine LeO.bind ?_ (fun _ => ?_)
theorem variorumref03_Badness.mono : ∀ a0 a1 k, LeO (variorumref03_Badness.f k a0 a1) (variorumref03_Badness.f (k + 1) a0 a1) := by
 intro a0 a1 k
 obtain ⟨ih0, ih1, ih2⟩ := variorumref03_Badness.mono_l k
 unfold variorumref03_Badness.f
 repeat' first
   | (with_reducible exact ih0 _ _ _)
   | (with_reducible exact ih1 _ _ _)
   | (with_reducible exact ih2 _ _ _ _)
   | (with_reducible exact LeO.refl _)
   | (with_reducible exact LeO.none _)
   | (with_reducible refine LeO.ite ?_ ?_)
   | (with_reducible refine LeO.bind ?_ (fun _ => ?_))
   | exact ih0 _ _ _
   | exact ih1 _ _ _
   | exact ih2 _ _ _ _
   | exact LeO.none _
   | refine LeO.ite ?_ ?_
   | refine LeO.bind ?_ (fun _ => ?_)
set_option maxHeartbeats 8000000 in
set_option maxRecDepth 100000 in
theorem variorumref03_Badness.calls (k : Nat) (a0 : Int) (a1 : Int) (r : Int) (w : World) (h : variorumref03_Badness.f k a0 a1 = some r) :
  Calls Try.prog 49 #[.int .i64 a0, .int .i64 a1] w fun e w' => e = .returned (.int .i64 r) ∧ Drawn0 w w' := by
 have H : (if a0 < 0 then (variorumref03_Badness.j0 k a0 a1 true) else (if a1 < 0 then (variorumref03_Badness.j0 k a0 a1 true) else ((variorumref02_Most.f).bind fun t347 => (if a0 > t347 then (variorumref03_Badness.j0 k a0 a1 true) else ((variorumref02_Most.f).bind fun t348 => (variorumref03_Badness.j0 k a0 a1 (decide (a1 > t348)))))))) = some r := h
 clear h
 have HC3 := a_ H
 clear H
 go_enter Try.func49, Try.ntmps49
 go_upto_region 1 with (fail)
 go_cut [21] (fun v21 wc => ∃ (kq : Nat) (x21_2 : Bool), v21 = .bool x21_2 ∧ Aside0 (variorumref03_Badness.j0 kq a0 a1 x21_2 = some r) ∧ Aside0 (kq ≤ k) ∧ Drawn0 w wc)
 case first =>
  have H := HC3.out
  clear HC3
  by_cases c4 : a0 < 0
  ·rw [if_pos c4] at H
   have c4b0 : decide (a0 < 0) = true := decide_eq_true c4
   clear c4
   (first | rw [c4b0] | (simp only [i64_w, i32_w]; rw [c4b0]) | skip)
   have H' := a_ H
   clear H
   go_wp2
   go_meet
   case rel => exact ⟨_, (true), (by first | rfl | (simp; done) | (simp [*]; done)), H', ⟨by first | omega | exact Nat.le_refl _⟩, by repeat (first | exact Drawn0.refl _ | apply Drawn0.step)⟩
  ·rw [if_neg c4] at H
   have c4b0 : decide (a0 < 0) = false := decide_eq_false c4
   clear c4
   (first | rw [c4b0] | (simp only [i64_w, i32_w]; rw [c4b0]) | skip)
   by_cases c5 : a1 < 0
   ·rw [if_pos c5] at H
    have c5b0 : decide (a1 < 0) = true := decide_eq_true c5
    clear c5
    have H' := a_ H
    clear H
    go_wp2
    go_meet
    case rel => exact ⟨_, (true), (by first | rfl | (simp; done) | (simp [*]; done)), H', ⟨by first | omega | exact Nat.le_refl _⟩, by repeat (first | exact Drawn0.refl _ | apply Drawn0.step)⟩
   ·rw [if_neg c5] at H
    have c5b0 : decide (a1 < 0) = false := decide_eq_false c5
    clear c5
    replace H := Option.bind_eq_some_iff.mp H
    obtain ⟨t347, A60, H⟩ := H
    replace H : (if a0 > t347 then (variorumref03_Badness.j0 k a0 a1 true) else ((variorumref02_Most.f).bind fun t348 => (variorumref03_Badness.j0 k a0 a1 (decide (a1 > t348))))) = some r := H
    have A6 := a_ A60
    clear A60
    by_cases c7 : a0 > t347
    ·rw [if_pos c7] at H
     have c7b0 : decide (t347 < a0) = true := decide_eq_true c7
     clear c7
     have H' := a_ H
     clear H
     go_wp2_with (first | (go_at_call 51; (with_reducible refine (variorumref02_Most.calls  t347 _ A6.out).mono ?_); rintro e w' ⟨rfl, ⟨nd, rfl⟩⟩; clear A6))
     go_meet
     case rel => exact ⟨_, (true), (by first | rfl | (simp; done) | (simp [*]; done)), H', ⟨by first | omega | exact Nat.le_refl _⟩, by repeat (first | exact Drawn0.refl _ | apply Drawn0.step)⟩
    ·rw [if_neg c7] at H
     have c7b0 : decide (t347 < a0) = false := decide_eq_false c7
     clear c7
     replace H := Option.bind_eq_some_iff.mp H
     obtain ⟨t348, A80, H⟩ := H
     replace H : (variorumref03_Badness.j0 k a0 a1 (decide (a1 > t348))) = some r := H
     have A8 := a_ A80
     clear A80
     have H' := a_ H
     clear H
     go_wp2_with (first | (go_at_call 51; (with_reducible refine (variorumref02_Most.calls  t347 _ A6.out).mono ?_); rintro e w' ⟨rfl, ⟨nd, rfl⟩⟩; clear A6) | (go_at_call 51; (with_reducible refine (variorumref02_Most.calls  t348 _ A8.out).mono ?_); rintro e w' ⟨rfl, ⟨nd, rfl⟩⟩; clear A8))
     go_meet
     case rel => exact ⟨_, (decide (a1 > t348)), (by first | rfl | (simp; done) | (simp [*]; done)), H', ⟨by first | omega | exact Nat.le_refl _⟩, by repeat (first | exact Drawn0.refl _ | apply Drawn0.step)⟩
 case rest =>
  clear HC3
  try clear p2
  try clear c4
  try clear c4b0
  try clear c5
  try clear c5b0
  try clear c7
  try clear c7b0
  obtain ⟨kq, x21_2, rfl, HA, HJ2, ⟨mc2, rfl⟩⟩ := hcut
  cases kq with
  | zero => exact absurd HA.out (by simp [variorumref03_Badness.j0])
  | succ kj2 =>
   have H := HA.out
   clear HA
   simp only [variorumref03_Badness.j0] at H
   by_cases c9 : x21_2 = true
   ·subst c9
    have H1 : (some (-1)) = some r := by rw [if_pos rfl] at H; exact H
    clear H
    have H := H1
    clear H1
    obtain rfl := Option.some.inj H
    go_wp2
    go_ret
    exact ⟨by first | rfl | (simp; done) | (simp [*]; done), by repeat (first | exact Drawn0.refl _ | apply Drawn0.step)⟩
   ·replace c9 := Bool.eq_false_iff.mpr c9
    subst c9
    have H1 : (if a0 = 0 then (some 0) else (if a1 = 0 then (some 10000) else (if a0 ≤ 7230584 then (variorumref03_Badness.j1 kj2 a0 a1 (wrap64 (Int.tdiv (wrap64 (297 * a0)) a1))) else (variorumref03_Badness.j1 kj2 a0 a1 a0)))) = some r := by rw [if_neg (show ¬ (false = true) by decide)] at H; exact H
    clear H
    have H := H1
    clear H1
    by_cases c10 : a0 = 0
    ·rw [if_pos c10] at H
     have c10b0 : (a0 == 0) = true := beq_iff_eq.mpr c10
     have c10b1 : (a0 != 0) = false := bne_eq_false_iff_eq.mpr c10
     clear c10
     obtain rfl := Option.some.inj H
     go_wp2
     go_ret
     exact ⟨by first | rfl | (simp; done) | (simp [*]; done), by repeat (first | exact Drawn0.refl _ | apply Drawn0.step)⟩
    ·rw [if_neg c10] at H
     have c10b0 : (a0 == 0) = false := beq_eq_false_iff_ne.mpr c10
     have c10b1 : (a0 != 0) = true := bne_iff_ne.mpr c10
     by_cases c11 : a1 = 0
     ·rw [if_pos c11] at H
      have c11b0 : (a1 == 0) = true := beq_iff_eq.mpr c11
      have c11b1 : (a1 != 0) = false := bne_eq_false_iff_eq.mpr c11
      clear c11
      obtain rfl := Option.some.inj H
      go_wp2
      go_ret
      exact ⟨by first | rfl | (simp; done) | (simp [*]; done), by repeat (first | exact Drawn0.refl _ | apply Drawn0.step)⟩
     ·rw [if_neg c11] at H
      have c11b0 : (a1 == 0) = false := beq_eq_false_iff_ne.mpr c11
      have c11b1 : (a1 != 0) = true := bne_iff_ne.mpr c11
      have HC12 := a_ H
      clear H
      go_upto_if 28 with (fail)
      go_cut [5] (fun v5 wc => ∃ (kq : Nat) (x5_11 : Int), v5 = .int .i64 x5_11 ∧ Aside0 (variorumref03_Badness.j1 kq a0 a1 x5_11 = some r) ∧ Aside0 (kq ≤ kj2) ∧ Drawn0 w wc)
      case first =>
       have H := HC12.out
       clear HC12
       by_cases c13 : a0 ≤ 7230584
       ·rw [if_pos c13] at H
        have c13b0 : decide (a0 ≤ 7230584) = true := decide_eq_true c13
        clear c13
        (first | rw [c13b0] | (simp only [i64_w, i32_w]; rw [c13b0]) | skip)
        have H' := a_ H
        clear H
        go_wp2
        go_meet
        case rel => exact ⟨_, (wrap64 (Int.tdiv (wrap64 (297 * a0)) a1)), (by first | rfl | (simp; done) | (simp [*]; done)), H', ⟨by have := HJ2.out; first | omega | exact Nat.le_refl _⟩, by repeat (first | exact Drawn0.refl _ | apply Drawn0.step)⟩
       ·rw [if_neg c13] at H
        have c13b0 : decide (a0 ≤ 7230584) = false := decide_eq_false c13
        clear c13
        (first | rw [c13b0] | (simp only [i64_w, i32_w]; rw [c13b0]) | skip)
        have H' := a_ H
        clear H
        go_wp2
        go_meet
        case rel => exact ⟨_, (a0), (by first | rfl | (simp; done) | (simp [*]; done)), H', ⟨by have := HJ2.out; first | omega | exact Nat.le_refl _⟩, by repeat (first | exact Drawn0.refl _ | apply Drawn0.step)⟩
      case rest =>
       clear HC12
       try clear c1
       try clear c2
       try clear p2
       try clear c4
       try clear c4b0
       try clear c5
       try clear c5b0
       try clear p6
       try clear c7
       try clear c7b0
       try clear c9
       try clear c10
       try clear c10b0
       try clear c10b1
       try clear c11
       try clear c11b0
       try clear c11b1
       try clear c13
       try clear c13b0
       try clear p2
       obtain ⟨kq, x5_11, rfl, HA, HJ11, ⟨mc11, rfl⟩⟩ := hcut
       cases kq with
       | zero => exact absurd HA.out (by simp [variorumref03_Badness.j1])
       | succ kj11 =>
        have H := HA.out
        clear HA
        simp only [variorumref03_Badness.j1] at H
        have HC14 := a_ H
        clear H
        go_upto_region 10 with (fail)
        go_cut [38] (fun v38 wc => ∃ (kq : Nat) (x38_13 : Bool), v38 = .bool x38_13 ∧ Aside0 (variorumref03_Badness.j2 kq a0 a1 x5_11 x38_13 = some r) ∧ Aside0 (kq ≤ kj11) ∧ Drawn0 w wc)
        case first =>
         have H := HC14.out
         clear HC14
         by_cases c15 : a0 > 7230584
         ·rw [if_pos c15] at H
          have c15b0 : decide (7230584 < a0) = true := decide_eq_true c15
          clear c15
          (first | rw [c15b0] | (simp only [i64_w, i32_w]; rw [c15b0]) | skip)
          have H' := a_ H
          clear H
          go_wp2
          go_meet
          case rel => exact ⟨_, (decide (a1 ≥ 1663497)), (by first | rfl | (simp; done) | (simp [*]; done)), H', ⟨by have := HJ2.out; have := HJ11.out; first | omega | exact Nat.le_refl _⟩, by repeat (first | exact Drawn0.refl _ | apply Drawn0.step)⟩
         ·rw [if_neg c15] at H
          have c15b0 : decide (7230584 < a0) = false := decide_eq_false c15
          clear c15
          (first | rw [c15b0] | (simp only [i64_w, i32_w]; rw [c15b0]) | skip)
          have H' := a_ H
          clear H
          go_wp2
          go_meet
          case rel => exact ⟨_, (false), (by first | rfl | (simp; done) | (simp [*]; done)), H', ⟨by have := HJ2.out; have := HJ11.out; first | omega | exact Nat.le_refl _⟩, by repeat (first | exact Drawn0.refl _ | apply Drawn0.step)⟩
        case rest =>
         clear HC14
         try clear c1
         try clear c2
         try clear p2
         try clear c4
         try clear c4b0
         try clear c5
         try clear c5b0
         try clear p6
         try clear c7
         try clear c7b0
         try clear c9
         try clear c10
         try clear c10b0
         try clear c10b1
         try clear c11
         try clear c11b0
         try clear c11b1
         try clear c13
         try clear c13b0
         try clear c15
         try clear c15b0
         try clear p2
         try clear p6
         obtain ⟨kq, x38_13, rfl, HA, HJ13, ⟨mc13, rfl⟩⟩ := hcut
         cases kq with
         | zero => exact absurd HA.out (by simp [variorumref03_Badness.j2])
         | succ kj13 =>
          have H := HA.out
          clear HA
          simp only [variorumref03_Badness.j2] at H
          by_cases c16 : x38_13 = true
          ·subst c16
           have H1 : (if (wrap64 (Int.tdiv a1 297)) = 0 then (none) else (if (wrap64 (Int.tdiv a0 (wrap64 (Int.tdiv a1 297)))) > 1290 then (some 10000) else (some (wrap64 (Int.tdiv (wrap64 ((wrap64 ((wrap64 ((wrap64 (Int.tdiv a0 (wrap64 (Int.tdiv a1 297)))) * (wrap64 (Int.tdiv a0 (wrap64 (Int.tdiv a1 297)))))) * (wrap64 (Int.tdiv a0 (wrap64 (Int.tdiv a1 297)))))) + 131072)) 262144))))) = some r := by rw [if_pos rfl] at H; exact H
           clear H
           have H := H1
           clear H1
           by_cases c17 : (wrap64 (Int.tdiv a1 297)) = 0
           ·rw [if_pos c17] at H
            exact absurd H (by simp)
           ·rw [if_neg c17] at H
            have c17b0 : ((wrap64 (Int.tdiv a1 297)) == 0) = false := beq_eq_false_iff_ne.mpr c17
            have c17b1 : ((wrap64 (Int.tdiv a1 297)) != 0) = true := bne_iff_ne.mpr c17
            by_cases c18 : (wrap64 (Int.tdiv a0 (wrap64 (Int.tdiv a1 297)))) > 1290
            ·rw [if_pos c18] at H
             have c18b0 : decide (1290 < (wrap64 (Int.tdiv a0 (wrap64 (Int.tdiv a1 297))))) = true := decide_eq_true c18
             clear c18
             obtain rfl := Option.some.inj H
             go_wp2
             go_ret
             exact ⟨by first | rfl | (simp; done) | (simp [*]; done), by repeat (first | exact Drawn0.refl _ | apply Drawn0.step)⟩
            ·rw [if_neg c18] at H
             have c18b0 : decide (1290 < (wrap64 (Int.tdiv a0 (wrap64 (Int.tdiv a1 297))))) = false := decide_eq_false c18
             clear c18
             obtain rfl := Option.some.inj H
             go_wp2
             go_ret
             exact ⟨by first | rfl | (simp; done) | (simp [*]; done), by repeat (first | exact Drawn0.refl _ | apply Drawn0.step)⟩
          ·replace c16 := Bool.eq_false_iff.mpr c16
           subst c16
           have H1 : (if x5_11 > 1290 then (some 10000) else (some (wrap64 (Int.tdiv (wrap64 ((wrap64 ((wrap64 (x5_11 * x5_11)) * x5_11)) + 131072)) 262144)))) = some r := by rw [if_neg (show ¬ (false = true) by decide)] at H; exact H
           clear H
           have H := H1
           clear H1
           by_cases c19 : x5_11 > 1290
           ·rw [if_pos c19] at H
            have c19b0 : decide (1290 < x5_11) = true := decide_eq_true c19
            clear c19
            obtain rfl := Option.some.inj H
            go_wp2
            go_ret
            exact ⟨by first | rfl | (simp; done) | (simp [*]; done), by repeat (first | exact Drawn0.refl _ | apply Drawn0.step)⟩
           ·rw [if_neg c19] at H
            have c19b0 : decide (1290 < x5_11) = false := decide_eq_false c19
            clear c19
            obtain rfl := Option.some.inj H
            go_wp2
            go_ret
            exact ⟨by first | rfl | (simp; done) | (simp [*]; done), by repeat (first | exact Drawn0.refl _ | apply Drawn0.step)⟩

end Go.Proofs.Ytpfnfofaajpdmaa.PWi

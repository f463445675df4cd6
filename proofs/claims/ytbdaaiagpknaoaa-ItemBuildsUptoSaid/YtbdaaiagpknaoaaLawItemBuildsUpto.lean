/- ItemBuilds: for every input the law returns true, and each argument reads afterwards as it read before. Its condition is the given one: what comes in is of bulk at most 1048576. -/
import Derived.Test.YtbdaaiagpknaoaaRows
import Derived.Test.YtbdaaiagpknaoaaPUbx12
import Derived.Test.YtbdaaiagpknaoaaPureItemBuilds
import Derived.WalkKit
import Derived.ProofKit
import Derived.OpenShut
import Derived.ShutString
import Derived.ChangeOld
import Derived.Below
import Derived.SizedLaws
import Derived.Test.YtbdaaiagpknaoaaOpen
import Derived.Test.YtbdaaiagpknaoaaOpenB
import Derived.Deep.CondSized
namespace Go.Proofs.Ytbdaaiagpknaoaa.itemBuilds
open Go.ChangeShapes Go.WideShapes Go.ChangeAt Go.RowKit Go.Proofs.Ytbdaaiagpknaoaa.PUb Go.Proofs.YtbdaaiagpknaoaaW.PrintWords
open Go.ChangeMaps (open_string shut_string)
set_option linter.unusedVariables false
theorem own : ownKnob Try.prog.godebug = none := by kernel_rfl
theorem laidOut : laidOutB Try.prog = true := by kernel_rfl
set_option maxRecDepth 100000 in
theorem lifted (os : Os) (started : os.Started) (H : Type) (enc : TypeId × Value → H) (F : Stop.Interp) :
    ReturnsInHanded {} Try.checked os 3 .any ((Rows.OpenSpec.upto Rows.itemBuildsSpec).pre6 enc Try.prog Try.f3 Rows.itemBuildsUptoRow.domain false) (((Rows.OpenSpec.upto Rows.itemBuildsSpec).at F).post enc Try.prog Try.f3 false true false false) := by
  refine returnsInHanded_of_cond_sized (C := Try.checked) (s := (Rows.OpenSpec.upto Rows.itemBuildsSpec)) (k := Rows.uptoSmall) rfl own started (by kernel_rfl) Try.func3
    (OpenSpec.witness (enc := enc) (C := Try.checked) (s := (Rows.OpenSpec.upto Rows.itemBuildsSpec)) (k := Rows.uptoSmall) rfl false ⟨#[], #[(.agg #[(.int .i64 0), (.int .i64 0), (.int .i64 0), (.int .i64 0), (.int .i32 0), (.slice none 0 0), (.slice none 0 0), (.slice none 0 0)]), .int .i64 0, .slice none 0 0], []⟩ 8 (by kernel_rfl) (by kernel_rfl) (by kernel_rfl) (by kernel_rfl) (x := ([.agg [.agg [.lit (.int .i64 0), .lit (.int .i64 0), .lit (.int .i64 0), .lit (.int .i64 0)], .lit (.int .i32 0), .nil, .nil, .nil], .lit (.int .i64 0), .nil], [], [])) (by kernel_rfl) rfl (by kernel_rfl)) ?_
  intro W base args ds gs before hval0 hW hcnd hk0 hsz0 _
  have hbk : Rows.uptoBulkAll (ds ++ gs) ≤ 1048576 := of_decide_eq_true hk0
  have hsz : (DataW.weightsEach Try.prog (Try.f3.params.toList ++ Rows.itemBuildsSpec.plain.varTypes Try.prog) (ds ++ gs)).all (· ≤ reachBytes) = true := hsz0
  have hval : ∀ (j : Nat) t v, Try.f3.params[j]? = some t → args[j]? = some v → Value.okWide Try.prog W .any base t v := hval0
  have hW' := hW
  obtain ⟨p, q, hA0, hV, rfl, hfz, hnd⟩ := hW
  have hA : DataW.TrodAll enc Try.prog W 0 (fun _ => true) true Try.f3.params.toList args.toList ds p := hA0
  rw [Try.params3] at hA hval hsz
  obtain ⟨v0, vs0, d0, ds0, p0, q0, hargs, rfl, rfl, h0, r0⟩ := trodAll_cons hA
  obtain ⟨v1, vs1, d1, ds1, p1, q1, rfl, rfl, rfl, h1, r1⟩ := trodAll_cons r0
  obtain ⟨v2, vs2, d2, ds2, p2, q2, rfl, rfl, rfl, h2, r2⟩ := trodAll_cons r1
  obtain ⟨rfl, rfl, rfl⟩ := trodAll_nil r2
  obtain rfl : args = #[v0, v1, v2] := by cases args; simp_all
  obtain ⟨rfl, rfl⟩ := trodVars_none hV
  have k0 := h0
  have lt0 : ∀ x ∈ p0, x.block < W.heap.size := by obtain ⟨m, hm⟩ := k0; exact DataW.trod_lt m _ _ _ hm
  obtain ⟨⟨cs0⟩, rfl, _⟩ := okWide_struct Try.underlying28 (hval 0 28 v0 rfl rfl)
  obtain ⟨x0, K0, w0, b0⟩ := (Go.Proofs.Ytbdaaiagpknaoaa.OpenB.opens_struct (fun x : S28 => (x.f0, x.f1, x.f2, x.f3, x.f4)) (fun a => (⟨a.1, a.2.1, a.2.2.1, a.2.2.2.1, a.2.2.2.2⟩ : S28)) (fun _ => rfl) Try.underlying28 (by kernel_rfl) (Go.Proofs.Ytbdaaiagpknaoaa.OpenB.opensL_cons rfl (Go.Proofs.Ytbdaaiagpknaoaa.OpenB.ofOpens (Go.Proofs.Ytbdaaiagpknaoaa.Open.opens_struct (fun x : S23 => (x.f0, x.f1, x.f2, x.f3)) (fun a => (⟨a.1, a.2.1, a.2.2.1, a.2.2.2⟩ : S23)) (fun _ => rfl) Try.underlying23 (by kernel_rfl) (Go.Proofs.Ytbdaaiagpknaoaa.Open.opensL_cons rfl (Go.Proofs.Ytbdaaiagpknaoaa.Open.opens_int Try.underlying2 (by kernel_rfl)) (Go.Proofs.Ytbdaaiagpknaoaa.Open.opensL_cons rfl (Go.Proofs.Ytbdaaiagpknaoaa.Open.opens_int Try.underlying2 (by kernel_rfl)) (Go.Proofs.Ytbdaaiagpknaoaa.Open.opensL_cons rfl (Go.Proofs.Ytbdaaiagpknaoaa.Open.opens_int Try.underlying2 (by kernel_rfl)) (Go.Proofs.Ytbdaaiagpknaoaa.Open.opensL_one rfl (Go.Proofs.Ytbdaaiagpknaoaa.Open.opens_int Try.underlying3 (by kernel_rfl)))))))) (Go.Proofs.Ytbdaaiagpknaoaa.OpenB.opensL_cons rfl (Go.Proofs.Ytbdaaiagpknaoaa.OpenB.ofOpens (Go.Proofs.Ytbdaaiagpknaoaa.Open.opens_int Try.underlying21 (by kernel_rfl))) (Go.Proofs.Ytbdaaiagpknaoaa.OpenB.opensL_cons rfl (Go.Proofs.Ytbdaaiagpknaoaa.OpenB.opens_slice Try.underlying24 (by kernel_rfl) (by kernel_rfl) (Go.Proofs.Ytbdaaiagpknaoaa.OpenB.ofOpens (Go.Proofs.Ytbdaaiagpknaoaa.Open.opens_struct (fun x : S85 => (x.f0, x.f1, x.f2, x.f3)) (fun a => (⟨a.1, a.2.1, a.2.2.1, a.2.2.2⟩ : S85)) (fun _ => rfl) Try.underlying85 (by kernel_rfl) (Go.Proofs.Ytbdaaiagpknaoaa.Open.opensL_cons rfl (Go.Proofs.Ytbdaaiagpknaoaa.Open.opens_int Try.underlying21 (by kernel_rfl)) (Go.Proofs.Ytbdaaiagpknaoaa.Open.opensL_cons rfl (Go.Proofs.Ytbdaaiagpknaoaa.Open.opens_int Try.underlying2 (by kernel_rfl)) (Go.Proofs.Ytbdaaiagpknaoaa.Open.opensL_cons rfl (Go.Proofs.Ytbdaaiagpknaoaa.Open.opens_int Try.underlying2 (by kernel_rfl)) (Go.Proofs.Ytbdaaiagpknaoaa.Open.opensL_one rfl (Go.Proofs.Ytbdaaiagpknaoaa.Open.opens_int Try.underlying2 (by kernel_rfl))))))))) (Go.Proofs.Ytbdaaiagpknaoaa.OpenB.opensL_cons rfl (Go.Proofs.Ytbdaaiagpknaoaa.OpenB.opens_slice Try.underlying25 (by kernel_rfl) (by kernel_rfl) (Go.Proofs.Ytbdaaiagpknaoaa.OpenB.ofOpens (Go.Proofs.Ytbdaaiagpknaoaa.Open.opens_struct (fun x : S87 => (x.f0, x.f1, x.f2)) (fun a => (⟨a.1, a.2.1, a.2.2⟩ : S87)) (fun _ => rfl) Try.underlying87 (by kernel_rfl) (Go.Proofs.Ytbdaaiagpknaoaa.Open.opensL_cons rfl (Go.Proofs.Ytbdaaiagpknaoaa.Open.opens_int Try.underlying21 (by kernel_rfl)) (Go.Proofs.Ytbdaaiagpknaoaa.Open.opensL_cons rfl (Go.Proofs.Ytbdaaiagpknaoaa.Open.opens_int Try.underlying21 (by kernel_rfl)) (Go.Proofs.Ytbdaaiagpknaoaa.Open.opensL_one rfl (Go.Proofs.Ytbdaaiagpknaoaa.Open.opens_int Try.underlying2 (by kernel_rfl)))))))) (Go.Proofs.Ytbdaaiagpknaoaa.OpenB.opensL_one rfl (Go.Proofs.Ytbdaaiagpknaoaa.OpenB.opens_slice Try.underlying26 (by kernel_rfl) (by kernel_rfl) (Go.Proofs.Ytbdaaiagpknaoaa.OpenB.ofOpens (Go.Proofs.Ytbdaaiagpknaoaa.Open.opens_struct (fun x : S89 => (x.f0, x.f1, x.f2)) (fun a => (⟨a.1, a.2.1, a.2.2⟩ : S89)) (fun _ => rfl) Try.underlying89 (by kernel_rfl) (Go.Proofs.Ytbdaaiagpknaoaa.Open.opensL_cons rfl (Go.Proofs.Ytbdaaiagpknaoaa.Open.opens_int Try.underlying21 (by kernel_rfl)) (Go.Proofs.Ytbdaaiagpknaoaa.Open.opensL_cons rfl (Go.Proofs.Ytbdaaiagpknaoaa.Open.opens_int Try.underlying21 (by kernel_rfl)) (Go.Proofs.Ytbdaaiagpknaoaa.Open.opensL_one rfl (Go.Proofs.Ytbdaaiagpknaoaa.Open.opens_int Try.underlying21 (by kernel_rfl)))))))))))))).arg h0 hsz (j := 0) rfl rfl
  obtain ⟨_, _, rfl, ⟨_, _, rfl, rfl, ⟨_, _, rfl, rfl, ⟨_, _, rfl, rfl, rfl⟩⟩⟩, ⟨_, _, rfl, rfl, ⟨_, _, rfl, ⟨A0_1, c0_1, rfl, hl0_1, hC0_1⟩, ⟨_, _, rfl, ⟨A0_2, c0_2, rfl, hl0_2, hC0_2⟩, ⟨A0_3, c0_3, rfl, hl0_3, hC0_3⟩⟩⟩⟩⟩ := K0
  obtain ⟨a1, rfl, rfl, rfl, w1⟩ := open_int Try.underlying2 (hval 1 2 v1 rfl rfl) h1
  have k2 := h2
  have lt2 : ∀ x ∈ p2, x.block < W.heap.size := by obtain ⟨m, hm⟩ := k2; exact DataW.trod_lt m _ _ _ hm
  obtain ⟨a2, len2, cap2, rfl⟩ := okWide_slice Try.underlying29 (hval 2 29 v2 rfl rfl)
  obtain ⟨x2, K2, w2, b2⟩ := (Go.Proofs.Ytbdaaiagpknaoaa.OpenB.opens_slice Try.underlying29 (by kernel_rfl) (by kernel_rfl) (Go.Proofs.Ytbdaaiagpknaoaa.OpenB.opens_slice Try.underlying36 (by kernel_rfl) (by kernel_rfl) (Go.Proofs.Ytbdaaiagpknaoaa.OpenB.opens_slice Try.underlying43 (by kernel_rfl) (by kernel_rfl) (Go.Proofs.Ytbdaaiagpknaoaa.OpenB.ofOpens (Go.Proofs.Ytbdaaiagpknaoaa.Open.opens_struct (fun x : S47 => (x.f0, x.f1, x.f2, x.f3)) (fun a => (⟨a.1, a.2.1, a.2.2.1, a.2.2.2⟩ : S47)) (fun _ => rfl) Try.underlying47 (by kernel_rfl) (Go.Proofs.Ytbdaaiagpknaoaa.Open.opensL_cons rfl (Go.Proofs.Ytbdaaiagpknaoaa.Open.opens_string Try.underlying9 (by kernel_rfl)) (Go.Proofs.Ytbdaaiagpknaoaa.Open.opensL_cons rfl (Go.Proofs.Ytbdaaiagpknaoaa.Open.opens_int Try.underlying2 (by kernel_rfl)) (Go.Proofs.Ytbdaaiagpknaoaa.Open.opensL_cons rfl (Go.Proofs.Ytbdaaiagpknaoaa.Open.opens_int Try.underlying2 (by kernel_rfl)) (Go.Proofs.Ytbdaaiagpknaoaa.Open.opensL_one rfl (Go.Proofs.Ytbdaaiagpknaoaa.Open.opens_int Try.underlying2 (by kernel_rfl))))))))))).arg h2 hsz (j := 2) rfl rfl
  obtain ⟨A2_1, c2_1, e2, hl2_1, hC2_1⟩ := K2
  simp only [Value.cells, List.cons.injEq, Value.slice.injEq, and_true] at e2
  obtain ⟨rfl, rfl, rfl⟩ := e2
  obtain ⟨k, hk⟩ := Pure.ItemBuilds x0 a1 x2 w0 (Nat.le_trans b0 hbk) w1 w2 (Nat.le_trans b2 hbk)
  refine (variorumlaw09_ItemBuilds.calls k x0.f0.f0 x0.f0.f1 x0.f0.f2 x0.f0.f3 x0.f1 _ _ x0.f2 _ _ x0.f3 _ _ x0.f4 a1 (fun k => k < W.heap.size) _ _ x2 true W hC0_1 hl0_1 hC0_2 hl0_2 hC0_3 hl0_3 (Kd.V_mk hl2_1 (Kd.C_F (Kd.heap_slice _ (Kd.heap_slice _ (show Kd.Heap k47 from Kd.heap_iso _ (Kd.heap_pair Kd.heap_string (Kd.heap_pair (Kd.heap_int .i64) (Kd.heap_pair (Kd.heap_int .i64) (Kd.heap_int .i64))))))) hC2_1)) hk).mono fun e W' ⟨he, bel0⟩ => ?_
  have bel : Below W.heap.size W W' := bel0
  subst he
  exact ⟨_, rfl, _, _, _, [], _, [], hW', trodAll_mk1 (shut_bool Try.underlying4 _), (trodAll_cons_mk (Below.trod laidOut (by kernel_rfl) (of_decide_eq_true (by kernel_rfl)) k0 bel lt0) (trodAll_cons_mk (shut_int Try.underlying2 w1) (trodAll_cons_mk (Below.trod laidOut (by kernel_rfl) (of_decide_eq_true (by kernel_rfl)) k2 bel lt2) trodAll_mk0))), rfl, bel.frame _, fun h => by cases h⟩
theorem over : Rows.itemBuildsUptoRow.holds Try.pinned (Rows.OpenSpec.upto Rows.itemBuildsSpec) :=
  OpenClaim.holds_of_cond 3 Try.f3 rfl rfl rfl rfl rfl rfl rfl ⟨rfl, rfl, rfl, rfl, rfl⟩ rfl rfl rfl rfl rfl (by kernel_rfl) Try.func3 (by kernel_rfl)
    (of_decide_eq_true (by kernel_rfl)) (by unfold Func.isWrapper; first | (rw [if_pos (by decide +kernel)]; kernel_rfl) | (rw [if_neg (by decide +kernel)]; exact ⟨rfl, rfl⟩))
    (fun os started H enc _ F => lifted os started H enc F)
theorem proved : Rows.ItemBuildsUptoSaid := over
#print axioms proved
end Go.Proofs.Ytbdaaiagpknaoaa.itemBuilds
namespace Go.Proofs.Ytbdaaiagpknaoaa
/-- The row, under a short name, for the claim. -/
theorem itemBuildsUpto_holds : Rows.ItemBuildsUptoSaid := itemBuilds.proved
end Go.Proofs.Ytbdaaiagpknaoaa

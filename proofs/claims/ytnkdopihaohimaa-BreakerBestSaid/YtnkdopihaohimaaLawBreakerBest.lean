/- BreakerBest: for every input the law returns true, and each argument reads afterwards as it read before. No condition of its own: the statement is the given one. -/
import Derived.Test.YtnkdopihaohimaaRows
import Derived.Test.YtnkdopihaohimaaPBrx24
import Derived.Test.YtnkdopihaohimaaPureBreakerBest
import Derived.WalkKit
import Derived.ProofKit
import Derived.OpenShut
import Derived.ShutString
import Derived.ChangeOld
import Derived.Below
import Derived.SizedLaws
import Derived.Test.YtnkdopihaohimaaOpen
namespace Go.Proofs.Ytnkdopihaohimaa.breakerBest
open Go.ChangeShapes Go.WideShapes Go.ChangeAt Go.RowKit Go.Proofs.Ytnkdopihaohimaa.PBr Go.Proofs.YtnkdopihaohimaaW.PrintWords
open Go.ChangeMaps (open_string shut_string)
set_option linter.unusedVariables false
set_option linter.unusedSimpArgs false
theorem own : ownKnob Try.prog.godebug = none := by kernel_rfl
theorem laidOut : laidOutB Try.prog = true := by kernel_rfl
set_option maxRecDepth 100000 in
theorem lifted (os : Os) (started : os.Started) (H : Type) (enc : TypeId × Value → H) :
    ReturnsInHanded {} Try.checked os 3 .any (Rows.breakerBestSpec.pre6 enc Try.prog Try.f3 Rows.breakerBestRow.domain false) (Rows.breakerBestSpec.post enc Try.prog Try.f3 false true false false) := by
  refine returnsInHanded_of_change_sized (C := Try.checked) own started (by kernel_rfl) Try.func3
    (ChangeSpec.witness6 (enc := enc) (C := Try.checked) false ⟨#[], #[.slice none 0 0, .int .i64 0, .int .i64 0], []⟩ 8 (by kernel_rfl) (by kernel_rfl) (by kernel_rfl) (by kernel_rfl)) ?_
  intro W base args ds gs before hval0 hW hcnd hsz0 _
  have hsz : (DataW.weightsEach Try.prog (Try.f3.params.toList ++ Rows.breakerBestSpec.plain.varTypes Try.prog) (ds ++ gs)).all (· ≤ reachBytes) = true := hsz0
  have hval : ∀ (j : Nat) t v, Try.f3.params[j]? = some t → args[j]? = some v → Value.okWide Try.prog W .any base t v := hval0
  have hW' := hW
  obtain ⟨p, q, hA0, hV, rfl, hfz, hnd⟩ := hW
  have hA : DataW.TrodAll enc Try.prog W 0 (fun _ => true) true Try.f3.params.toList args.toList ds p := hA0
  rw [Try.params3] at hA hval hsz
  obtain ⟨v0, vs0, d0, ds0, p0, q0, hargs, rfl, rfl, h0, r0⟩ := trodAll_cons hA
  obtain ⟨v1, vs1, d1, ds1, p1, q1, rfl, rfl, rfl, h1, r1⟩ := trodAll_cons r0
  obtain ⟨v2, vs2, d2, ds2, p2, q2, rfl, rfl, rfl, h2, r2⟩ := trodAll_cons r1
  obtain ⟨rfl, rfl, rfl⟩ := trodAll_nil r2
  obtain rfl : args = #[v0, v1, v2] := by cases args; simp_all
  obtain ⟨rfl, rfl⟩ := trodVars_none hV
  have k0 := h0
  have lt0 : ∀ x ∈ p0, x.block < W.heap.size := by obtain ⟨m, hm⟩ := k0; exact DataW.trod_lt m _ _ _ hm
  obtain ⟨a0, len0, cap0, rfl⟩ := okWide_slice Try.underlying22 (hval 0 22 v0 rfl rfl)
  obtain ⟨x0, K0, w0⟩ := (Go.Proofs.Ytnkdopihaohimaa.Open.opens_slice Try.underlying22 (by kernel_rfl) (by kernel_rfl) (Go.Proofs.Ytnkdopihaohimaa.Open.opens_struct (fun x : S47 => (x.f0, x.f1, x.f2, x.f3, x.f4, x.f5)) (fun a => (⟨a.1, a.2.1, a.2.2.1, a.2.2.2.1, a.2.2.2.2.1, a.2.2.2.2.2⟩ : S47)) (fun _ => rfl) Try.underlying47 (by kernel_rfl) (Go.Proofs.Ytnkdopihaohimaa.Open.opensL_cons rfl (Go.Proofs.Ytnkdopihaohimaa.Open.opens_int Try.underlying3 (by kernel_rfl)) (Go.Proofs.Ytnkdopihaohimaa.Open.opensL_cons rfl (Go.Proofs.Ytnkdopihaohimaa.Open.opens_struct (fun x : S45 => (x.f0, x.f1, x.f2, x.f3)) (fun a => (⟨a.1, a.2.1, a.2.2.1, a.2.2.2⟩ : S45)) (fun _ => rfl) Try.underlying45 (by kernel_rfl) (Go.Proofs.Ytnkdopihaohimaa.Open.opensL_cons rfl (Go.Proofs.Ytnkdopihaohimaa.Open.opens_int Try.underlying2 (by kernel_rfl)) (Go.Proofs.Ytnkdopihaohimaa.Open.opensL_cons rfl (Go.Proofs.Ytnkdopihaohimaa.Open.opens_int Try.underlying2 (by kernel_rfl)) (Go.Proofs.Ytnkdopihaohimaa.Open.opensL_cons rfl (Go.Proofs.Ytnkdopihaohimaa.Open.opens_int Try.underlying2 (by kernel_rfl)) (Go.Proofs.Ytnkdopihaohimaa.Open.opensL_one rfl (Go.Proofs.Ytnkdopihaohimaa.Open.opens_int Try.underlying3 (by kernel_rfl))))))) (Go.Proofs.Ytnkdopihaohimaa.Open.opensL_cons rfl (Go.Proofs.Ytnkdopihaohimaa.Open.opens_int Try.underlying3 (by kernel_rfl)) (Go.Proofs.Ytnkdopihaohimaa.Open.opensL_cons rfl (Go.Proofs.Ytnkdopihaohimaa.Open.opens_bool Try.underlying4 (by kernel_rfl)) (Go.Proofs.Ytnkdopihaohimaa.Open.opensL_cons rfl (Go.Proofs.Ytnkdopihaohimaa.Open.opens_int Try.underlying3 (by kernel_rfl)) (Go.Proofs.Ytnkdopihaohimaa.Open.opensL_one rfl (Go.Proofs.Ytnkdopihaohimaa.Open.opens_int Try.underlying3 (by kernel_rfl)))))))))).arg h0 hsz (j := 0) rfl rfl
  obtain ⟨A0_1, c0_1, e0, hl0_1, hC0_1⟩ := K0
  simp only [Value.cells, List.cons.injEq, Value.slice.injEq, and_true] at e0
  obtain ⟨rfl, rfl, rfl⟩ := e0
  obtain ⟨a1, rfl, rfl, rfl, w1⟩ := open_int Try.underlying2 (hval 1 2 v1 rfl rfl) h1
  obtain ⟨a2, rfl, rfl, rfl, w2⟩ := open_int Try.underlying3 (hval 2 3 v2 rfl rfl) h2
  obtain ⟨k, hk⟩ := Pure.BreakerBest x0 a1 a2 w0 w1 w2
  refine (variorumlaw11_BreakerBest.calls k _ _ x0 a1 a2 true W hC0_1 hl0_1 hk).mono fun e W' ⟨he, bel0⟩ => ?_
  have bel : Below W.heap.size W W' := bel0
  subst he
  exact ⟨_, rfl, _, _, _, [], _, [], hW', trodAll_mk1 (shut_bool Try.underlying4 _), (trodAll_cons_mk (Below.trod laidOut (by kernel_rfl) (of_decide_eq_true (by kernel_rfl)) k0 bel lt0) (trodAll_cons_mk (shut_int Try.underlying2 w1) (trodAll_cons_mk (shut_int Try.underlying3 w2) trodAll_mk0))), rfl, bel.frame _, fun h => by cases h⟩
theorem over : Rows.breakerBestRow.holds Try.pinned (OpenSpec.ofChange Rows.breakerBestSpec) :=
  OpenClaim.holds_of_wide 3 Try.f3 rfl rfl rfl rfl rfl rfl rfl ⟨rfl, rfl, rfl, rfl, rfl⟩ rfl rfl rfl rfl rfl (by kernel_rfl) Try.func3 (by kernel_rfl)
    (of_decide_eq_true (by kernel_rfl)) (by unfold Func.isWrapper; first | (rw [if_pos (by decide +kernel)]; kernel_rfl) | (rw [if_neg (by decide +kernel)]; exact ⟨rfl, rfl⟩))
    (fun os started H enc _ => lifted os started H enc)
theorem proved : Rows.BreakerBestSaid := over
#print axioms proved
end Go.Proofs.Ytnkdopihaohimaa.breakerBest
namespace Go.Proofs.Ytnkdopihaohimaa
/-- The row, under a short name, for the claim. -/
theorem breakerBest_holds : Rows.BreakerBestSaid := breakerBest.proved
end Go.Proofs.Ytnkdopihaohimaa

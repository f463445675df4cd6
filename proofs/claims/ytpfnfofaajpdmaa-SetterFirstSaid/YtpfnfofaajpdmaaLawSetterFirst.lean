/- SetterFirst: for every input the law returns true, and each argument reads afterwards as it read before. No condition of its own: the statement is the given one. -/
import Derived.Test.YtpfnfofaajpdmaaRows
import Derived.Test.YtpfnfofaajpdmaaPKex15
import Derived.Test.YtpfnfofaajpdmaaPureSetterFirst
import Derived.WalkKit
import Derived.ProofKit
import Derived.OpenShut
import Derived.ShutString
import Derived.ChangeOld
import Derived.Below
import Derived.SizedLaws
import Derived.Test.YtpfnfofaajpdmaaOpen
namespace Go.Proofs.Ytpfnfofaajpdmaa.setterFirst
open Go.ChangeShapes Go.WideShapes Go.ChangeAt Go.RowKit Go.Proofs.Ytpfnfofaajpdmaa.PKe Go.Proofs.YtpfnfofaajpdmaaW.PrintWords
open Go.ChangeMaps (open_string shut_string)
set_option linter.unusedVariables false
set_option linter.unusedSimpArgs false
theorem own : ownKnob Try.prog.godebug = none := by kernel_rfl
theorem laidOut : laidOutB Try.prog = true := by kernel_rfl
set_option maxRecDepth 100000 in
theorem lifted (os : Os) (started : os.Started) (H : Type) (enc : TypeId × Value → H) :
    ReturnsInHanded {} Try.checked os 6 .any (Rows.setterFirstSpec.pre6 enc Try.prog Try.f6 Rows.setterFirstRow.domain false) (Rows.setterFirstSpec.post enc Try.prog Try.f6 false true false false) := by
  refine returnsInHanded_of_change_sized (C := Try.checked) own started (by kernel_rfl) Try.func6
    (ChangeSpec.witness6 (enc := enc) (C := Try.checked) false ⟨#[], #[.slice none 0 0, .slice none 0 0, (.agg #[(.int .i64 0), (.int .i64 0)])], []⟩ 8 (by kernel_rfl) (by kernel_rfl) (by kernel_rfl) (by kernel_rfl)) ?_
  intro W base args ds gs before hval0 hW hcnd hsz0 _
  have hsz : (DataW.weightsEach Try.prog (Try.f6.params.toList ++ Rows.setterFirstSpec.plain.varTypes Try.prog) (ds ++ gs)).all (· ≤ reachBytes) = true := hsz0
  have hval : ∀ (j : Nat) t v, Try.f6.params[j]? = some t → args[j]? = some v → Value.okWide Try.prog W .any base t v := hval0
  have hW' := hW
  obtain ⟨p, q, hA0, hV, rfl, hfz, hnd⟩ := hW
  have hA : DataW.TrodAll enc Try.prog W 0 (fun _ => true) true Try.f6.params.toList args.toList ds p := hA0
  rw [Try.params6] at hA hval hsz
  obtain ⟨v0, vs0, d0, ds0, p0, q0, hargs, rfl, rfl, h0, r0⟩ := trodAll_cons hA
  obtain ⟨v1, vs1, d1, ds1, p1, q1, rfl, rfl, rfl, h1, r1⟩ := trodAll_cons r0
  obtain ⟨v2, vs2, d2, ds2, p2, q2, rfl, rfl, rfl, h2, r2⟩ := trodAll_cons r1
  obtain ⟨rfl, rfl, rfl⟩ := trodAll_nil r2
  obtain rfl : args = #[v0, v1, v2] := by cases args; simp_all
  obtain ⟨rfl, rfl⟩ := trodVars_none hV
  have k0 := h0
  have lt0 : ∀ x ∈ p0, x.block < W.heap.size := by obtain ⟨m, hm⟩ := k0; exact DataW.trod_lt m _ _ _ hm
  obtain ⟨a0, len0, cap0, rfl⟩ := okWide_slice Try.underlying22 (hval 0 22 v0 rfl rfl)
  obtain ⟨x0, K0, w0⟩ := (Go.Proofs.Ytpfnfofaajpdmaa.Open.opens_slice Try.underlying22 (by kernel_rfl) (by kernel_rfl) (Go.Proofs.Ytpfnfofaajpdmaa.Open.opens_struct (fun x : S40 => (x.f0, x.f1, x.f2, x.f3, x.f4, x.f5)) (fun a => (⟨a.1, a.2.1, a.2.2.1, a.2.2.2.1, a.2.2.2.2.1, a.2.2.2.2.2⟩ : S40)) (fun _ => rfl) Try.underlying40 (by kernel_rfl) (Go.Proofs.Ytpfnfofaajpdmaa.Open.opensL_cons rfl (Go.Proofs.Ytpfnfofaajpdmaa.Open.opens_int Try.underlying3 (by kernel_rfl)) (Go.Proofs.Ytpfnfofaajpdmaa.Open.opensL_cons rfl (Go.Proofs.Ytpfnfofaajpdmaa.Open.opens_struct (fun x : S38 => (x.f0, x.f1, x.f2, x.f3)) (fun a => (⟨a.1, a.2.1, a.2.2.1, a.2.2.2⟩ : S38)) (fun _ => rfl) Try.underlying38 (by kernel_rfl) (Go.Proofs.Ytpfnfofaajpdmaa.Open.opensL_cons rfl (Go.Proofs.Ytpfnfofaajpdmaa.Open.opens_int Try.underlying2 (by kernel_rfl)) (Go.Proofs.Ytpfnfofaajpdmaa.Open.opensL_cons rfl (Go.Proofs.Ytpfnfofaajpdmaa.Open.opens_int Try.underlying2 (by kernel_rfl)) (Go.Proofs.Ytpfnfofaajpdmaa.Open.opensL_cons rfl (Go.Proofs.Ytpfnfofaajpdmaa.Open.opens_int Try.underlying2 (by kernel_rfl)) (Go.Proofs.Ytpfnfofaajpdmaa.Open.opensL_one rfl (Go.Proofs.Ytpfnfofaajpdmaa.Open.opens_int Try.underlying3 (by kernel_rfl))))))) (Go.Proofs.Ytpfnfofaajpdmaa.Open.opensL_cons rfl (Go.Proofs.Ytpfnfofaajpdmaa.Open.opens_int Try.underlying3 (by kernel_rfl)) (Go.Proofs.Ytpfnfofaajpdmaa.Open.opensL_cons rfl (Go.Proofs.Ytpfnfofaajpdmaa.Open.opens_bool Try.underlying4 (by kernel_rfl)) (Go.Proofs.Ytpfnfofaajpdmaa.Open.opensL_cons rfl (Go.Proofs.Ytpfnfofaajpdmaa.Open.opens_int Try.underlying3 (by kernel_rfl)) (Go.Proofs.Ytpfnfofaajpdmaa.Open.opensL_one rfl (Go.Proofs.Ytpfnfofaajpdmaa.Open.opens_int Try.underlying3 (by kernel_rfl)))))))))).arg h0 hsz (j := 0) rfl rfl
  obtain ⟨A0_1, c0_1, e0, hl0_1, hC0_1⟩ := K0
  simp only [Value.cells, List.cons.injEq, Value.slice.injEq, and_true] at e0
  obtain ⟨rfl, rfl, rfl⟩ := e0
  have k1 := h1
  have lt1 : ∀ x ∈ p1, x.block < W.heap.size := by obtain ⟨m, hm⟩ := k1; exact DataW.trod_lt m _ _ _ hm
  obtain ⟨a1, len1, cap1, rfl⟩ := okWide_slice Try.underlying23 (hval 1 23 v1 rfl rfl)
  obtain ⟨x1, K1, w1⟩ := (Go.Proofs.Ytpfnfofaajpdmaa.Open.opens_slice Try.underlying23 (by kernel_rfl) (by kernel_rfl) (Go.Proofs.Ytpfnfofaajpdmaa.Open.opens_int Try.underlying3 (by kernel_rfl))).arg h1 hsz (j := 1) rfl rfl
  obtain ⟨A1_1, c1_1, e1, hl1_1, hC1_1⟩ := K1
  simp only [Value.cells, List.cons.injEq, Value.slice.injEq, and_true] at e1
  obtain ⟨rfl, rfl, rfl⟩ := e1
  have k2 := h2
  have lt2 : ∀ x ∈ p2, x.block < W.heap.size := by obtain ⟨m, hm⟩ := k2; exact DataW.trod_lt m _ _ _ hm
  obtain ⟨⟨cs2⟩, rfl, _⟩ := okWide_struct Try.underlying50 (hval 2 50 v2 rfl rfl)
  obtain ⟨x2, K2, w2⟩ := (Go.Proofs.Ytpfnfofaajpdmaa.Open.opens_struct (fun x : S50 => (x.f0, x.f1)) (fun a => (⟨a.1, a.2⟩ : S50)) (fun _ => rfl) Try.underlying50 (by kernel_rfl) (Go.Proofs.Ytpfnfofaajpdmaa.Open.opensL_cons rfl (Go.Proofs.Ytpfnfofaajpdmaa.Open.opens_int Try.underlying3 (by kernel_rfl)) (Go.Proofs.Ytpfnfofaajpdmaa.Open.opensL_one rfl (Go.Proofs.Ytpfnfofaajpdmaa.Open.opens_int Try.underlying2 (by kernel_rfl))))).arg h2 hsz (j := 2) rfl rfl
  obtain ⟨_, _, rfl, rfl, rfl⟩ := K2
  obtain ⟨k, hk⟩ := Pure.SetterFirst x0 x1 x2 w0 w1 w2
  refine (variorumlaw12_SetterFirst.calls k _ _ x0 _ _ x1 x2.f0 x2.f1 true W hC0_1 hl0_1 hC1_1 hl1_1 hk).mono fun e W' ⟨he, bel0⟩ => ?_
  have bel : Below W.heap.size W W' := bel0
  subst he
  exact ⟨_, rfl, _, _, _, [], _, [], hW', trodAll_mk1 (shut_bool Try.underlying4 _), (trodAll_cons_mk (Below.trod laidOut (by kernel_rfl) (of_decide_eq_true (by kernel_rfl)) k0 bel lt0) (trodAll_cons_mk (Below.trod laidOut (by kernel_rfl) (of_decide_eq_true (by kernel_rfl)) k1 bel lt1) (trodAll_cons_mk (Below.trod laidOut (by kernel_rfl) (of_decide_eq_true (by kernel_rfl)) k2 bel lt2) trodAll_mk0))), rfl, bel.frame _, fun h => by cases h⟩
theorem over : Rows.setterFirstRow.holds Try.pinned (OpenSpec.ofChange Rows.setterFirstSpec) :=
  OpenClaim.holds_of_wide 6 Try.f6 rfl rfl rfl rfl rfl rfl rfl ⟨rfl, rfl, rfl, rfl, rfl⟩ rfl rfl rfl rfl rfl (by kernel_rfl) Try.func6 (by kernel_rfl)
    (of_decide_eq_true (by kernel_rfl)) (by unfold Func.isWrapper; first | (rw [if_pos (by decide +kernel)]; kernel_rfl) | (rw [if_neg (by decide +kernel)]; exact ⟨rfl, rfl⟩))
    (fun os started H enc _ => lifted os started H enc)
theorem proved : Rows.SetterFirstSaid := over
#print axioms proved
end Go.Proofs.Ytpfnfofaajpdmaa.setterFirst
namespace Go.Proofs.Ytpfnfofaajpdmaa
/-- The row, under a short name, for the claim. -/
theorem setterFirst_holds : Rows.SetterFirstSaid := setterFirst.proved
end Go.Proofs.Ytpfnfofaajpdmaa

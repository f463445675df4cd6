/- Written by a program of this session: functions of the given program as plain Lean functions, the walks that show it, and the row of each law, for every input that its statement speaks of. -/
import Derived.Test.YtjppjlhhdfkloaaProg
import Derived.Test.YtjppjlhhdfkloaaShorter
import Derived.Test.YtjppjlhhdfkloaaOpenB
import Derived.StillTailTactics
import Derived.LoopN
import Derived.Deep.RegionLaw
import Derived.Below
import Derived.Deep.Draws
import Derived.Deep.AppendLies
import Derived.Maps.AppendAt
import Derived.OwnWalk
import Derived.Laws.BytesArg
import Derived.Laws.MakeOwn
import Derived.Laws.OwnMore
import Derived.Deep.OwnRows
import Derived.Tactics
import Derived.Lib.ConvBytes
import Derived.Laws.Slices
import Derived.WalkKit
import Derived.KernelRfl
import Derived.RowKit3
import Derived.Deep.LoopGhost
import Derived.Deep.QuietTactic
import Derived.BigQuiet
import Derived.WideLaws
import Derived.Deep.DeepCutAuto
import Derived.Deep.CutBlock
import Derived.Deep.RegionHeld3
import Derived.Laws.Rows
import Derived.Lib.AppendStr
import Derived.ArgAppend
import Derived.Laws.IdiomCopy
import Derived.OrdersHeld
import Derived.Laws.BitsLemmas
import Derived.RowKit
import Derived.Test.YtjppjlhhdfkloaaWWords
import Derived.Test.YtjppjlhhdfkloaaWLast
import Derived.Test.YtjppjlhhdfkloaaWTab
import Derived.Test.YtjppjlhhdfkloaaWFour
import Derived.Test.YtjppjlhhdfkloaaWQPut
import Derived.Test.YtjppjlhhdfkloaaWApart
import Derived.Test.YtjppjlhhdfkloaaWArr
import Derived.Test.YtjppjlhhdfkloaaWZeros
import Derived.Test.YtjppjlhhdfkloaaWFoot
import Derived.Test.YtjppjlhhdfkloaaWKept
import Derived.Test.YtjppjlhhdfkloaaWShare
import Derived.Test.YtjppjlhhdfkloaaWN
import Derived.Test.YtjppjlhhdfkloaaWFootNe
import Derived.Test.YtjppjlhhdfkloaaWAt
import Derived.Test.YtjppjlhhdfkloaaWEqStruct
import Derived.Test.YtjppjlhhdfkloaaWRepsOne
import Derived.Test.YtjppjlhhdfkloaaWInv
import Derived.Test.YtjppjlhhdfkloaaWInvWords
import Derived.Test.YtjppjlhhdfkloaaWGuard
import Derived.Test.YtjppjlhhdfkloaaWNEv
import Derived.Test.YtjppjlhhdfkloaaWMore
namespace Go.Proofs.Ytjppjlhhdfkloaa.PTp
open Go.RowKit Go.Proofs.YtjppjlhhdfkloaaW.PrintWords Go.Proofs.YtjppjlhhdfkloaaW.PrintLast Go.Proofs.YtjppjlhhdfkloaaW.PrintMore
attribute [local go_sem] max2_int min2_int max_two min_two max_three min_three max_four min_four   -- for this text's walks alone
set_option linter.unusedVariables false
set_option linter.unusedSimpArgs false



def errW : Option Int → Value
 | none => .nilIface
 | some c => .iface 0 (.int .i64 c)
theorem errW_none : errW none = .nilIface := rfl
theorem errW_some (c : Int) : errW (some c) = .iface 0 (.int .i64 c) := rfl

theorem info3 : (Try.prog.info? 3).map (fun i => (i.zero, i.size, i.bytes)) = some (some (.int .i64 0), 1, 8) := by kernel_rfl
theorem info9 : (Try.prog.info? 9).map (fun i => (i.zero, i.size, i.bytes)) = some (some (.string ⟨#[]⟩), 1, 16) := by kernel_rfl
theorem info23 : (Try.prog.info? 23).map (fun i => (i.zero, i.size, i.bytes)) = some (some (.slice none 0 0), 1, 24) := by kernel_rfl
theorem info38 : (Try.prog.info? 38).map (fun i => (i.zero, i.size, i.bytes)) = some (some (.agg #[(.bool false), (.string ⟨#[]⟩), (.slice none 0 0), (.int .i64 0)]), 4, 56) := by kernel_rfl
theorem info44 : (Try.prog.info? 44).map (fun i => (i.zero, i.size, i.bytes)) = some (some (.agg #[(.int .i64 0), (.string ⟨#[]⟩), (.int .i64 0)]), 3, 32) := by kernel_rfl
-- the values' own types

section
variable {α : Type} {F : Kd α → Kd α} {sz : Nat} {E : List Nat} {hs : ∀ n, (Kd.upto F sz E n).sz = sz} {hE : ∀ n q, q ∈ (Kd.upto F sz E n).E → q ∈ E} {t : Nat}
theorem Kd.fix_C2 {n : Nat} {w : World} {A : Option Addr} {m : Nat} {xs : List (List α)} (h : (Kd.slice t (Kd.upto F sz E n)).C w A m xs) : (Kd.slice t (Kd.fix F sz E hs hE)).C w A m xs :=
 Kd.C_imp (d := Kd.slice t (Kd.upto F sz E n)) (d' := Kd.slice t (Kd.fix F sz E hs hE)) rfl (fun w x cs hp => by obtain ⟨A, c, rfl, hl, hr⟩ := hp; exact ⟨A, c, rfl, hl, Kd.fix_C hr⟩) h
theorem Kd.fix_R2 {n : Nat} {e : Nat} {w : World} {base : Nat} {ok : Nat → Prop} {v : Value} {xs : List (List α)} (h : (Kd.slice t (Kd.upto F sz E n)).R e w base ok v xs) : (Kd.slice t (Kd.fix F sz E hs hE)).R e w base ok v xs :=
 Kd.R_imp (d := Kd.slice t (Kd.upto F sz E n)) (d' := Kd.slice t (Kd.fix F sz E hs hE)) rfl (fun w base ok x cs hp => by obtain ⟨v, rfl, hr⟩ := hp; exact ⟨v, rfl, Kd.fix_R hr⟩) h
theorem Kd.upto_C2_le (hm : Kd.Mono F) (hs : ∀ n, (Kd.upto F sz E n).sz = sz) {n m : Nat} (hnm : n ≤ m) {w : World} {A : Option Addr} {l : Nat} {xs : List (List α)} (h : (Kd.slice t (Kd.upto F sz E n)).C w A l xs) : (Kd.slice t (Kd.upto F sz E m)).C w A l xs :=
 Kd.C_imp (d := Kd.slice t (Kd.upto F sz E n)) (d' := Kd.slice t (Kd.upto F sz E m)) rfl (fun w x cs hp => by obtain ⟨A, c, rfl, hl, hr⟩ := hp; exact ⟨A, c, rfl, hl, Kd.upto_C_le hm hs hnm hr⟩) h
theorem Kd.upto_R2_le (hm : Kd.Mono F) (hs : ∀ n, (Kd.upto F sz E n).sz = sz) {n m : Nat} (hnm : n ≤ m) {e : Nat} {w : World} {base : Nat} {ok : Nat → Prop} {v : Value} {xs : List (List α)} (h : (Kd.slice t (Kd.upto F sz E n)).R e w base ok v xs) : (Kd.slice t (Kd.upto F sz E m)).R e w base ok v xs :=
 Kd.R_imp (d := Kd.slice t (Kd.upto F sz E n)) (d' := Kd.slice t (Kd.upto F sz E m)) rfl (fun w base ok x cs hp => by obtain ⟨v, rfl, hr⟩ := hp; exact ⟨v, rfl, Kd.upto_R_le hm hs hnm hr⟩) h
theorem Kd.fix_R2_back (hm : Kd.Mono F) {e : Nat} {w : World} {base : Nat} {ok : Nat → Prop} {v : Value} {xs : List (List α)} (h : (Kd.slice t (Kd.fix F sz E hs hE)).R e w base ok v xs) : ∃ n, (Kd.slice t (Kd.upto F sz E n)).R e w base ok v xs := by
 obtain ⟨h0, inner, ho, hr⟩ := h
 have hr2 : Reps (fun p c => ∃ n, (Kd.slice t (Kd.upto F sz E n)).M w base (fun k => ok k ∧ some k ≠ v.ownBlock) p c) 1 xs inner := hr.imp_ (fun p c hp => by
  obtain ⟨u, rfl, hu⟩ := hp
  obtain ⟨n, hn⟩ := Kd.fix_R_back hm hu
  exact ⟨n, u, rfl, hn⟩)
 obtain ⟨N, hN⟩ := Kd.reps_bounded (R := fun n p c => (Kd.slice t (Kd.upto F sz E n)).M w base (fun k => ok k ∧ some k ≠ v.ownBlock) p c) (fun n m p c hnm hp => by
  obtain ⟨u, rfl, hu⟩ := hp
  exact ⟨u, rfl, Kd.upto_R_le hm hs hnm hu⟩) hr2
 exact ⟨N, h0, inner, ho, hN⟩
theorem Kd.fix_C2_back (hm : Kd.Mono F) {w : World} {A : Option Addr} {m : Nat} {xs : List (List α)} (h : (Kd.slice t (Kd.fix F sz E hs hE)).C w A m xs) : ∃ n, (Kd.slice t (Kd.upto F sz E n)).C w A m xs := by
 rcases Nat.eq_zero_or_pos m with hz | hpos
 ·subst hz
  exact ⟨0, h.1, h.2.1, fun hp => absurd hp (Nat.lt_irrefl 0)⟩
 ·obtain ⟨ad, e, hc⟩ := h.2.2 hpos
  obtain ⟨N, hN⟩ := Kd.bounded (P := fun n j => ∀ p, xs[j]? = some p → ∃ c, c.length = 1 ∧ (Kd.slice t (Kd.upto F sz E n)).K w p c ∧ ∀ i u, c[i]? = some u → w.cell? (ad.add (j * 1 + i)) = some u)
   (fun n n' j hnm hp p hj => by
    obtain ⟨c, h1, h2, h3⟩ := hp p hj
    obtain ⟨A, c', rfl, hl, hr⟩ := h2
    exact ⟨_, h1, ⟨A, c', rfl, hl, Kd.upto_C_le hm hs hnm hr⟩, h3⟩) xs.length
   (fun j hj => by
    obtain ⟨c, h1, h2, h3⟩ := hc j _ (List.getElem?_eq_getElem hj)
    obtain ⟨A, c', rfl, hl, hr⟩ := h2
    obtain ⟨n, hn⟩ := Kd.fix_C_back hm hr
    refine ⟨n, fun p hp => ?_⟩
    rw [List.getElem?_eq_getElem hj] at hp
    injection hp with hp
    subst hp
    exact ⟨_, h1, ⟨A, c', rfl, hl, hn⟩, h3⟩)
  exact ⟨N, h.1, h.2.1, fun _ => ⟨ad, e, fun j p hj => hN j (List.getElem?_eq_some_iff.1 hj).1 p hj⟩⟩
end
/-! #### struct type 44 -/
structure S44 where
 f0 : Int
 f1 : ByteArray
 f2 : Int
def z44 : S44 := ⟨(0 : Int), (⟨#[]⟩ : ByteArray), (0 : Int)⟩
def k44 : Kd S44 := Kd.iso (Kd.pair (Kd.int .i64) (Kd.pair Kd.string (Kd.int .i64))) (fun x : S44 => (x.f0, x.f1, x.f2))
theorem k44_open {w : World} {x : S44} {cs : List Value} (h : k44.K w x cs) : cs = [.int .i64 x.f0, .string x.f1, .int .i64 x.f2] := by
 obtain ⟨_, _, rfl, rfl, ⟨_, _, rfl, rfl, rfl⟩⟩ := h
 exact rfl
theorem k44_openM {w : World} {base : Nat} {ok : Nat → Prop} {x : S44} {cs : List Value} (h : k44.M w base ok x cs) : cs = [.int .i64 x.f0, .string x.f1, .int .i64 x.f2] := by
 obtain ⟨_, _, rfl, rfl, ⟨_, _, rfl, rfl, rfl⟩⟩ := h
 exact rfl
theorem k44_mk (w : World) (x : S44)  : k44.K w x [.int .i64 x.f0, .string x.f1, .int .i64 x.f2] := ⟨[.int .i64 x.f0], [.string x.f1, .int .i64 x.f2], rfl, rfl, ⟨[.string x.f1], [.int .i64 x.f2], rfl, rfl, rfl⟩⟩
theorem k44_mkM (w : World) (base : Nat) (ok : Nat → Prop) (x : S44)  : k44.M w base ok x [.int .i64 x.f0, .string x.f1, .int .i64 x.f2] := ⟨[.int .i64 x.f0], [.string x.f1, .int .i64 x.f2], rfl, rfl, ⟨[.string x.f1], [.int .i64 x.f2], rfl, rfl, rfl⟩⟩
def rd_T44 (xs : List S44) (i : Int) : S44 := xs.getD i.toNat z44
theorem at_T44 {w : World} {A : Option Addr} {n : Nat} {xs : List S44} (h : Kd.C k44 w A n xs) (i : Int) (h0 : 0 ≤ i) (h1 : i < n) : ∃ ad , A = some ad ∧ w.cell? (ad.add (i.toNat * 3)) = some (.int .i64 (rd_T44 xs i).f0) ∧ w.cell? ⟨(ad.add (i.toNat * 3)).block, (ad.add (i.toNat * 3)).off + 1, none⟩ = some (.string (rd_T44 xs i).f1) ∧ w.cell? ⟨(ad.add (i.toNat * 3)).block, (ad.add (i.toNat * 3)).off + 2, none⟩ = some (.int .i64 (rd_T44 xs i).f2) := by
 obtain ⟨ad, c, e, _, hK, hc0⟩ := Kd.C_get h z44 i h0 h1
 have hc : ∀ j u, c[j]? = some u → w.cell? (ad.add (i.toNat * 3 + j)) = some u := hc0
 obtain rfl := k44_open hK
 exact ⟨ad, e, hc 0 _ rfl, by rw [← add_field _ _ 1 (by omega)]; exact hc 1 _ rfl, by rw [← add_field _ _ 2 (by omega)]; exact hc 2 _ rfl⟩

/-! #### struct type 38, nested in itself -/
structure S38 where
 f0 : Bool
 f1 : ByteArray
 f2 : (List (List S38))
 f3 : Int
def z38 : S38 := ⟨false, (⟨#[]⟩ : ByteArray), ([] : List (List S38)), (0 : Int)⟩
def F38 (d : Kd S38) : Kd S38 := Kd.iso (Kd.pair Kd.bool (Kd.pair Kd.string (Kd.pair (Kd.slice 23 (Kd.slice 38 d)) (Kd.int .i64)))) (fun x : S38 => (x.f0, x.f1, x.f2, x.f3))
theorem mono38 : Kd.Mono F38 := Kd.mono_iso _ (Kd.mono_pair (Kd.mono_const _) (Kd.mono_pair (Kd.mono_const _) (Kd.mono_pair (Kd.mono_slice 23 (Kd.mono_slice 38 Kd.mono_id)) (Kd.mono_const _))))
theorem sub38 : Kd.Sub F38 [23, 38] := Kd.sub_iso _ (Kd.sub_pair (Kd.sub_const _ (by decide)) (Kd.sub_pair (Kd.sub_const _ (by decide)) (Kd.sub_pair (Kd.sub_slice 23 (by decide) (Kd.sub_slice 38 (by decide) Kd.sub_id)) (Kd.sub_const _ (by decide)))))
theorem sz38 : ∀ n, (Kd.upto F38 4 [23, 38] n).sz = 4 := Kd.upto_sz (fun _ => rfl)
def k38 : Kd S38 := Kd.fix F38 4 [23, 38] sz38 (Kd.upto_E sub38)
theorem k38_open {w : World} {x : S38} {cs : List Value} (h : k38.K w x cs) : ∃ A2 c2, cs = [.bool x.f0, .string x.f1, .slice A2 x.f2.length c2, .int .i64 x.f3] ∧ x.f2.length ≤ c2 ∧ (Kd.slice 38 k38).C w A2 x.f2.length x.f2 := by
 obtain ⟨n, h⟩ := h
 cases n with
 | zero => exact h.elim
 | succ n =>
  obtain ⟨_, _, rfl, rfl, ⟨_, _, rfl, rfl, ⟨_, _, rfl, ⟨A2, c2, rfl, l2, g2⟩, rfl⟩⟩⟩ := h
  exact ⟨A2, c2, rfl, l2, Kd.fix_C2 g2⟩
theorem k38_openM {w : World} {base : Nat} {ok : Nat → Prop} {x : S38} {cs : List Value} (h : k38.M w base ok x cs) : ∃ v2, cs = [.bool x.f0, .string x.f1, v2, .int .i64 x.f3] ∧ (Kd.slice 38 k38).R 23 w base ok v2 x.f2 := by
 obtain ⟨n, h⟩ := h
 cases n with
 | zero => exact h.elim
 | succ n =>
  obtain ⟨_, _, rfl, rfl, ⟨_, _, rfl, rfl, ⟨_, _, rfl, ⟨v2, rfl, g2⟩, rfl⟩⟩⟩ := h
  exact ⟨v2, rfl, Kd.fix_R2 g2⟩
theorem k38_mk (w : World) (x : S38) {A2 : Option Addr} {c2 : Nat} (l2 : x.f2.length ≤ c2) (g2 : (Kd.slice 38 k38).C w A2 x.f2.length x.f2) : k38.K w x [.bool x.f0, .string x.f1, .slice A2 x.f2.length c2, .int .i64 x.f3] := by
 obtain ⟨n2, q2⟩ := Kd.fix_C2_back mono38 g2
 have r2 := Kd.upto_C2_le mono38 sz38 (show n2 ≤ n2 by omega) q2
 exact ⟨n2 + 1, ⟨[.bool x.f0], [.string x.f1, .slice A2 x.f2.length c2, .int .i64 x.f3], rfl, rfl, ⟨[.string x.f1], [.slice A2 x.f2.length c2, .int .i64 x.f3], rfl, rfl, ⟨[.slice A2 x.f2.length c2], [.int .i64 x.f3], rfl, ⟨A2, c2, rfl, l2, r2⟩, rfl⟩⟩⟩⟩
theorem k38_mkM (w : World) (base : Nat) (ok : Nat → Prop) (x : S38) {v2 : Value} (g2 : (Kd.slice 38 k38).R 23 w base ok v2 x.f2) : k38.M w base ok x [.bool x.f0, .string x.f1, v2, .int .i64 x.f3] := by
 obtain ⟨n2, q2⟩ := Kd.fix_R2_back mono38 g2
 have r2 := Kd.upto_R2_le mono38 sz38 (show n2 ≤ n2 by omega) q2
 exact ⟨n2 + 1, ⟨[.bool x.f0], [.string x.f1, v2, .int .i64 x.f3], rfl, rfl, ⟨[.string x.f1], [v2, .int .i64 x.f3], rfl, rfl, ⟨[v2], [.int .i64 x.f3], rfl, ⟨v2, rfl, r2⟩, rfl⟩⟩⟩⟩
def rd_T38 (xs : List S38) (i : Int) : S38 := xs.getD i.toNat z38
theorem at_T38 {w : World} {A : Option Addr} {n : Nat} {xs : List S38} (h : Kd.C k38 w A n xs) (i : Int) (h0 : 0 ≤ i) (h1 : i < n) : ∃ ad A2 c2, A = some ad ∧ w.cell? (ad.add (i.toNat * 4)) = some (.bool (rd_T38 xs i).f0) ∧ w.cell? ⟨(ad.add (i.toNat * 4)).block, (ad.add (i.toNat * 4)).off + 1, none⟩ = some (.string (rd_T38 xs i).f1) ∧ w.cell? ⟨(ad.add (i.toNat * 4)).block, (ad.add (i.toNat * 4)).off + 2, none⟩ = some (.slice A2 (rd_T38 xs i).f2.length c2) ∧ w.cell? ⟨(ad.add (i.toNat * 4)).block, (ad.add (i.toNat * 4)).off + 3, none⟩ = some (.int .i64 (rd_T38 xs i).f3) ∧ (rd_T38 xs i).f2.length ≤ c2 ∧ (Kd.slice 38 k38).C w A2 (rd_T38 xs i).f2.length (rd_T38 xs i).f2 := by
 obtain ⟨ad, c, e, _, hK, hc0⟩ := Kd.C_get h z38 i h0 h1
 have hc : ∀ j u, c[j]? = some u → w.cell? (ad.add (i.toNat * 4 + j)) = some u := hc0
 obtain ⟨A2, c2, rfl, l2, g2⟩ := k38_open hK
 exact ⟨ad, A2, c2, e, hc 0 _ rfl, by rw [← add_field _ _ 1 (by omega)]; exact hc 1 _ rfl, by rw [← add_field _ _ 2 (by omega)]; exact hc 2 _ rfl, by rw [← add_field _ _ 3 (by omega)]; exact hc 3 _ rfl, l2, g2⟩

def rd_L5 (xs : List (List S38)) (i : Int) : (List S38) := xs.getD i.toNat ([] : List S38)
theorem at_L5 {w : World} {A : Option Addr} {n : Nat} {xs : List (List S38)} (h : Kd.C (Kd.slice 38 k38) w A n xs) (i : Int) (h0 : 0 ≤ i) (h1 : i < n) : ∃ ad A0 c0, A = some ad ∧ w.cell? (ad.add i.toNat) = some (.slice A0 (rd_L5 xs i).length c0) ∧ (rd_L5 xs i).length ≤ c0 ∧ k38.C w A0 (rd_L5 xs i).length (rd_L5 xs i) := by
 obtain ⟨ad, c, e, _, hK, hc0⟩ := Kd.C_get h ([] : List S38) i h0 h1
 have hc : ∀ j u, c[j]? = some u → w.cell? (ad.add (i.toNat * 1 + j)) = some u := hc0
 obtain ⟨A0, c0, rfl, l0, g0⟩ := hK
 exact ⟨ad, A0, c0, e, by have hq := hc 0 _ rfl; rwa [Nat.mul_one, Nat.add_zero] at hq, l0, g0⟩

def rd_L6 (xs : List (List S44)) (i : Int) : (List S44) := xs.getD i.toNat ([] : List S44)
theorem at_L6 {w : World} {A : Option Addr} {n : Nat} {xs : List (List S44)} (h : Kd.C (Kd.slice 44 k44) w A n xs) (i : Int) (h0 : 0 ≤ i) (h1 : i < n) : ∃ ad A0 c0, A = some ad ∧ w.cell? (ad.add i.toNat) = some (.slice A0 (rd_L6 xs i).length c0) ∧ (rd_L6 xs i).length ≤ c0 ∧ k44.C w A0 (rd_L6 xs i).length (rd_L6 xs i) := by
 obtain ⟨ad, c, e, _, hK, hc0⟩ := Kd.C_get h ([] : List S44) i h0 h1
 have hc : ∀ j u, c[j]? = some u → w.cell? (ad.add (i.toNat * 1 + j)) = some u := hc0
 obtain ⟨A0, c0, rfl, l0, g0⟩ := hK
 exact ⟨ad, A0, c0, e, by have hq := hc 0 _ rfl; rwa [Nat.mul_one, Nat.add_zero] at hq, l0, g0⟩

end Go.Proofs.Ytjppjlhhdfkloaa.PTp

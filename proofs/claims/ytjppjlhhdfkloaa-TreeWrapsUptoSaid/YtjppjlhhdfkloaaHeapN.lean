/- What nodes read lies in the blocks alone. -/
import Derived.Test.YtjppjlhhdfkloaaPTpx0
namespace Go.Proofs.Ytjppjlhhdfkloaa.PTp
open Go.RowKit Go.Proofs.YtjppjlhhdfkloaaW.PrintWords

theorem hp_slice {α : Type} {d : Kd α} (e : Nat) (hd : Kd.Heap d) : Kd.Heap (Kd.slice e d) := ⟨by
  rintro w w1 x cs hb ⟨A, c, rfl, hl, hr⟩
  exact ⟨A, c, rfl, hl, hd.C hb hr⟩⟩
theorem hp_pair {α β : Type} {a : Kd α} {b : Kd β} (ha : Kd.Heap a) (hb' : Kd.Heap b) : Kd.Heap (Kd.pair a b) := ⟨by
  rintro w w1 x cs hb ⟨c0, c1, rfl, h0, h1⟩
  exact ⟨c0, c1, rfl, ha.K hb h0, hb'.K hb h1⟩⟩
theorem hp_node {d : Kd S38} (h : Kd.Heap d) : Kd.Heap (F38 d) :=
  ⟨fun hb hk => (hp_pair ⟨fun _ h => h⟩ (hp_pair ⟨fun _ h => h⟩ (hp_pair (hp_slice 23 (hp_slice 38 h)) ⟨fun _ h => h⟩))).K hb hk⟩
theorem hp_upto : ∀ n, Kd.Heap (Kd.upto F38 4 [23, 38] n)
  | 0 => ⟨fun _ h => h⟩
  | n + 1 => hp_node (hp_upto n)
theorem k38_heap : Kd.Heap k38 := ⟨by
  rintro w w1 x cs hb ⟨n, h⟩
  exact ⟨n, (hp_upto n).K hb h⟩⟩
end Go.Proofs.Ytjppjlhhdfkloaa.PTp

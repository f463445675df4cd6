/- Arguments opened: what a datum of a Go type reads as in memory is a Lean value of the print's kind, whatever the nesting; numbers are of their kinds, and strings and slices no longer than the reach. No condition. -/
import Derived.Test.YtjiljpddkfcdbaaGreatDoorWWords
import Derived.Deep.Slices
import Derived.Deep.Fields
import Derived.ChangeArms
import Derived.SizedLaws
import Derived.ProofKit
namespace Go.Proofs.YtjiljpddkfcdbaaGreatDoor.Open
open Go.RowKit Go.ChangeShapes Go.WideShapes Go.Deep Go.Proofs.YtjiljpddkfcdbaaGreatDoorW.PrintWords

/-- Whatever is read as a datum of type t is a value of this kind. -/
structure Opens (P : Program) (t : TypeId) {α : Type} (d : Kd α) (wf : α → Prop) : Prop where
  size : P.cellsOf t = d.sz
  op : ∀ {H : Type} {enc : TypeId × Value → H} {w : World} {base : Nat} {spare : Nat → Bool} {held : Bool} {fuel : Nat} {cs : List Value} {x : DataW H × List MemPlace},
    DataW.trod enc P w base spare held fuel t cs = some x → (∀ n ∈ DataW.weights P t x.1, n ≤ reachBytes) → ∃ a : α, d.K w a cs ∧ wf a

section
variable {P : Program}
theorem opens_int {t : TypeId} {k : IntKind} (ht : P.underlying t = some (.int k)) (hc : P.cellsOf t = 1) : Opens P t (Kd.int k) (fun n => (Lit.int k n).wf = true) := by
  refine ⟨hc, ?_⟩
  intro H enc w base spare held fuel cs x h _
  cases fuel with
  | zero => simp [DataW.trod] at h
  | succ fuel =>
    unfold DataW.trod at h
    rw [ht] at h
    split at h <;> simp_all
    obtain ⟨⟨rfl, hw⟩, _⟩ := h
    exact ⟨_, rfl, hw⟩
theorem opens_string {t : TypeId} (ht : P.underlying t = some .string) (hc : P.cellsOf t = 1) : Opens P t Kd.string (fun s => s.size ≤ 140737488351232) := by
  refine ⟨hc, ?_⟩
  intro H enc w base spare held fuel cs x h hw
  cases fuel with
  | zero => simp [DataW.trod] at h
  | succ fuel =>
    unfold DataW.trod at h
    rw [ht] at h
    split at h <;> simp_all
    obtain ⟨_, rfl⟩ := h
    rename_i s _
    refine ⟨s, rfl, ?_⟩
    have := hw s.data.toList.length (by simp [DataW.weights])
    simpa [reachBytes] using this
theorem opens_slice {t e : TypeId} {α : Type} {d : Kd α} {wf : α → Prop} {B : Nat} (ht : P.underlying t = some (.slice e)) (hc : P.cellsOf t = 1) (hB : P.bytesOf e = B) (hd : Opens P e d wf) :
    Opens P t (Kd.slice e d) (fun xs => xs.length * B ≤ 140737488351232 ∧ ∀ x ∈ xs, wf x) := by
  refine ⟨hc, ?_⟩
  intro H enc w base spare held fuel cs x h hw
  rcases open_slice ht h with ⟨rfl, rfl⟩ | ⟨a, len, cap, m, n, D, Pl, rfl, hb, hl, hm, hmm, hx, hi⟩
  · exact ⟨[], ⟨none, 0, rfl, Nat.le_refl _, rfl, by simp, fun h => by simp at h⟩, by simp, fun x hx => by cases hx⟩
  · subst hx
    have hle : len ≤ m := by rw [hmm]; split <;> omega
    have hel : ∀ i, i < len → ∃ y : α, (∃ cs', w.cells? base (a.add (i * P.cellsOf e)) (P.cellsOf e) = some cs' ∧ d.K w y cs') ∧ wf y := by
      intro i hil
      obtain ⟨cs', hcs, htr⟩ := hi i (by omega)
      obtain ⟨y, hy, hwf⟩ := hd.op htr (fun q hq => hw q (by
        simp only [DataW.weights, ht, List.mem_cons, List.mem_append]
        refine .inr (.inl ?_)
        have : ∀ (l : List (DataW H)) (z : DataW H), z ∈ l → ∀ q ∈ DataW.weights P e z, q ∈ DataW.weightsAll P e l := by
          intro l
          induction l with
          | nil => intro z hz; cases hz
          | cons z0 l ih =>
            intro z hz q hq
            simp only [DataW.weightsAll, List.mem_append]
            rcases List.mem_cons.1 hz with rfl | hz
            · exact .inl hq
            · exact .inr (ih z hz q hq)
        exact this _ (D i) (List.mem_map.2 ⟨i, List.mem_range.2 hil, rfl⟩) q hq))
      exact ⟨y, ⟨cs', hcs, hy⟩, hwf⟩
    have hall : ∃ ys : List α, ys.length = len ∧ ∀ i y, ys[i]? = some y → (∃ cs', w.cells? base (a.add (i * P.cellsOf e)) (P.cellsOf e) = some cs' ∧ d.K w y cs') ∧ wf y := by
      clear hw hi h hl hmm hle
      induction len with
      | zero => exact ⟨[], rfl, fun i y hy => by simp at hy⟩
      | succ len ih =>
        obtain ⟨ys, hyl, hys⟩ := ih (fun i hil => hel i (by omega))
        obtain ⟨y, hy⟩ := hel len (by omega)
        refine ⟨ys ++ [y], by simp [hyl], fun i z hz => ?_⟩
        rcases Nat.lt_or_ge i ys.length with hlt | hge
        · rw [List.getElem?_append_left hlt] at hz
          exact hys i z hz
        · have hlt := (List.getElem?_eq_some_iff.1 hz).1
          rw [List.length_append, List.length_singleton] at hlt
          have hie : i = ys.length := by omega
          subst hie
          have : y = z := by simpa using hz
          subst this
          rw [hyl]; exact hy
    obtain ⟨ys, rfl, hys⟩ := hall
    refine ⟨ys, ⟨some a, cap, rfl, hl, rfl, by unfold maxLen at hm; omega, fun _ => ⟨a, rfl, fun j p hj => ?_⟩⟩, ?_, fun x hx => ?_⟩
    · obtain ⟨⟨cs', hcs, hK⟩, _⟩ := hys j p hj
      obtain ⟨_, hcl, hat⟩ := World.cells?_some hcs
      refine ⟨cs', by rw [hcl, hd.size], hK, fun i u hu => ?_⟩
      have hiu : i < P.cellsOf e := by rw [← hcl]; exact (List.getElem?_eq_some_iff.1 hu).1
      rw [← hd.size, ← Go.Deep.add_add, hat i hiu]
      exact hu
    · have := hw ((ys.length + (m - ys.length)) * P.bytesOf e) (by
        simp only [DataW.weights, ht, List.length_map, List.length_range]
        exact List.mem_cons_self)
      rw [hB] at this
      have h2 : ys.length * B ≤ (ys.length + (m - ys.length)) * B := Nat.mul_le_mul_right _ (by omega)
      simp only [reachBytes] at this
      omega
    · obtain ⟨j, hj⟩ := List.mem_iff_getElem?.1 hx
      exact (hys j x hj).2

/-- The fields of a struct from one on. -/
structure OpensL (P : Program) (fs : List Field) (off : Nat) {α : Type} (d : Kd α) (wf : α → Prop) : Prop where
  op : ∀ {H : Type} {enc : TypeId × Value → H} {w : World} {base : Nat} {spare : Nat → Bool} {held : Bool} {n : Nat} {cs : List Value} {xs : List (DataW H × List MemPlace)},
    cs.length = off + d.sz → xs.length = fs.length → (∀ (i : Nat) (f : Field), fs[i]? = some f → DataW.trod enc P w base spare held n f.type ((cs.drop f.offset).take (P.cellsOf f.type)) = xs[i]?) →
    (∀ q ∈ DataW.weightsEach P (fs.map (·.type)) (xs.map (·.1)), q ≤ reachBytes) → ∃ a : α, d.K w a (cs.drop off) ∧ wf a
theorem opensL_one {f : Field} {off : Nat} {α : Type} {d : Kd α} {wf : α → Prop} (ho : f.offset = off) (hd : Opens P f.type d wf) : OpensL P [f] off d wf := by
  refine ⟨?_⟩
  intro H enc w base spare held n cs xs hl hx hf hw
  match xs, hx with
  | [x], _ =>
    have h0 := hf 0 f rfl
    rw [ho, hd.size, List.take_of_length_le (by rw [List.length_drop]; omega)] at h0
    exact hd.op h0 (fun q hq => hw q (by simp only [List.map_cons, List.map_nil, DataW.weightsEach, List.mem_append]; exact .inl hq))
theorem opensL_cons {f : Field} {fs : List Field} {off : Nat} {α β : Type} {d : Kd α} {d2 : Kd β} {wf : α → Prop} {wf2 : β → Prop} (ho : f.offset = off) (hd : Opens P f.type d wf) (hd2 : OpensL P fs (off + d.sz) d2 wf2) :
    OpensL P (f :: fs) off (Kd.pair d d2) (fun x => wf x.1 ∧ wf2 x.2) := by
  refine ⟨?_⟩
  intro H enc w base spare held n cs xs hl hx hf hw
  match xs, hx with
  | x :: xs, hx =>
    have hsz : (Kd.pair d d2).sz = d.sz + d2.sz := rfl
    have h0 := hf 0 f rfl
    rw [ho, hd.size] at h0
    obtain ⟨a, ha, hwa⟩ := hd.op h0 (fun q hq => hw q (by simp only [List.map_cons, DataW.weightsEach, List.mem_append]; exact .inl hq))
    obtain ⟨b, hb, hwb⟩ := hd2.op (cs := cs) (xs := xs) (by rw [hl, hsz]; omega) (by simpa using hx) (fun i g hg => by simpa using hf (i + 1) g (by simpa using hg)) (fun q hq => hw q (by simp only [List.map_cons, DataW.weightsEach, List.mem_append]; exact .inr hq))
    refine ⟨(a, b), ⟨_, _, ?_, ha, hb⟩, hwa, hwb⟩
    rw [← List.drop_drop, List.take_append_drop]
theorem opens_struct {t : TypeId} {fs : Array Field} {α β : Type} {d : Kd α} {wf : α → Prop} (f : β → α) (g : α → β) (hfg : ∀ a, f (g a) = a) (ht : P.underlying t = some (.struct fs)) (hc : P.cellsOf t = d.sz) (hd : OpensL P fs.toList 0 d wf) :
    Opens P t (Kd.iso d f) (fun x => wf (f x)) := by
  refine ⟨hc, ?_⟩
  intro H enc w base spare held fuel cs x h hw
  obtain ⟨xs, n, _, rfl, hl, hlen, hf⟩ := DataW.trod_struct ht h
  obtain ⟨a, ha, hwa⟩ := hd.op (cs := cs) (xs := xs) (by rw [hl, hc]; omega) (by rw [hlen]; simp) (fun i f hfi => hf i f (by simpa using hfi)) (fun q hq => hw q (by simpa [DataW.weights, ht] using hq))
  exact ⟨g a, by show d.K w (f (g a)) cs; rw [hfg]; simpa using ha, by rw [hfg]; exact hwa⟩
theorem Opens.imp {t : TypeId} {α : Type} {d : Kd α} {wf wf' : α → Prop} (h : Opens P t d wf) (hi : ∀ a, wf a → wf' a) : Opens P t d wf' :=
  ⟨h.size, fun ht hw => let ⟨a, ha, hwa⟩ := h.op ht hw; ⟨a, ha, hi a hwa⟩⟩
/-- An argument of a law. -/
theorem Opens.arg {t : TypeId} {α : Type} {d : Kd α} {wf : α → Prop} (h : Opens P t d wf) {H : Type} {enc : TypeId × Value → H} {w : World} {base : Nat} {spare : Nat → Bool} {held : Bool} {v : Value} {x : DataW H} {ps : List MemPlace}
    (ht : DataW.Trod enc P w base spare held t v x ps) {ts : List TypeId} {ds : List (DataW H)} {j : Nat} (hsz : (DataW.weightsEach P ts ds).all (· ≤ reachBytes) = true) (hj : ts[j]? = some t) (hx : ds[j]? = some x) : ∃ a : α, d.K w a v.cells.toList ∧ wf a := by
  obtain ⟨fuel, hf⟩ := ht
  exact h.op hf (fun n hn => by simpa using List.all_eq_true.1 hsz n (DataW.weights_mem_each hj hx n hn))
end
end Go.Proofs.YtjiljpddkfcdbaaGreatDoor.Open

/- Nodes among a law's arguments: what is read as a list of nodes is one, however deep, and holds no more than is read. -/
import Derived.Test.YtjppjlhhdfkloaaPTpx0
import Derived.Test.YtjppjlhhdfkloaaOpenB
namespace Go.Proofs.Ytjppjlhhdfkloaa.PTp
open Go.RowKit Go.ChangeShapes Go.WideShapes Go.Deep Go.Proofs.YtjppjlhhdfkloaaW.PrintWords Go.Proofs.Ytjppjlhhdfkloaa.Open Go.Proofs.Ytjppjlhhdfkloaa.OpenB
set_option linter.unusedVariables false
set_option linter.unusedSimpArgs false

/-- Nodes, or a command's groups, and how much they hold. -/
inductive NBk : (List S38 ⊕ List (List S38)) → Nat → Prop
  | nil : NBk (.inl []) 1
  | cons {x : S38} {r : List S38} {p q : Nat} : NBk (.inr x.f2) p → NBk (.inl r) q → NBk (.inl (x :: r)) (p + 1 + q)
  | nog : NBk (.inr []) 1
  | grp {g : List S38} {r : List (List S38)} {p q : Nat} : NBk (.inl g) p → NBk (.inr r) q → NBk (.inr (g :: r)) (p + q)
mutual
def bkS : S38 → Nat
  | ⟨_, _, gs, _⟩ => bkG gs + 1
def bkN : List S38 → Nat
  | [] => 1
  | x :: r => bkS x + bkN r
def bkG : List (List S38) → Nat
  | [] => 1
  | g :: r => bkN g + bkG r
end
mutual
theorem nbk_s : ∀ x : S38, NBk (.inr x.f2) (bkG x.f2)
  | ⟨_, _, gs, _⟩ => nbk_g gs
theorem nbk_n : ∀ l : List S38, NBk (.inl l) (bkN l)
  | [] => by unfold bkN; exact .nil
  | x :: r => by
    have h := NBk.cons (nbk_s x) (nbk_n r)
    have e : bkN (x :: r) = bkG x.f2 + 1 + bkN r := by
      cases x
      simp only [bkN, bkS]
    rw [e]; exact h
theorem nbk_g : ∀ gs : List (List S38), NBk (.inr gs) (bkG gs)
  | [] => by unfold bkG; exact .nog
  | g :: r => by unfold bkG; exact .grp (nbk_n g) (nbk_g r)
end
theorem bk_bulk : ∀ l : List S38, bulkOf bkS l = bkN l
  | [] => by unfold bkN; rfl
  | x :: r => by unfold bkN; simp only [bulkOf, bk_bulk r]
theorem bkG_bulk : ∀ l : List (List S38), bulkOf bkN l = bkG l
  | [] => by unfold bkG; rfl
  | x :: r => by unfold bkG; simp only [bulkOf, bkG_bulk r]
/-- Whatever is read as a datum of type t, of a bulk of at most m, is a value of this kind, and holds no more. -/
structure OpensM (m : Nat) (P : Program) (t : TypeId) {α : Type} (d : Kd α) (bk : α → Nat) : Prop where
  size : P.cellsOf t = d.sz
  op : ∀ {H : Type} {enc : TypeId × Value → H} {w : World} {base : Nat} {spare : Nat → Bool} {held : Bool} {fuel : Nat} {cs : List Value} {x : DataW H × List MemPlace},
    DataW.trod enc P w base spare held fuel t cs = some x → Rows.uptoBulk x.1 ≤ m → ∃ a : α, d.K w a cs ∧ bk a ≤ Rows.uptoBulk x.1
section
variable {P : Program}
theorem sliceM {m : Nat} {t e : TypeId} {α : Type} {d : Kd α} {bk : α → Nat} (ht : P.underlying t = some (.slice e)) (hc : P.cellsOf t = 1) (hd : OpensM m P e d bk) : OpensM (m + 1) P t (Kd.slice e d) (bulkOf bk) := by
  refine ⟨hc, ?_⟩
  intro H enc w base spare held fuel cs x h hw
  rcases open_slice ht h with ⟨rfl, rfl⟩ | ⟨a, len, cap, mm, n, D, Pl, rfl, hb, hl, hm, hmm, hx, hi⟩
  · exact ⟨[], ⟨none, 0, rfl, Nat.le_refl _, rfl, by simp, fun h => by simp at h⟩, OpenB.one_le _⟩
  · subst hx
    have hle : len ≤ mm := by rw [hmm]; split <;> omega
    have hel : ∀ i, i < len → ∃ y : α, (∃ cs', w.cells? base (a.add (i * P.cellsOf e)) (P.cellsOf e) = some cs' ∧ d.K w y cs') ∧ bk y ≤ Rows.uptoBulk (D i) := by
      intro i hil
      obtain ⟨cs', hcs, htr⟩ := hi i (by omega)
      have hDi : Rows.uptoBulk (D i) ≤ m := by
        have h1 : Rows.uptoBulk (D i) ≤ Rows.uptoBulkAll ((List.range len).map D) := part_mem (List.mem_map.2 ⟨i, List.mem_range.2 hil, rfl⟩)
        simp only [Rows.uptoBulk] at hw
        omega
      obtain ⟨y, hy, hbk⟩ := hd.op htr hDi
      exact ⟨y, ⟨cs', hcs, hy⟩, hbk⟩
    have hall : ∃ ys : List α, ys.length = len ∧ (∀ i y, ys[i]? = some y → (∃ cs', w.cells? base (a.add (i * P.cellsOf e)) (P.cellsOf e) = some cs' ∧ d.K w y cs')) ∧ bulkOf bk ys ≤ Rows.uptoBulkAll ((List.range len).map D) + 1 := by
      clear hw hi h hl hmm hle
      induction len with
      | zero => exact ⟨[], rfl, fun i y hy => by simp at hy, by simp [bulkOf]⟩
      | succ len ih =>
        obtain ⟨ys, hyl, hys, hsum⟩ := ih (fun i hil => hel i (by omega))
        obtain ⟨y, hy, hby⟩ := hel len (by omega)
        refine ⟨ys ++ [y], by simp [hyl], fun i z hz => ?_, ?_⟩
        · rcases Nat.lt_or_ge i ys.length with hlt | hge
          · rw [List.getElem?_append_left hlt] at hz
            exact hys i z hz
          · have hlt := (List.getElem?_eq_some_iff.1 hz).1
            rw [List.length_append, List.length_singleton] at hlt
            have hie : i = ys.length := by omega
            subst hie
            have : y = z := by simpa using hz
            subst this
            rw [hyl]; exact hy
        · rw [bulkOf_snoc, List.range_succ, List.map_append, OpenB.append]
          simp only [List.map_cons, List.map_nil, Rows.uptoBulkAll]
          omega
    obtain ⟨ys, rfl, hys, hsum⟩ := hall
    refine ⟨ys, ⟨some a, cap, rfl, hl, rfl, by unfold maxLen at hm; omega, fun _ => ⟨a, rfl, fun j p hj => ?_⟩⟩, ?_⟩
    · obtain ⟨cs', hcs, hK⟩ := hys j p hj
      obtain ⟨_, hcl, hat⟩ := World.cells?_some hcs
      refine ⟨cs', by rw [hcl, hd.size], hK, fun i u hu => ?_⟩
      have hiu : i < P.cellsOf e := by rw [← hcl]; exact (List.getElem?_eq_some_iff.1 hu).1
      rw [← hd.size, ← Go.Deep.add_add, hat i hiu]
      exact hu
    · simp only [Rows.uptoBulk]; omega
theorem one_bool {t : TypeId} (ht : P.underlying t = some .bool) {H : Type} {enc : TypeId × Value → H} {w : World} {base : Nat} {spare : Nat → Bool} {held : Bool} {fuel : Nat} {cs : List Value} {x : DataW H × List MemPlace} (h : DataW.trod enc P w base spare held fuel t cs = some x) : ∃ b, cs = [.bool b] := by
  cases fuel with
  | zero => simp [DataW.trod] at h
  | succ fuel =>
    unfold DataW.trod at h
    rw [ht] at h
    split at h <;> first | exact ⟨_, rfl⟩ | simp_all
theorem one_int {t : TypeId} {k : IntKind} (ht : P.underlying t = some (.int k)) {H : Type} {enc : TypeId × Value → H} {w : World} {base : Nat} {spare : Nat → Bool} {held : Bool} {fuel : Nat} {cs : List Value} {x : DataW H × List MemPlace} (h : DataW.trod enc P w base spare held fuel t cs = some x) : ∃ n, cs = [.int k n] := by
  cases fuel with
  | zero => simp [DataW.trod] at h
  | succ fuel =>
    unfold DataW.trod at h
    rw [ht] at h
    split at h <;> simp_all
theorem one_string {t : TypeId} (ht : P.underlying t = some .string) {H : Type} {enc : TypeId × Value → H} {w : World} {base : Nat} {spare : Nat → Bool} {held : Bool} {fuel : Nat} {cs : List Value} {x : DataW H × List MemPlace} (h : DataW.trod enc P w base spare held fuel t cs = some x) : ∃ s, cs = [.string s] := by
  cases fuel with
  | zero => simp [DataW.trod] at h
  | succ fuel =>
    unfold DataW.trod at h
    rw [ht] at h
    split at h <;> first | exact ⟨_, rfl⟩ | simp_all
end
theorem OpensM.congr {m : Nat} {P : Program} {t : TypeId} {α : Type} {d : Kd α} {bk bk' : α → Nat} (h : OpensM m P t d bk) (e : ∀ a, bk a = bk' a) : OpensM m P t d bk' :=
  ⟨h.size, fun ht hw => let ⟨a, ha, hb⟩ := h.op ht hw; ⟨a, ha, by rw [← e]; exact hb⟩⟩
theorem nodeM {m : Nat} (hd : OpensM m Try.prog 36 (Kd.slice 23 (Kd.slice 38 k38)) bkG) : OpensM (m + 1) Try.prog 38 k38 bkS := by
  refine ⟨by kernel_rfl, ?_⟩
  intro H enc w base spare held fuel cs x h hw
  obtain ⟨xs, n, _, rfl, hl, hlen, hf⟩ := DataW.trod_struct Try.underlying38 h
  have hl4 : cs.length = 4 := by rw [hl]; kernel_rfl
  have c4 : Try.prog.cellsOf 4 = 1 := by kernel_rfl
  have c9 : Try.prog.cellsOf 9 = 1 := by kernel_rfl
  have c36 : Try.prog.cellsOf 36 = 1 := by kernel_rfl
  have c3 : Try.prog.cellsOf 3 = 1 := by kernel_rfl
  match cs, hl4, xs, hlen with
  | [v0, v1, v2, v3], _, [x0, x1, x2, x3], _ =>
    have h0 : DataW.trod enc Try.prog w base spare held n 4 (List.take (Try.prog.cellsOf 4) (List.drop 0 [v0, v1, v2, v3])) = some x0 := hf 0 _ rfl
    have h1 : DataW.trod enc Try.prog w base spare held n 9 (List.take (Try.prog.cellsOf 9) (List.drop 1 [v0, v1, v2, v3])) = some x1 := hf 1 _ rfl
    have h2 : DataW.trod enc Try.prog w base spare held n 36 (List.take (Try.prog.cellsOf 36) (List.drop 2 [v0, v1, v2, v3])) = some x2 := hf 2 _ rfl
    have h3 : DataW.trod enc Try.prog w base spare held n 3 (List.take (Try.prog.cellsOf 3) (List.drop 3 [v0, v1, v2, v3])) = some x3 := hf 3 _ rfl
    rw [c4] at h0; rw [c9] at h1; rw [c36] at h2; rw [c3] at h3
    obtain ⟨b, e0⟩ := one_bool Try.underlying4 h0
    obtain ⟨s, e1⟩ := one_string Try.underlying9 h1
    obtain ⟨z, e3⟩ := one_int Try.underlying3 h3
    have hm : Rows.uptoBulk x2.1 ≤ m := by
      simp only [Rows.uptoBulk, List.map_cons, List.map_nil, Rows.uptoBulkAll] at hw
      omega
    obtain ⟨gs, hK, hbk⟩ := hd.op h2 hm
    obtain ⟨A, c, e2, hlc, hC⟩ := hK
    simp at e0 e1 e2 e3
    subst e0; subst e1; subst e2; subst e3
    refine ⟨⟨b, s, gs, z⟩, k38_mk w ⟨b, s, gs, z⟩ hlc hC, ?_⟩
    unfold bkS
    simp only [Rows.uptoBulk, List.map_cons, List.map_nil, Rows.uptoBulkAll]
    omega
theorem allM : ∀ m, OpensM m Try.prog 38 k38 bkS ∧ OpensM m Try.prog 23 (Kd.slice 38 k38) bkN ∧ OpensM m Try.prog 36 (Kd.slice 23 (Kd.slice 38 k38)) bkG
  | 0 => ⟨⟨by kernel_rfl, fun {_ _ _ _ _ _ _ _ x} _ hw => by have := OpenB.one_le x.1; omega⟩, ⟨by kernel_rfl, fun {_ _ _ _ _ _ _ _ x} _ hw => by have := OpenB.one_le x.1; omega⟩, ⟨by kernel_rfl, fun {_ _ _ _ _ _ _ _ x} _ hw => by have := OpenB.one_le x.1; omega⟩⟩
  | m + 1 => by
    obtain ⟨hA, hB, hC⟩ := allM m
    exact ⟨nodeM hC, (sliceM Try.underlying23 (by kernel_rfl) hA).congr bk_bulk, (sliceM Try.underlying36 (by kernel_rfl) hB).congr bkG_bulk⟩
theorem nodesB : OpensB Try.prog 23 (Kd.slice 38 k38) (fun a => ∃ n, NBk (.inl a) n) bkN :=
  ⟨by kernel_rfl, fun {_ _ _ _ _ _ _ _ x} h _ => let ⟨a, ha, hb⟩ := (allM (Rows.uptoBulk x.1)).2.1.op h (Nat.le_refl _); ⟨a, ha, ⟨_, nbk_n a⟩, hb⟩⟩
end Go.Proofs.Ytjppjlhhdfkloaa.PTp

/- lexer.Escape, walked whole: strings.NewReplacer, Once.Do, buildOnce, the generic replacer with its tree of keys, and Replace: it returns the text with each special byte escaped (escL), and leaves what was there as it was. Conditions: a text of at most 35184372088832 bytes; the program is the given one. -/
import Derived.Test.YtjiljpddkfcdbaaGreatDoorProg
import Derived.Test.YtjiljpddkfcdbaaGreatDoorLocks
import Derived.Test.YtjiljpddkfcdbaaGreatDoorShelf
import Derived.Below
import Derived.WalkKit
import Derived.WalkSpells
import Derived.Defers
import Derived.RegionCalls
import Derived.Deep.LoopGhost
import Derived.Deep.WholeRow
import Derived.KernelRfl
import Derived.RowKit3
import Derived.Laws.LoneSync
import Derived.LoopN
import Derived.StillTailTactics
import Derived.Lib.IndexBytes
import Derived.Deep.OwnRows
import Derived.LaidEqlPtr
import Derived.OwnWalk
import Derived.Stop.Asserts
import Derived.Deep.RegionWith
import Derived.Laws.IdiomStrings
import Derived.Laws.BytesArg
import Derived.Lib.AppendZeros
import Derived.Test.YtjiljpddkfcdbaaGreatDoorWWords
import Derived.Test.YtjiljpddkfcdbaaGreatDoorWLast
import Derived.Test.YtjiljpddkfcdbaaGreatDoorWMore
namespace Go.Proofs.YtjiljpddkfcdbaaGreatDoor.PLx
open Go.RowKit Go.Proofs.YtjiljpddkfcdbaaGreatDoorW.PrintWords Go.Proofs.YtjiljpddkfcdbaaGreatDoorW.PrintLast Go.Proofs.YtjiljpddkfcdbaaGreatDoorW.PrintMore
set_option linter.unusedVariables false
set_option linter.unusedSimpArgs false
/-! A call that turns some blocks alone, beside what is new -/
structure Turns (S : Nat → Prop) (w w' : World) : Prop where
  os : w'.os = w.os
  tape : w'.tape = w.tape
  output : w'.output = w.output
  size : w.heap.size ≤ w'.heap.size
  block : ∀ k, k < w.heap.size → ¬ S k → w'.heap[k]? = w.heap[k]?
theorem Turns.refl (S : Nat → Prop) (w : World) : Turns S w w := ⟨rfl, rfl, rfl, Nat.le_refl _, fun _ _ _ => rfl⟩
theorem Turns.trans {S : Nat → Prop} {a b c : World} (h : Turns S a b) (k : Turns S b c) : Turns S a c :=
  ⟨k.os.trans h.os, k.tape.trans h.tape, k.output.trans h.output, Nat.le_trans h.size k.size, fun i hi hg => (k.block i (Nat.lt_of_lt_of_le hi h.size) hg).trans (h.block i hi hg)⟩
/-- What the second turns is of the first's, or new. -/
theorem Turns.then_ {S S' : Nat → Prop} {a b c : World} (h : Turns S a b) (k : Turns S' b c) (hs : ∀ i, S' i → S i ∨ a.heap.size ≤ i) : Turns S a c :=
  ⟨k.os.trans h.os, k.tape.trans h.tape, k.output.trans h.output, Nat.le_trans h.size k.size, fun i hi hg => (k.block i (Nat.lt_of_lt_of_le hi h.size) (fun hk => (hs i hk).elim hg (fun hle => absurd hle (by omega)))).trans (h.block i hi hg)⟩
theorem Turns.below {S : Nat → Prop} {w w' : World} (h : Below w.heap.size w w') : Turns S w w' := ⟨h.os, h.tape, h.output, h.size, fun i hi _ => h.block i hi⟩
theorem Turns.put {S : Nat → Prop} {a b : World} (h : Turns S a b) (p : Addr) (u : Value) (hp : S p.block ∨ a.heap.size ≤ p.block) : Turns S a (b.setCell p u) :=
  ⟨h.os, h.tape, h.output, by simpa [World.setCell] using h.size, fun i hi hg => (Below.heap_setCell b p u i (fun e => hp.elim (fun s => hg (by rw [e]; exact s)) (fun s => absurd hi (by omega)))).trans (h.block i hi hg)⟩
theorem Turns.alloc {S : Nat → Prop} {a b : World} (h : Turns S a b) (o : Obj) : Turns S a (b.alloc o) := h.trans (Turns.below (below_alloc (Below.refl _ _) o))
theorem Turns.drew {S : Nat → Prop} {a b : World} (h : Turns S a b) : Turns S a b.drew := ⟨h.os, h.tape, h.output, h.size, h.block⟩
theorem Turns.drewN {S : Nat → Prop} {a b : World} (h : Turns S a b) (n : Nat) : Turns S a (b.drewN n) := ⟨h.os, h.tape, h.output, h.size, h.block⟩
theorem Turns.toBelow {S : Nat → Prop} {a b : World} {B : Nat} (h : Turns S a b) (hB : B ≤ a.heap.size) (hs : ∀ i, S i → B ≤ i) : Below B a b :=
  ⟨h.os, h.tape, h.output, h.size, fun i hi => h.block i (Nat.lt_of_lt_of_le hi hB) (fun hk => absurd (hs i hk) (by omega))⟩
theorem Turns.blk {S : Nat → Prop} {w w1 : World} {g : Nat} {o : Obj} (k : Turns S w w1) (h : w.heap[g]? = some o) (hn : ¬ S g) : w1.heap[g]? = some o := (k.block g (blk_lt h) hn).trans h
theorem new_at {n : Nat} {w0 : World} (e : w0.heap.size = n) (o : Obj) : (w0.alloc o).heap[n]? = some o := by subst e; exact blk_new _ _
theorem size_set (w : World) (p : Addr) (u : Value) : (w.setCell p u).heap.size = w.heap.size := by simp [World.setCell]
theorem size_alloc (w : World) (o : Obj) : (w.alloc o).heap.size = w.heap.size + 1 := by simp
/-! trieNode.add: a node is five cells -/
def node (val : ByteArray) (pr : Int) (pre : ByteArray) (next tab : Value) : Array Value := #[.string val, .int .i64 pr, .string pre, next, tab]
def e0 : ByteArray := ⟨#[]⟩
set_option maxHeartbeats 1600000 in
set_option maxRecDepth 100000 in
/-- At an empty key: the node's own value, if it has none. -/
theorem add_end (nb : Nat) (rp : Value) (val pre : ByteArray) (pr : Int) (next tab v0 : Value) (w : World) (h : w.heap[nb]? = some (.cells #[v0, .int .i64 0, .string pre, next, tab] 142 (0, 0))) :
    Calls Tryz.prog 84 #[.pointer (some ⟨nb, 0, none⟩), .string e0, .string val, .int .i64 pr, rp] w fun e w' => e = .returned (.tuple #[]) ∧ w'.heap[nb]? = some (.cells #[.string val, .int .i64 pr, .string pre, next, tab] 142 (0, 0)) ∧ Turns (fun k => k = nb) w w' ∧ w'.heap.size = w.heap.size := by
  have c1 : w.cell? ⟨nb, 1, none⟩ = some (.int .i64 0) := by rw [blk_cell h]; rfl
  have c0 : w.cell? ⟨nb, 0, none⟩ = some v0 := by rw [blk_cell h]; rfl
  have z0 : w.frozen? ⟨nb, 0, none⟩ = false := blk_frozen h 0
  have z1 : w.frozen? ⟨nb, 1, none⟩ = false := blk_frozen h 1
  unfold e0
  go_enter Tryz.func84, Tryz.ntmps84
  go_wp2
  refine bodyPost_ret (results_none rfl _ _ _) rfl ?_
  have h1 := blk_put h 0 (.string val) (cs' := #[.string val, .int .i64 0, .string pre, next, tab]) rfl
  have h2 := blk_put h1 1 (.int .i64 pr) (cs' := #[.string val, .int .i64 pr, .string pre, next, tab]) rfl
  exact ⟨rfl, h2, ((Turns.refl (fun k => k = nb) w).put ⟨nb, 0, none⟩ _ (.inl rfl)).put ⟨nb, 1, none⟩ _ (.inl rfl), by simp [World.setCell]⟩
set_option maxHeartbeats 1600000 in
set_option maxRecDepth 100000 in
/-- At a fresh node: the rest of the key is its prefix, and a new node has the value. -/
theorem add_leaf (nb : Nat) (rp : Value) (key val : ByteArray) (hk : key.toList.isEmpty = false) (pr : Int) (v0 v1 : Value) (w : World) (h : w.heap[nb]? = some (.cells #[v0, v1, .string e0, .pointer none, .slice none 0 0] 142 (0, 0))) :
    Calls Tryz.prog 84 #[.pointer (some ⟨nb, 0, none⟩), .string key, .string val, .int .i64 pr, rp] w fun e w' => e = .returned (.tuple #[]) ∧ w'.heap[nb]? = some (.cells #[v0, v1, .string key, .pointer (some ⟨w.heap.size, 0, none⟩), .slice none 0 0] 142 (0, 0)) ∧ w'.heap[w.heap.size]? = some (.cells (node val pr e0 (.pointer none) (.slice none 0 0)) 142 (0, 0)) ∧ Turns (fun k => k = nb) w w' ∧ w'.heap.size = w.heap.size + 1 := by
  have c2 : w.cell? ⟨nb, 2, none⟩ = some (.string e0) := by rw [blk_cell h]; rfl
  have c3 : w.cell? ⟨nb, 3, none⟩ = some (.pointer none) := by rw [blk_cell h]; rfl
  have c4 : w.cell? ⟨nb, 4, none⟩ = some (.slice none 0 0) := by rw [blk_cell h]; rfl
  have z2 : w.frozen? ⟨nb, 2, none⟩ = false := blk_frozen h 2
  have z3 : w.frozen? ⟨nb, 3, none⟩ = false := blk_frozen h 3
  have hlt := blk_lt h
  unfold e0 at c2
  have hns : ∀ (a : Option Addr) (n c : Nat) (w : World), (binOp .neq 140 (.slice a n c) (.slice none 0 0)).run Tryz.prog w = .ok (.bool (!a.isNone)) w := fun a n c w => run_neq_slice_nil_any w 140 139 a n c 0 0 Tryz.underlying140
  go_enter Tryz.func84, Tryz.ntmps84
  go_wp2_with (go_at_call 84; refine (add_end w.heap.size _ val e0 pr (.pointer none) (.slice none 0 0) (.string e0) _ ?h).mono ?_; (case h => exact new_at (by simp only [size_set]) _); rintro e w' ⟨rfl, q1, q2, q3⟩)
  go_end0
  have h1 := blk_alloc (blk_put (blk_put h 2 (.string key) (cs' := #[v0, v1, .string key, .pointer none, .slice none 0 0]) rfl) 3 (.pointer (some ⟨w.heap.size, 0, none⟩)) (cs' := #[v0, v1, .string key, .pointer (some ⟨w.heap.size, 0, none⟩), .slice none 0 0]) rfl) (.cells #[.string ⟨#[]⟩, .int .i64 0, .string ⟨#[]⟩, .pointer none, .slice none 0 0] 142 (0, 0))
  refine ⟨rfl, q2.blk h1 (by show ¬ _; omega), q1, ((((Turns.refl (fun k => k = nb) w).put ⟨nb, 2, none⟩ _ (.inl rfl)).put ⟨nb, 3, none⟩ _ (.inl rfl)).alloc _).then_ q2 (fun i hi => .inr (by omega)), by rw [q3]; simp only [size_alloc, size_set]⟩

/-! makeGenericReplacer: the replacer's block is a node of five cells, the table's size, and 256 cells of the mapping -/
def GR (tab : Value) (ts : Nat) (M : Nat → Nat) : Array Value := #[.string ⟨#[]⟩, .int .i64 0, .string ⟨#[]⟩, .pointer none, tab, .int .i64 (ts : Nat)] ++ (Array.range 256).map fun j => Value.int .u8 (M j : Nat)
theorem gr_size (tab : Value) (ts : Nat) (M : Nat → Nat) : (GR tab ts M).size = 262 := by simp [GR]
theorem gr_at (tab : Value) (ts : Nat) (M : Nat → Nat) {j : Nat} (h : j < 256) : (GR tab ts M)[6 + j]? = some (.int .u8 (M j : Nat)) := by
  unfold GR
  rw [Array.getElem?_append_right (by simp)]
  simp [h]
theorem gr_low (tab : Value) (ts : Nat) (M : Nat → Nat) {j : Nat} (h : j < 6) : (GR tab ts M)[j]? = #[.string ⟨#[]⟩, .int .i64 0, .string ⟨#[]⟩, .pointer none, tab, .int .i64 (ts : Nat)][j]? := by
  unfold GR
  rw [Array.getElem?_append_left (by simpa using h)]
def upd (M : Nat → Nat) (i v : Nat) : Nat → Nat := fun j => if j = i then v else M j
theorem gr_set (tab : Value) (ts : Nat) (M : Nat → Nat) {i : Nat} (h : i < 256) (v : Nat) : (GR tab ts M).setIfInBounds (6 + i) (.int .u8 (v : Nat)) = GR tab ts (upd M i v) := by
  apply Array.ext
  · simp [gr_size]
  · intro j h1 h2
    have hj : j < 262 := by simpa [gr_size] using h2
    by_cases c : j < 6
    · have e1 : (GR tab ts M)[j]? = (GR tab ts (upd M i v))[j]? := by rw [gr_low _ _ _ c, gr_low _ _ _ c]
      rw [Array.getElem_setIfInBounds_ne (by simpa [gr_size] using hj) (by omega)]
      rw [Array.getElem?_eq_getElem (by simpa [gr_size] using hj), Array.getElem?_eq_getElem (by simpa [gr_size] using hj)] at e1
      exact Option.some.inj e1
    · obtain ⟨q, rfl⟩ : ∃ q, j = 6 + q := ⟨j - 6, by omega⟩
      have hq : q < 256 := by omega
      have e2 := gr_at tab ts (upd M i v) hq
      rw [Array.getElem?_eq_getElem (by rw [gr_size]; omega)] at e2
      rw [Option.some.inj e2]
      by_cases e : q = i
      · subst e
        simp [upd]
      · have e3 := gr_at tab ts M hq
        rw [Array.getElem?_eq_getElem (by rw [gr_size]; omega)] at e3
        rw [Array.getElem_setIfInBounds_ne (by rw [gr_size]; omega) (by omega), Option.some.inj e3]
        simp [upd, e]
theorem gr_tab (tab tab' : Value) (ts : Nat) (M : Nat → Nat) : (GR tab ts M).setIfInBounds 4 tab' = GR tab' ts M := by
  unfold GR
  simp [Array.setIfInBounds_append]
theorem gr_ts (tab : Value) (ts ts' : Nat) (M : Nat → Nat) : (GR tab ts M).setIfInBounds 5 (.int .i64 (ts' : Nat)) = GR tab ts' M := by
  unfold GR
  simp [Array.setIfInBounds_append]
theorem gr_zero : Tryz.zeroCells144 = GR (.slice none 0 0) 0 (fun _ => 0) := by kernel_rfl
/-- The pairs that Escape asks for. -/
def oldnew : List ByteArray := [⟨#[92]⟩, ⟨#[92, 92]⟩, ⟨#[123]⟩, ⟨#[92, 123]⟩, ⟨#[125]⟩, ⟨#[92, 125]⟩, ⟨#[37]⟩, ⟨#[92, 37]⟩, ⟨#[194, 173]⟩, ⟨#[92, 45]⟩]
/-! The mapping read as a whole -/
def MA (M : Nat → Nat) : Array Value := ((List.range 256).map fun j => Value.int .u8 (M j : Nat)).toArray
theorem ma_size (M : Nat → Nat) : (MA M).size = 256 := by simp [MA]
theorem ma_at (M : Nat → Nat) {j : Nat} (h : j < 256) : (MA M)[j]? = some (.int .u8 (M j : Nat)) := by simp [MA, h]
theorem load122 {tab : Value} {ts : Nat} {M : Nat → Nat} {g : Nat} {w : World} (h : w.heap[g]? = some (.cells (GR tab ts M) 144 (0, 0))) : (loadVar 122 ⟨g, 6, none⟩).run Tryz.prog w = .ok (.agg (MA M)) w := by
  have hl : (loadCells ⟨g, 6, none⟩ 256).run Tryz.prog w = .ok (MA M) w := run_loadCells w ⟨g, 6, none⟩ 256 (fun j => Value.int .u8 (M j : Nat)) (fun j hj => by
    have hadd : (⟨g, 6, none⟩ : Addr).add j = ⟨g, 6 + j, none⟩ := by unfold Addr.add; split <;> simp_all
    rw [hadd]
    exact (blk_cell h (6 + j)).trans (gr_at _ _ _ hj))
  simp only [loadVar, Sem.run_bind, Sem.run_pure, Tryz.isAgg122, Tryz.sizeOf122, Result.andThen, hl, if_true]
theorem wp_load_whole {P : Program} {a : Act} {w : World} {next : Act → World → Prop} {Q : Exit → Act → World → Prop} {o : Oper} {t : TypeId} {x : Operand} (ho : o.op = .load t x) {p : Addr} (hx : a.eval x = .pointer (some p)) {v : Value} (hl : (loadVar t p).run P w = .ok v w) (h : next (a.put o.dst v) w) : o.wp P a w next Q := by
  have e : (execOp a.eval o).run P w = .ok (.value v) w := by
    simp only [execOp, ho, hx, Instr.loadAt, Instr.sureAddr, Sem.run_bind, Sem.run_pure, Result.andThen, hl]
  unfold Oper.wp
  rw [e]
  exact h
theorem index122 (M : Nat → Nat) {j : Nat} (h : j < 256) (w : World) : (Instr.index 122 (.agg (MA M)) (.int .i64 (j : Int))).run Tryz.prog w = .ok (.int .u8 (M j : Nat)) w := by
  have h0 : (0 : Int) ≤ (j : Int) ∧ (j : Int) < 256 := by omega
  have hj : (MA M)[j]? = some (.int .u8 (M j : Nat)) := ma_at M h
  have hv : (MA M)[j]'(by rw [ma_size]; exact h) = .int .u8 (M j : Nat) := by
    rw [Array.getElem?_eq_getElem (by rw [ma_size]; exact h)] at hj
    exact Option.some.inj hj
  simp [Instr.index, asIntOf, Tryz.runUnderlying122, Tryz.sizeOf5, Tryz.isAgg5, Result.andThen, h0, part, hj, hv, ma_size, h]

def mark : List UInt8 → (Nat → Nat) → Nat → Nat
  | [], M => M
  | x :: r, M => mark r (upd M x.toNat 1)
theorem mark_snoc : ∀ (l : List UInt8) (x : UInt8) (M : Nat → Nat), mark (l ++ [x]) M = upd (mark l M) x.toNat 1
  | [], x, M => rfl
  | y :: l, x, M => mark_snoc l x (upd M y.toNat 1)
def key (i : Nat) : ByteArray := oldnew.getD i ⟨#[]⟩
def Mq : Nat → Nat → Nat
  | 0 => fun _ => 0
  | q + 1 => mark (key (2 * q)).data.toList (Mq q)
/-- How many marks stand ahead of a place. -/
def cnt : Nat → Nat
  | 0 => 0
  | i + 1 => cnt i + Mq 5 i
/-- The mapping that is made: a marked byte's rank, or 6. -/
def mapped (j : Nat) : Nat := if Mq 5 j = 0 then 6 else cnt j
def phase (i j : Nat) : Nat := if j < i then mapped j else Mq 5 j
theorem phase_step (i : Nat) : upd (phase i) i (mapped i) = phase (i + 1) := by
  funext j
  unfold upd phase
  by_cases h : j = i
  · subst h
    simp
  · rw [if_neg h]
    by_cases h1 : j < i
    · rw [if_pos h1, if_pos (by omega)]
    · rw [if_neg h1, if_neg (by omega)]
theorem phase_zero : phase 0 = Mq 5 := by funext j; simp [phase]
theorem gr_congr {tab : Value} {ts : Nat} {M M' : Nat → Nat} (h : ∀ j, j < 256 → M j = M' j) : GR tab ts M = GR tab ts M' := by
  unfold GR
  congr 1
  apply Array.ext
  · simp
  · intro j h1 h2
    have hj : j < 256 := by simpa using h1
    simp [h j hj]
theorem gr_phase (tab : Value) (ts : Nat) : GR tab ts (phase 256) = GR tab ts mapped := gr_congr fun j hj => by unfold phase; rw [if_pos hj]
theorem cnt_step (i : Nat) : cnt (i + 1) = cnt i + Mq 5 i := rfl
set_option maxRecDepth 100000 in
theorem mq_one : ∀ i, i < 256 → Mq 5 i ≤ 1 := by decide +kernel
set_option maxRecDepth 100000 in
theorem cnt_six : ∀ i, i < 257 → cnt i ≤ 6 := by decide +kernel
set_option maxRecDepth 100000 in
theorem cnt_end : cnt 256 = 6 := by decide +kernel

/-! add at the root: the table's slot is free -/
theorem one_ne (d : UInt8) : (⟨#[d]⟩ : ByteArray).toList.isEmpty = false := by
  unfold ByteArray.toList
  rw [ByteArray.toList.loop]
  rw [ByteArray.toList.loop]
  rfl
set_option maxHeartbeats 4000000 in
set_option maxRecDepth 100000 in
/-- A key of one byte. -/
theorem add_root1 (g tb : Nat) (hgt : ¬ g = tb) (c : UInt8) (m : Nat) (hm6 : m < 6) (T : Array Value) (M : Nat → Nat) (hm : M c.toNat = m) (val : ByteArray) (pr : Int) (w : World)
    (hg : w.heap[g]? = some (.cells (GR (.slice (some ⟨tb, 0, none⟩) 6 6) 6 M) 144 (0, 0))) (ht : w.heap[tb]? = some (.cells T 139 (0, 0))) (hT : T[m]? = some (.pointer none)) :
    Calls Tryz.prog 84 #[.pointer (some ⟨g, 0, none⟩), .string ⟨#[c]⟩, .string val, .int .i64 pr, .pointer (some ⟨g, 0, none⟩)] w fun e w' => e = .returned (.tuple #[]) ∧ w'.heap[tb]? = some (.cells (T.setIfInBounds m (.pointer (some ⟨w.heap.size, 0, none⟩))) 139 (0, 0)) ∧ w'.heap[w.heap.size]? = some (.cells (node val pr e0 (.pointer none) (.slice none 0 0)) 142 (0, 0)) ∧ Turns (fun k => k = tb) w w' ∧ w'.heap.size = w.heap.size + 1 := by
  have c1 : w.cell? ⟨g, 1, none⟩ = some (.int .i64 0) := by rw [blk_cell hg, gr_low _ _ _ (by omega)]; rfl
  have c2 : w.cell? ⟨g, 2, none⟩ = some (.string ⟨#[]⟩) := by rw [blk_cell hg, gr_low _ _ _ (by omega)]; rfl
  have c4 : w.cell? ⟨g, 4, none⟩ = some (.slice (some ⟨tb, 0, none⟩) 6 6) := by rw [blk_cell hg, gr_low _ _ _ (by omega)]; rfl
  have c5 : w.cell? ⟨g, 5, none⟩ = some (.int .i64 6) := by rw [blk_cell hg, gr_low _ _ _ (by omega)]; rfl
  have cm : w.cell? ⟨g, 6 + c.toNat, none⟩ = some (.int .u8 (m : Nat)) := by rw [blk_cell hg, gr_at _ _ _ (UInt8.toNat_lt c), hm]
  have ct : w.cell? ⟨tb, m, none⟩ = some (.pointer none) := (blk_cell ht m).trans hT
  have zt : w.frozen? ⟨tb, m, none⟩ = false := blk_frozen ht m
  have hx256 : (c.toNat : Int) < 256 := by have := UInt8.toNat_lt c; omega
  have hm256 : (m : Int) < 6 := by omega
  have hlt := blk_lt hg
  have hltt := blk_lt ht
  have HG := Aside0.mk hg
  have HT := Aside0.mk ht
  have HM := Aside0.mk hm
  clear hg ht hm
  have hcx : ∀ h, (⟨#[c]⟩ : ByteArray)[0]'h = c := fun _ => rfl
  have hns : ∀ (a : Option Addr) (n c : Nat) (w : World), (binOp .neq 140 (.slice a n c) (.slice none 0 0)).run Tryz.prog w = .ok (.bool (!a.isNone)) w := fun a n c w => run_neq_slice_nil_any w 140 139 a n c 0 0 Tryz.underlying140
  go_enter Tryz.func84, Tryz.ntmps84
  go_wp2
  go_still_tail 7, (by kernel_rfl)
  change wpList _ _ _ _ _ w.drew
  go_wp2
  obtain ⟨w4, hw4⟩ : ∃ w4, w4 = ((w.setCell ⟨tb, m, none⟩ (.pointer (some ⟨w.heap.size, 0, none⟩))).alloc (.cells #[.string ⟨#[]⟩, .int .i64 0, .string ⟨#[]⟩, .pointer none, .slice none 0 0] 142 (0, 0))).drew := ⟨_, rfl⟩
  rw [← hw4]
  have N4 : w4.heap[w.heap.size]? = some (.cells #[.string ⟨#[]⟩, .int .i64 0, .string ⟨#[]⟩, .pointer none, .slice none 0 0] 142 (0, 0)) := by rw [hw4]; exact new_at (by simp only [size_set]) _
  have T4 : w4.heap[tb]? = some (.cells (T.setIfInBounds m (.pointer (some ⟨w.heap.size, 0, none⟩))) 139 (0, 0)) := by rw [hw4]; exact blk_alloc (blk_put HT.out m _ rfl) _
  have U4 : Turns (fun k => k = tb) w w4 := by rw [hw4]; exact (((Turns.refl (fun k => k = tb) w).put ⟨tb, m, none⟩ _ (.inl rfl)).alloc _).drew
  have S4 : w4.heap.size = w.heap.size + 1 := by rw [hw4]; show (World.alloc _ _).heap.size = _; simp only [size_alloc, size_set]
  have G4 := U4.blk HG.out hgt
  have k4 : w4.cell? ⟨g, 4, none⟩ = some (.slice (some ⟨tb, 0, none⟩) 6 6) := by rw [blk_cell G4, gr_low _ _ _ (by omega)]; rfl
  have kt : w4.cell? ⟨tb, m, none⟩ = some (.pointer (some ⟨w.heap.size, 0, none⟩)) := by rw [blk_cell T4]; obtain ⟨hl, _⟩ := Array.getElem?_eq_some_iff.1 hT; simp [hl]
  have P4 := Aside0.mk (And.intro N4 (And.intro T4 (And.intro U4 S4)))
  clear N4 T4 U4 S4 G4 hw4 c1 c2 c4 c5 cm ct zt
  go_still_tail 12, (by kernel_rfl)
  change wpList _ _ _ _ _ w4.drew
  have hx1 : (⟨#[c]⟩ : ByteArray).extract 1 1 = e0 := rfl
  go_wp2_with (go_at_call 84; refine (add_end w.heap.size _ val e0 pr (.pointer none) (.slice none 0 0) (.string e0) _ ?h).mono ?_; (case h => exact P4.out.1); rintro e w' ⟨rfl, q1, q2, q3⟩)
  go_end0
  obtain ⟨N4, T4, U4, S4⟩ := P4.out
  refine ⟨rfl, q2.blk T4 (by show ¬ _; omega), q1, (U4.drew.then_ q2 (fun i (hi : i = _) => .inr (by omega))), by rw [q3]; exact S4⟩
set_option maxHeartbeats 4000000 in
set_option maxRecDepth 100000 in
/-- A key of two bytes. -/
theorem add_root2 (g tb : Nat) (hgt : ¬ g = tb) (c d : UInt8) (m : Nat) (hm6 : m < 6) (T : Array Value) (M : Nat → Nat) (hm : M c.toNat = m) (val : ByteArray) (pr : Int) (w : World)
    (hg : w.heap[g]? = some (.cells (GR (.slice (some ⟨tb, 0, none⟩) 6 6) 6 M) 144 (0, 0))) (ht : w.heap[tb]? = some (.cells T 139 (0, 0))) (hT : T[m]? = some (.pointer none)) :
    Calls Tryz.prog 84 #[.pointer (some ⟨g, 0, none⟩), .string ⟨#[c, d]⟩, .string val, .int .i64 pr, .pointer (some ⟨g, 0, none⟩)] w fun e w' => e = .returned (.tuple #[]) ∧ w'.heap[tb]? = some (.cells (T.setIfInBounds m (.pointer (some ⟨w.heap.size, 0, none⟩))) 139 (0, 0)) ∧ w'.heap[w.heap.size]? = some (.cells (node e0 0 ⟨#[d]⟩ (.pointer (some ⟨w.heap.size + 1, 0, none⟩)) (.slice none 0 0)) 142 (0, 0)) ∧ w'.heap[w.heap.size + 1]? = some (.cells (node val pr e0 (.pointer none) (.slice none 0 0)) 142 (0, 0)) ∧ Turns (fun k => k = tb) w w' ∧ w'.heap.size = w.heap.size + 2 := by
  have c1 : w.cell? ⟨g, 1, none⟩ = some (.int .i64 0) := by rw [blk_cell hg, gr_low _ _ _ (by omega)]; rfl
  have c2 : w.cell? ⟨g, 2, none⟩ = some (.string ⟨#[]⟩) := by rw [blk_cell hg, gr_low _ _ _ (by omega)]; rfl
  have c4 : w.cell? ⟨g, 4, none⟩ = some (.slice (some ⟨tb, 0, none⟩) 6 6) := by rw [blk_cell hg, gr_low _ _ _ (by omega)]; rfl
  have c5 : w.cell? ⟨g, 5, none⟩ = some (.int .i64 6) := by rw [blk_cell hg, gr_low _ _ _ (by omega)]; rfl
  have cm : w.cell? ⟨g, 6 + c.toNat, none⟩ = some (.int .u8 (m : Nat)) := by rw [blk_cell hg, gr_at _ _ _ (UInt8.toNat_lt c), hm]
  have ct : w.cell? ⟨tb, m, none⟩ = some (.pointer none) := (blk_cell ht m).trans hT
  have zt : w.frozen? ⟨tb, m, none⟩ = false := blk_frozen ht m
  have hx256 : (c.toNat : Int) < 256 := by have := UInt8.toNat_lt c; omega
  have hm256 : (m : Int) < 6 := by omega
  have hlt := blk_lt hg
  have hltt := blk_lt ht
  have HG := Aside0.mk hg
  have HT := Aside0.mk ht
  have HM := Aside0.mk hm
  clear hg ht hm
  have hcx : ∀ h, (⟨#[c, d]⟩ : ByteArray)[0]'h = c := fun _ => rfl
  have hns : ∀ (a : Option Addr) (n c : Nat) (w : World), (binOp .neq 140 (.slice a n c) (.slice none 0 0)).run Tryz.prog w = .ok (.bool (!a.isNone)) w := fun a n c w => run_neq_slice_nil_any w 140 139 a n c 0 0 Tryz.underlying140
  go_enter Tryz.func84, Tryz.ntmps84
  go_wp2
  go_still_tail 7, (by kernel_rfl)
  change wpList _ _ _ _ _ w.drew
  go_wp2
  obtain ⟨w4, hw4⟩ : ∃ w4, w4 = ((w.setCell ⟨tb, m, none⟩ (.pointer (some ⟨w.heap.size, 0, none⟩))).alloc (.cells #[.string ⟨#[]⟩, .int .i64 0, .string ⟨#[]⟩, .pointer none, .slice none 0 0] 142 (0, 0))).drew := ⟨_, rfl⟩
  rw [← hw4]
  have N4 : w4.heap[w.heap.size]? = some (.cells #[.string ⟨#[]⟩, .int .i64 0, .string ⟨#[]⟩, .pointer none, .slice none 0 0] 142 (0, 0)) := by rw [hw4]; exact new_at (by simp only [size_set]) _
  have T4 : w4.heap[tb]? = some (.cells (T.setIfInBounds m (.pointer (some ⟨w.heap.size, 0, none⟩))) 139 (0, 0)) := by rw [hw4]; exact blk_alloc (blk_put HT.out m _ rfl) _
  have U4 : Turns (fun k => k = tb) w w4 := by rw [hw4]; exact (((Turns.refl (fun k => k = tb) w).put ⟨tb, m, none⟩ _ (.inl rfl)).alloc _).drew
  have S4 : w4.heap.size = w.heap.size + 1 := by rw [hw4]; show (World.alloc _ _).heap.size = _; simp only [size_alloc, size_set]
  have G4 := U4.blk HG.out hgt
  have k4 : w4.cell? ⟨g, 4, none⟩ = some (.slice (some ⟨tb, 0, none⟩) 6 6) := by rw [blk_cell G4, gr_low _ _ _ (by omega)]; rfl
  have kt : w4.cell? ⟨tb, m, none⟩ = some (.pointer (some ⟨w.heap.size, 0, none⟩)) := by rw [blk_cell T4]; obtain ⟨hl, _⟩ := Array.getElem?_eq_some_iff.1 hT; simp [hl]
  have P4 := Aside0.mk (And.intro N4 (And.intro T4 (And.intro U4 S4)))
  clear N4 T4 U4 S4 G4 hw4 c1 c2 c4 c5 cm ct zt
  go_still_tail 12, (by kernel_rfl)
  change wpList _ _ _ _ _ w4.drew
  go_wp2_with (go_at_call 84; refine (add_leaf w.heap.size _ ⟨#[d]⟩ val (one_ne d) pr (.string e0) (.int .i64 0) w4.drew ?h).mono ?_; (case h => exact P4.out.1); rintro e w' ⟨rfl, q1, q2, q3, q4⟩)
  go_end0
  obtain ⟨N4, T4, U4, S4⟩ := P4.out
  rw [show w4.drew.heap.size = w.heap.size + 1 from S4] at q1 q2 q4
  refine ⟨rfl, q3.blk T4 (by show ¬ _; omega), q1, q2, (U4.drew.then_ q3 (fun i (hi : i = _) => .inr (by omega))), q4⟩

/-! What makeGenericReplacer builds: after q pairs -/
def valof (i : Nat) : ByteArray := oldnew.getD (2 * i + 1) ⟨#[]⟩
def nodeAt (g : Nat) : Nat → Array Value
  | 0 => node ⟨#[92, 92]⟩ 10 e0 (.pointer none) (.slice none 0 0)
  | 1 => node ⟨#[92, 123]⟩ 8 e0 (.pointer none) (.slice none 0 0)
  | 2 => node ⟨#[92, 125]⟩ 6 e0 (.pointer none) (.slice none 0 0)
  | 3 => node ⟨#[92, 37]⟩ 4 e0 (.pointer none) (.slice none 0 0)
  | 4 => node e0 0 ⟨#[173]⟩ (.pointer (some ⟨g + 7, 0, none⟩)) (.slice none 0 0)
  | _ => node ⟨#[92, 45]⟩ 2 e0 (.pointer none) (.slice none 0 0)
def at_ (b : Nat) : Value := .pointer (some ⟨b, 0, none⟩)
def Tq (g : Nat) : Nat → Array Value
  | 0 => #[.pointer none, .pointer none, .pointer none, .pointer none, .pointer none, .pointer none]
  | 1 => #[.pointer none, at_ (g + 2), .pointer none, .pointer none, .pointer none, .pointer none]
  | 2 => #[.pointer none, at_ (g + 2), at_ (g + 3), .pointer none, .pointer none, .pointer none]
  | 3 => #[.pointer none, at_ (g + 2), at_ (g + 3), at_ (g + 4), .pointer none, .pointer none]
  | 4 => #[at_ (g + 5), at_ (g + 2), at_ (g + 3), at_ (g + 4), .pointer none, .pointer none]
  | _ => #[at_ (g + 5), at_ (g + 2), at_ (g + 3), at_ (g + 4), .pointer none, at_ (g + 6)]
def many : Nat → Nat
  | 5 => 6
  | q => q
structure St (g q : Nat) (w : World) : Prop where
  root : w.heap[g]? = some (.cells (GR (.slice (some ⟨g + 1, 0, none⟩) 6 6) 6 mapped) 144 (0, 0))
  tab : w.heap[g + 1]? = some (.cells (Tq g q) 139 (0, 0))
  nodes : ∀ i, i < many q → w.heap[g + 2 + i]? = some (.cells (nodeAt g i) 142 (0, 0))
theorem St.drew {g q : Nat} {w : World} (h : St g q w) : St g q w.drew := ⟨h.root, h.tab, h.nodes⟩
theorem St.kept {g q : Nat} {w w' : World} (h : St g q w) {S : Nat → Prop} (t : Turns S w w') (hs : ∀ i, S i → i < g) : St g q w' :=
  ⟨t.blk h.root (fun k => by have := hs _ k; omega), t.blk h.tab (fun k => by have := hs _ k; omega), fun i hi => t.blk (h.nodes i hi) (fun k => by have := hs _ k; omega)⟩
theorem St.below {g q : Nat} {w w' : World} (h : St g q w) {B : Nat} (t : Below B w w') (hB : g + 2 + many q ≤ B) : St g q w' :=
  ⟨(t.block _ (by omega)).trans h.root, (t.block _ (by omega)).trans h.tab, fun i hi => (t.block _ (by omega)).trans (h.nodes i hi)⟩
/-- One more pair. -/
theorem add_q (g q : Nat) (hq : q < 5) (w : World) (h : St g q w) (hz : w.heap.size = g + 2 + many q) :
    Calls Tryz.prog 84 #[.pointer (some ⟨g, 0, none⟩), .string (key (2 * q)), .string (valof q), .int .i64 (10 - 2 * (q : Int)), .pointer (some ⟨g, 0, none⟩)] w fun e w' => e = .returned (.tuple #[]) ∧ St g (q + 1) w' ∧ w'.heap.size = g + 2 + many (q + 1) ∧ Turns (fun k => k = g + 1) w w' := by
  rcases (show q = 0 ∨ q = 1 ∨ q = 2 ∨ q = 3 ∨ q = 4 by omega) with rfl | rfl | rfl | rfl | rfl
  case inr.inr.inr.inr =>
    refine (add_root2 g (g + 1) (by omega) 194 173 5 (by omega) (Tq g 4) mapped (by decide +kernel) ⟨#[92, 45]⟩ 2 w h.root h.tab rfl).mono ?_
    rintro e w' ⟨rfl, h1, h2, h2', h3, h4⟩
    rw [hz] at h1 h2 h2' h4
    refine ⟨rfl, ⟨h3.blk h.root (by show ¬ _; omega), h1, ?_⟩, h4, h3⟩
    intro i hi
    have hi' : i < 6 := hi
    by_cases h5 : i < 4
    · exact h3.blk (h.nodes i h5) (by show ¬ _; omega)
    · rcases (show i = 4 ∨ i = 5 by omega) with rfl | rfl
      · exact h2
      · exact h2'
  all_goals
    first
      | refine (add_root1 g (g + 1) (by omega) 92 1 (by omega) (Tq g 0) mapped (by decide +kernel) ⟨#[92, 92]⟩ 10 w h.root h.tab rfl).mono ?_
      | refine (add_root1 g (g + 1) (by omega) 123 2 (by omega) (Tq g 1) mapped (by decide +kernel) ⟨#[92, 123]⟩ 8 w h.root h.tab rfl).mono ?_
      | refine (add_root1 g (g + 1) (by omega) 125 3 (by omega) (Tq g 2) mapped (by decide +kernel) ⟨#[92, 125]⟩ 6 w h.root h.tab rfl).mono ?_
      | refine (add_root1 g (g + 1) (by omega) 37 0 (by omega) (Tq g 3) mapped (by decide +kernel) ⟨#[92, 37]⟩ 4 w h.root h.tab rfl).mono ?_
    rintro e w' ⟨rfl, h1, h2, h3, h4⟩
    rw [hz] at h1 h2 h4
    refine ⟨rfl, ⟨h3.blk h.root (by show ¬ _; omega), h1, ?_⟩, h4, h3⟩
    intro i hi
    rcases (show i < _ ∨ i = _ from Nat.lt_or_eq_of_le (Nat.le_of_lt_succ hi)) with h5 | rfl
    · exact h3.blk (h.nodes i h5) (by show ¬ _; omega)
    · exact h2

/-- One block more, and nothing of the old ones turned. -/
def BS (w w' : World) : Prop := Below w.heap.size w w' ∧ w'.heap.size = w.heap.size + 1
theorem BS.put {w w' : World} (h : BS w w') (i : Nat) (u : Value) : BS w (w'.setCell ⟨w.heap.size, i, none⟩ u) := ⟨h.1.setCell (Nat.le_refl _) _, (size_set _ _ _).trans h.2⟩
theorem BS.drew {w w' : World} (h : BS w w') : BS w w'.drew := ⟨h.1.drew, h.2⟩
theorem make6 (W : World) : (Instr.makeSlice 140 (.int .i64 6) (.int .i64 6)).run Tryz.prog W = .ok (.slice (some ⟨W.heap.size, 0, none⟩) 6 6) (W.alloc (.cells (Tq 0 0) 139 (0, 0))) := by
  have h := run_make_row' (P := Tryz.prog) 140 139 (.pointer none) 8 Tryz.underlying140 (by kernel_rfl) rfl .i64 .i64 6 (by decide) (by decide) W
  rw [show madeCells #[Value.pointer none] 6 = Tq 0 0 by kernel_rfl] at h
  exact h
set_option maxHeartbeats 4000000 in
set_option maxRecDepth 1000000 in
theorem mk_gen (ob cp : Nat) (w : World) (hob : ob < w.heap.size) (hc : ∀ (j : Nat) x, oldnew[j]? = some x → w.cell? ⟨ob, j, none⟩ = some (.string x)) :
    Calls Tryz.prog 77 #[.slice (some ⟨ob, 0, none⟩) 10 cp] w fun e w' => e = .returned (.pointer (some ⟨w.heap.size, 0, none⟩)) ∧ St w.heap.size 5 w' ∧ w'.heap.size = w.heap.size + 8 ∧ Below w.heap.size w w' := by
  have HC : Aside0 (∀ (j : Nat), j < 10 → w.cell? ⟨ob, j, none⟩ = some (.string (key j))) := ⟨fun j hj => hc j (key j) (by unfold key; rw [List.getD_eq_getElem?_getD, List.getElem?_eq_getElem (by exact hj)]; rfl)⟩
  clear hc
  go_enter Tryz.func77, Tryz.ntmps77
  go_wp2
  rw [gr_zero]
  obtain ⟨w1, hw1⟩ : ∃ w1, w1 = w.alloc (.cells (GR (.slice none 0 0) 0 (fun _ => 0)) 144 (0, 0)) := ⟨_, rfl⟩
  rw [← hw1]
  have BK := Aside0.mk (show w1.heap[w.heap.size]? = some (.cells (GR (.slice none 0 0) 0 (Mq 0)) 144 (0, 0)) by rw [hw1]; exact blk_new _ _)
  have HB := Aside0.mk (show BS w w1 by rw [hw1]; exact ⟨below_alloc (Below.refl _ _) _, size_alloc _ _⟩)
  clear hw1
  go_loopg [4, 5, 6] 5 (fun gk s4 s5 s6 w' => ∃ q : Nat, s4 = .int .i64 (2 * (q : Int)) ∧ Aside0 (q + gk = 5) ∧ Aside0 (w'.heap[w.heap.size]? = some (.cells (GR (.slice none 0 0) 0 (Mq q)) 144 (0, 0))) ∧ Aside0 (BS w w'))
  case atStart => exact ⟨0, rfl, ⟨rfl⟩, BK, HB⟩
  case round =>
    clear BK HB
    obtain ⟨q, rfl, HQ, BK, HB⟩ := hrel
    cases gk with
    | zero =>
      have hq : q = 5 := by have := HQ.out; omega
      subst hq
      go_wp2
      refine wp_load_whole rfl rfl (load122 BK.out) ?_
      go_wp2
      go_loopg [41] 256 (fun gk s41 w' => ∃ i : Nat, s41 = .int .i64 (i : Int) ∧ Aside0 (i + gk = 256) ∧ Aside0 (w'.heap[w.heap.size]? = some (.cells (GR (.slice none 0 0) (cnt i) (Mq 5)) 144 (0, 0))) ∧ Aside0 (BS w w'))
      case atStart => exact ⟨0, rfl, ⟨rfl⟩, BK, HB⟩
      case round =>
        clear BK HB HQ
        obtain ⟨i, rfl, HI, BK, HB⟩ := hrel
        cases gk with
        | zero =>
          have hi : i = 256 := by have := HI.out; omega
          subst hi
          go_wp2
          refine wp_load_whole rfl rfl (load122 BK.out) ?_
          go_wp2
          rw [cnt_end, ← phase_zero] at BK
          go_loopg [9, 58] 256 (fun gk s9 s58 w' => ∃ i : Nat, s9 = .int .u8 (cnt i : Nat) ∧ s58 = .int .i64 (i : Int) ∧ Aside0 (i + gk = 256) ∧ Aside0 (w'.heap[w.heap.size]? = some (.cells (GR (.slice none 0 0) 6 (phase i)) 144 (0, 0))) ∧ Aside0 (BS w w'))
          case atStart => exact ⟨0, rfl, rfl, ⟨rfl⟩, BK, HB⟩
          case round =>
            clear BK HB HI
            obtain ⟨i, rfl, rfl, HI, BK, HB⟩ := hrel
            cases gk with
            | zero =>
              have hi : i = 256 := by have := HI.out; omega
              subst hi
              rw [gr_phase] at BK
              have c5 : wr.cell? ⟨w.heap.size, 5, none⟩ = some (.int .i64 6) := by rw [blk_cell BK.out, gr_low _ _ _ (by omega)]; rfl
              have z4 : wr.frozen? ⟨w.heap.size, 4, none⟩ = false := blk_frozen BK.out 4
              have c4 : wr.cell? ⟨w.heap.size, 4, none⟩ = some (.slice none 0 0) := by rw [blk_cell BK.out, gr_low _ _ _ (by omega)]; rfl
              have hmk := make6 wr
              rw [HB.out.2] at hmk
              have hlt := blk_lt BK.out
              go_wp2
              obtain ⟨w2, hw2⟩ : ∃ w2, w2 = (wr.setCell ⟨w.heap.size, 4, none⟩ (.slice (some ⟨w.heap.size + 1, 0, none⟩) 6 6)).alloc (.cells (Tq 0 0) 139 (0, 0)) := ⟨_, rfl⟩
              rw [← hw2]
              have S2 : St w.heap.size 0 w2 := by
                rw [hw2]
                exact ⟨blk_alloc (blk_put BK.out 4 _ (gr_tab _ _ _ _)) _, new_at (by rw [size_set]; exact HB.out.2) _, fun i hi => absurd hi (by show ¬ i < 0; omega)⟩
              have SS := Aside0.mk (And.intro S2 (And.intro (show w2.heap.size = w.heap.size + 2 + many 0 by rw [hw2, size_alloc, size_set, HB.out.2]; rfl) (show Below w.heap.size w w2 by rw [hw2]; exact below_alloc (HB.out.put 4 _).1 _)))
              clear S2 hw2
              go_loopg [12] 5 (fun gk s12 w' => ∃ q : Nat, s12 = .int .i64 (2 * (q : Int)) ∧ Aside0 (q + gk = 5) ∧ Aside0 (St w.heap.size q w' ∧ w'.heap.size = w.heap.size + 2 + many q ∧ Below w.heap.size w w'))
              case atStart => exact ⟨0, rfl, ⟨rfl⟩, SS⟩
              case round =>
                clear SS BK HB hlt hmk c5 z4 c4 HI
                obtain ⟨q, rfl, HQ, SS⟩ := hrel
                cases gk with
                | zero =>
                  have hq : q = 5 := by have := HQ.out; omega
                  subst hq
                  go_wp2
                  go_ret
                  exact ⟨rfl, SS.out.1, SS.out.2.1, SS.out.2.2⟩
                | succ g =>
                  have hq : q < 5 := by have := HQ.out; omega
                  have cq : wr.cell? ⟨ob, 2 * q, none⟩ = some (.string (key (2 * q))) := (SS.out.2.2.cell hob).trans (HC.out _ (by omega))
                  have cv : wr.cell? ⟨ob, 2 * q + 1, none⟩ = some (.string (valof q)) := (SS.out.2.2.cell hob).trans (HC.out _ (by omega))
                  have lq : 2 * (q : Int) < 10 := by omega
                  have lq1 : 2 * (q : Int) + 1 < 10 := by omega
                  have lq0 : (0 : Int) ≤ 2 * (q : Int) := by omega
                  have lq2 : (0 : Int) ≤ 2 * (q : Int) + 1 := by omega
                  have tq0 : (2 * (q : Int)).toNat = 2 * q := by omega
                  have tq1 : (2 * (q : Int) + 1).toNat = 2 * q + 1 := by omega
                  have wq1 : IntKind.i64.wrap (2 * (q : Int) + 1) = 2 * (q : Int) + 1 := by simp [IntKind.wrap_i64]; omega
                  have hsub : IntKind.i64.wrap (10 - 2 * (q : Int)) = 10 - 2 * (q : Int) := by simp [IntKind.wrap_i64]; omega
                  go_wp2
                  go_still_tail 17, (by kernel_rfl)
                  change wpList _ _ _ _ _ wr.drew
                  go_wp2_with (go_at_call 84; refine (add_q w.heap.size q hq wr.drew SS.out.1.drew SS.out.2.1).mono ?_; rintro e w' ⟨rfl, q1, q2, q3⟩)
                  go_wp2
                  go_roundg g
                  case measure => omega
                  case rel => exact ⟨q + 1, by congr 1 <;> omega, ⟨by have := HQ.out; omega⟩, ⟨q1, q2, (SS.out.2.2.drew.trans (q3.toBelow (by have := SS.out.2.2.size; exact this) (fun i hi => by omega)))⟩⟩
            | succ g =>
              have hi : i < 256 := by have := HI.out; omega
              have hii : (i : Int) < 256 := by omega
              have hu8 : IntKind.u8.wrap (i : Int) = (i : Int) := by simp [IntKind.wrap_u8]; omega
              obtain ⟨m, hm⟩ : ∃ m, Mq 5 i = m := ⟨_, rfl⟩
              obtain ⟨s, hs⟩ : ∃ s, cnt i = s := ⟨_, rfl⟩
              have hm1 : m ≤ 1 := by rw [← hm]; exact mq_one i hi
              have hs6 : s ≤ 6 := by rw [← hs]; exact cnt_six i (by omega)
              have hix := index122 (Mq 5) hi
              rw [hm] at hix
              rw [hs]
              have c5 : wr.cell? ⟨w.heap.size, 5, none⟩ = some (.int .i64 6) := by rw [blk_cell BK.out, gr_low _ _ _ (by omega)]; rfl
              have hcell := (blk_cell BK.out (6 + i)).trans (gr_at _ _ _ hi)
              have hfz := blk_frozen BK.out (6 + i)
              have HM := Aside0.mk hm
              have HS := Aside0.mk hs
              clear hm hs
              rcases (show m = 0 ∨ m = 1 by omega) with rfl | rfl
              · go_wp2
                go_still_tail 9, (by kernel_rfl)
                change wpList _ _ _ _ _ wr.drew
                go_wp2
                go_roundg g
                case measure => omega
                case rel =>
                  refine ⟨i + 1, by rw [cnt_step, HS.out, HM.out]; rfl, rfl, ⟨by have := HI.out; omega⟩, ⟨?_⟩, ⟨HB.out.drew.put _ _⟩⟩
                  rw [← phase_step, show mapped i = 6 by unfold mapped; rw [if_pos HM.out]]
                  exact blk_put (blk_drew BK.out) _ _ (gr_set _ _ _ hi 6)
              · have hsu : IntKind.u8.wrap ((s : Int) + 1) = (s : Int) + 1 := by simp [IntKind.wrap_u8]; omega
                go_wp2
                go_roundg g
                case measure => omega
                case rel =>
                  refine ⟨i + 1, by rw [cnt_step, HS.out, HM.out]; rfl, rfl, ⟨by have := HI.out; omega⟩, ⟨?_⟩, ⟨HB.out.put _ _⟩⟩
                  rw [← phase_step, show mapped i = s by unfold mapped; rw [if_neg (by rw [HM.out]; omega), HS.out]]
                  exact blk_put BK.out _ _ (gr_set _ _ _ hi s)
        | succ g =>
          have hi : i < 256 := by have := HI.out; omega
          have hii : (i : Int) < 256 := by omega
          obtain ⟨m, hm⟩ : ∃ m, Mq 5 i = m := ⟨_, rfl⟩
          obtain ⟨s, hs⟩ : ∃ s, cnt i = s := ⟨_, rfl⟩
          have hm1 : m ≤ 1 := by rw [← hm]; exact mq_one i hi
          have hs6 : s ≤ 6 := by rw [← hs]; exact cnt_six i (by omega)
          have hix := index122 (Mq 5) hi
          rw [hm] at hix
          rw [hs] at BK
          have c5 : wr.cell? ⟨w.heap.size, 5, none⟩ = some (.int .i64 (s : Nat)) := by rw [blk_cell BK.out, gr_low _ _ _ (by omega)]; rfl
          have z5 : wr.frozen? ⟨w.heap.size, 5, none⟩ = false := blk_frozen BK.out 5
          have HM := Aside0.mk hm
          have HS := Aside0.mk hs
          clear hm hs
          have hsm : (IntKind.i64.wrap ((s : Int) + (m : Int))) = ((s + m : Nat) : Int) := by simp [IntKind.wrap_i64]; omega
          go_wp2
          go_roundg g
          case measure => omega
          case rel =>
            refine ⟨i + 1, rfl, ⟨by have := HI.out; omega⟩, ⟨?_⟩, ⟨HB.out.put _ _⟩⟩
            rw [cnt_step, HS.out, HM.out]
            exact blk_put BK.out _ _ (gr_ts _ _ _ _)
    | succ g =>
      have hq : 2 * q < 10 := by have := HQ.out; omega
      have cq : wr.cell? ⟨ob, 2 * q, none⟩ = some (.string (key (2 * q))) := (HB.out.1.cell hob).trans (HC.out _ hq)
      have lq : 2 * (q : Int) < 10 := by omega
      go_wp2
      have hk2 : (key (2 * q)).size ≤ 2 := (by decide : ∀ q, q < 5 → (key (2 * q)).size ≤ 2) q (by omega)
      go_loopg [6] (key (2 * q)).size (fun gi s6 w' => ∃ j : Nat, s6 = .int .i64 (j : Int) ∧ Aside0 (j + gi = (key (2 * q)).size) ∧ Aside0 (w'.heap[w.heap.size]? = some (.cells (GR (.slice none 0 0) 0 (mark ((key (2 * q)).data.toList.take j) (Mq q))) 144 (0, 0))) ∧ Aside0 (BS w w'))
      case atStart => exact ⟨0, rfl, ⟨by omega⟩, BK, HB⟩
      case round =>
        clear BK HB cq
        obtain ⟨j, rfl, HJ, BK, HB⟩ := hrel
        cases gk with
        | zero =>
          have hj : j = (key (2 * q)).size := by have := HJ.out; omega
          subst hj
          have hn : ¬ (((key (2 * q)).size : Int) < ((key (2 * q)).size : Int)) := by omega
          go_wp2
          go_roundg g
          case measure => omega
          case rel =>
            have B1 := BK.out
            rw [List.take_of_length_le (Nat.le_of_eq (Lib.size_eq _).symm)] at B1
            exact ⟨q + 1, by congr 1 <;> omega, ⟨by have := HQ.out; omega⟩, ⟨B1⟩, HB⟩
        | succ gi =>
          have hj : j < (key (2 * q)).size := by have := HJ.out; omega
          have hji : (j : Int) < ((key (2 * q)).size : Int) := by omega
          obtain ⟨x, hx⟩ : ∃ x : UInt8, (key (2 * q))[j]'hj = x := ⟨_, rfl⟩
          have hx256 : (x.toNat : Int) < 256 := by have := UInt8.toNat_lt x; omega
          have hcell := (blk_cell BK.out (6 + x.toNat)).trans (gr_at _ _ _ (UInt8.toNat_lt x))
          have hfz := blk_frozen BK.out (6 + x.toNat)
          go_wp2
          go_still_tail 6, (by kernel_rfl)
          change wpList _ _ _ _ _ wr.drew
          go_wp2
          go_roundg gi
          case measure => omega
          case rel =>
            have hxl : (key (2 * q)).data.toList[j]? = some x := by rw [← hx]; exact Lib.data_getElem? _ j hj
            refine ⟨j + 1, by rfl, ⟨by have := HJ.out; omega⟩, ⟨?_⟩, ⟨HB.out.drew.put _ _⟩⟩
            rw [List.take_add_one, hxl]
            simp only [Option.toList]
            rw [mark_snoc]
            exact blk_put (blk_drew BK.out) _ _ (gr_set _ _ _ (UInt8.toNat_lt x) 1)

/-! lookup -/
def Quiet : Nat → Prop := fun _ => False
theorem empty_no {s : ByteArray} (h : 0 < s.size) : s.toList.isEmpty = false := by
  rw [ByteArray.toList_eq]
  have : s.data.toList.length = s.size := rfl
  cases hl : s.data.toList with
  | nil => rw [hl] at this; simp at this; omega
  | cons a r => rfl
theorem infon142 : (Tryz.prog.info? 142).map (·.size) = some 5 := by kernel_rfl
theorem other_node {n g : Nat} (hng : ¬ n = g) {w : World} {ca cb : Array Value} {ta tb : TypeId} (ha : w.heap[n]? = some (.cells ca ta (0, 0))) (hb : w.heap[g]? = some (.cells cb tb (0, 0))) :
    (binOp .eql 139 (.pointer (some ⟨n, 0, none⟩)) (.pointer (some ⟨g, 0, none⟩))).run Tryz.prog w = .ok (.bool false) w := by
  obtain ⟨j, hj, hs⟩ := Option.map_eq_some_iff.1 infon142
  exact run_eql_ptr_other w Tryz.underlying139 hj (by rw [hs]; decide) (fun e => hng (congrArg Addr.block e)) ha hb
set_option maxHeartbeats 4000000 in
set_option maxRecDepth 100000 in
/-- A byte that is a key by itself. -/
theorem lookup_one (g : Nat) (c : UInt8) (m i : Nat) (hm : mapped c.toNat = m) (hm6 : m < 6) (hT : (Tq g 5)[m]? = some (at_ (g + 2 + i))) (hi : i < 6) (val : ByteArray) (pr : Int) (hpr : 0 < pr) (hn : nodeAt g i = node val pr e0 (.pointer none) (.slice none 0 0)) (s : ByteArray) (hs : 0 < s.size) (h0 : s[0]'hs = c) (b : Bool) (w : World) (h : St g 5 w) :
    Calls Tryz.prog 126 #[.pointer (some ⟨g, 0, none⟩), .string s, .bool b] w fun e w' => e = .returned (.tuple #[.string val, .int .i64 1, .bool true]) ∧ Turns Quiet w w' := by
  have c1 : w.cell? ⟨g, 1, none⟩ = some (.int .i64 0) := by rw [blk_cell h.root, gr_low _ _ _ (by omega)]; rfl
  have c4 : w.cell? ⟨g, 4, none⟩ = some (.slice (some ⟨g + 1, 0, none⟩) 6 6) := by rw [blk_cell h.root, gr_low _ _ _ (by omega)]; rfl
  have c5 : w.cell? ⟨g, 5, none⟩ = some (.int .i64 6) := by rw [blk_cell h.root, gr_low _ _ _ (by omega)]; rfl
  have cm : w.cell? ⟨g, 6 + c.toNat, none⟩ = some (.int .u8 (m : Nat)) := by rw [blk_cell h.root, gr_at _ _ _ (UInt8.toNat_lt c), hm]
  have ct : w.cell? ⟨g + 1, m, none⟩ = some (.pointer (some ⟨g + 2 + i, 0, none⟩)) := (blk_cell h.tab m).trans hT
  have hb := h.nodes i hi
  rw [hn] at hb
  obtain ⟨nb, hnb⟩ : ∃ nb, nb = g + 2 + i := ⟨_, rfl⟩
  rw [← hnb] at hb ct
  have d0 : w.cell? ⟨nb, 0, none⟩ = some (.string val) := by rw [blk_cell hb]; rfl
  have d1 : w.cell? ⟨nb, 1, none⟩ = some (.int .i64 pr) := by rw [blk_cell hb]; rfl
  have d2 : w.cell? ⟨nb, 2, none⟩ = some (.string ⟨#[]⟩) := by rw [blk_cell hb]; rfl
  have d3 : w.cell? ⟨nb, 3, none⟩ = some (.pointer none) := by rw [blk_cell hb]; rfl
  have d4 : w.cell? ⟨nb, 4, none⟩ = some (.slice none 0 0) := by rw [blk_cell hb]; rfl
  have hng : ¬ nb = g := by omega
  have hx256 : (c.toNat : Int) < 256 := by have := UInt8.toNat_lt c; omega
  have hm256 : (m : Int) < 6 := by omega
  have hmne : ¬ (m : Int) = 6 := by omega
  have hse := empty_no hs
  have hs1 : (1 : Int) ≤ (s.size : Int) := by omega
  have hlt := blk_lt h.root
  have hltt := blk_lt h.tab
  have hltn := blk_lt hb
  have hpe := other_node hng (blk_drew hb) (blk_drew h.root)
  clear h hT hn hm hnb hi hb
  have hns : ∀ (a : Option Addr) (n c : Nat) (w : World), (binOp .neq 140 (.slice a n c) (.slice none 0 0)).run Tryz.prog w = .ok (.bool (!a.isNone)) w := fun a n c w => run_neq_slice_nil_any w 140 139 a n c 0 0 Tryz.underlying140
  have hnot : ∀ (x : Bool) (w : World), (Op.unary .not (.bool x)).run Tryz.prog w = .ok (.bool (!x)) w := fun _ _ => rfl
  obtain ⟨t, ht⟩ : ∃ t, s.extract 1 s.size = t := ⟨_, rfl⟩
  go_enter Tryz.func126, Tryz.ntmps126
  go_wp2
  refine wp_loop_rounds 3 ?_
  rw [rounds_succ]
  go_wp2
  go_still_tail 7, (by kernel_rfl)
  change wpList _ _ _ _ _ w.drew
  go_wp2
  rw [rounds_succ]
  go_wp2
  all_goals go_ret3
  all_goals exact ⟨rfl, (Turns.refl Quiet w).drew⟩

set_option maxHeartbeats 4000000 in
set_option maxRecDepth 100000 in
/-- Nothing is left to look at. -/
theorem lookup_none (g : Nat) (b : Bool) (w : World) (h : St g 5 w) :
    Calls Tryz.prog 126 #[.pointer (some ⟨g, 0, none⟩), .string ⟨#[]⟩, .bool b] w fun e w' => e = .returned (.tuple #[.string e0, .int .i64 0, .bool false]) ∧ Turns Quiet w w' := by
  have c1 : w.cell? ⟨g, 1, none⟩ = some (.int .i64 0) := by rw [blk_cell h.root, gr_low _ _ _ (by omega)]; rfl
  clear h
  have hnot : ∀ (x : Bool) (w : World), (Op.unary .not (.bool x)).run Tryz.prog w = .ok (.bool (!x)) w := fun _ _ => rfl
  go_enter Tryz.func126, Tryz.ntmps126
  go_wp2
  refine wp_loop_rounds 1 ?_
  rw [rounds_succ]
  go_wp2
  all_goals go_ret3
  all_goals exact ⟨rfl, Turns.refl Quiet w⟩
set_option maxHeartbeats 4000000 in
set_option maxRecDepth 100000 in
/-- The byte 194: a key's first one. -/
theorem lookup_soft (g : Nat) (s : ByteArray) (hs : 0 < s.size) (h0 : s[0]'hs = 194) (b : Bool) (w : World) (h : St g 5 w) :
    Calls Tryz.prog 126 #[.pointer (some ⟨g, 0, none⟩), .string s, .bool b] w fun e w' => e = .returned (.tuple (if Lib.hasPrefix (s.extract 1 s.size).data.toList [173] = true then #[.string ⟨#[92, 45]⟩, .int .i64 2, .bool true] else #[.string e0, .int .i64 0, .bool false])) ∧ Turns Quiet w w' := by
  have c1 : w.cell? ⟨g, 1, none⟩ = some (.int .i64 0) := by rw [blk_cell h.root, gr_low _ _ _ (by omega)]; rfl
  have c4 : w.cell? ⟨g, 4, none⟩ = some (.slice (some ⟨g + 1, 0, none⟩) 6 6) := by rw [blk_cell h.root, gr_low _ _ _ (by omega)]; rfl
  have c5 : w.cell? ⟨g, 5, none⟩ = some (.int .i64 6) := by rw [blk_cell h.root, gr_low _ _ _ (by omega)]; rfl
  have cm : w.cell? ⟨g, 200, none⟩ = some (.int .u8 5) := by rw [blk_cell h.root, show 200 = 6 + 194 from rfl, gr_at _ _ _ (by omega), show mapped 194 = 5 by decide +kernel]; rfl
  have ct : w.cell? ⟨g + 1, 5, none⟩ = some (.pointer (some ⟨g + 6, 0, none⟩)) := (blk_cell h.tab 5).trans rfl
  have hb := h.nodes 4 (by decide)
  have hb2 := h.nodes 5 (by decide)
  obtain ⟨nb, hnb⟩ : ∃ nb, nb = g + 6 := ⟨_, rfl⟩
  obtain ⟨mb, hmb⟩ : ∃ mb, mb = g + 7 := ⟨_, rfl⟩
  rw [show g + 2 + 4 = nb by omega] at hb
  rw [show g + 2 + 5 = mb by omega] at hb2
  rw [← hnb] at ct
  have d0 : w.cell? ⟨nb, 0, none⟩ = some (.string ⟨#[]⟩) := by rw [blk_cell hb]; rfl
  have d1 : w.cell? ⟨nb, 1, none⟩ = some (.int .i64 0) := by rw [blk_cell hb]; rfl
  have d2 : w.cell? ⟨nb, 2, none⟩ = some (.string ⟨#[173]⟩) := by rw [blk_cell hb]; rfl
  have d3 : w.cell? ⟨nb, 3, none⟩ = some (.pointer (some ⟨mb, 0, none⟩)) := by rw [blk_cell hb, hmb]; rfl
  have d4 : w.cell? ⟨nb, 4, none⟩ = some (.slice none 0 0) := by rw [blk_cell hb]; rfl
  have f0 : w.cell? ⟨mb, 0, none⟩ = some (.string ⟨#[92, 45]⟩) := by rw [blk_cell hb2]; rfl
  have f1 : w.cell? ⟨mb, 1, none⟩ = some (.int .i64 2) := by rw [blk_cell hb2]; rfl
  have f2 : w.cell? ⟨mb, 2, none⟩ = some (.string ⟨#[]⟩) := by rw [blk_cell hb2]; rfl
  have f3 : w.cell? ⟨mb, 3, none⟩ = some (.pointer none) := by rw [blk_cell hb2]; rfl
  have f4 : w.cell? ⟨mb, 4, none⟩ = some (.slice none 0 0) := by rw [blk_cell hb2]; rfl
  have hpe := other_node (show ¬ mb = g by omega) (blk_drew hb2) (blk_drew h.root)
  have hse := empty_no hs
  have hne := one_ne 173
  have hs1 : (1 : Int) ≤ (s.size : Int) := by omega
  have hlt := blk_lt h.root
  have hltt := blk_lt h.tab
  have hltn := blk_lt hb
  have hltm := blk_lt hb2
  clear h hnb hmb hb hb2
  have hns : ∀ (a : Option Addr) (n c : Nat) (w : World), (binOp .neq 140 (.slice a n c) (.slice none 0 0)).run Tryz.prog w = .ok (.bool (!a.isNone)) w := fun a n c w => run_neq_slice_nil_any w 140 139 a n c 0 0 Tryz.underlying140
  have hnot : ∀ (x : Bool) (w : World), (Op.unary .not (.bool x)).run Tryz.prog w = .ok (.bool (!x)) w := fun _ _ => rfl
  obtain ⟨t, ht⟩ : ∃ t, s.extract 1 s.size = t := ⟨_, rfl⟩
  rw [ht]
  have hpt : Aside0 (t.toList.isEmpty = true → Lib.hasPrefix t.data.toList [173] = false) := ⟨fun he => by
    rw [ByteArray.toList_eq] at he
    rw [List.isEmpty_iff.1 he]; rfl⟩
  have hpz : Aside0 (Lib.hasPrefix t.data.toList [173] = true → 1 ≤ t.size) := ⟨fun he => by
    have : t.data.toList.length = t.size := rfl
    cases hl : t.data.toList with
    | nil => rw [hl] at he; simp [Lib.hasPrefix] at he
    | cons a r => rw [hl] at this; simp at this; omega⟩
  obtain ⟨q, hq⟩ : ∃ q, Lib.hasPrefix t.data.toList [173] = q := ⟨_, rfl⟩
  have HQ := Aside0.mk hq
  rw [hq] at hpt hpz ⊢
  clear hq
  go_enter Tryz.func126, Tryz.ntmps126
  go_wp2
  refine wp_loop_rounds 3 ?_
  rw [rounds_succ]
  go_wp2
  go_still_tail 7, (by kernel_rfl)
  change wpList _ _ _ _ _ w.drew
  go_wp2
  rw [rounds_succ]
  by_cases he : t.toList.isEmpty = true
  · have hqf := hpt.out he
    subst hqf
    go_wp2
    all_goals go_ret3
    all_goals exact ⟨rfl, (Turns.refl Quiet w).drew⟩
  · have he : t.toList.isEmpty = false := by simpa using he
    go_wp2_with (fail)
    refine (Tryz.strings_HasPrefix t ⟨#[173]⟩ _).mono ?_
    rintro e w' ⟨rfl, rfl⟩
    have HQ' : Lib.hasPrefix t.data.toList (⟨#[173]⟩ : ByteArray).data.toList = q := HQ.out
    rw [HQ']
    cases q with
    | false =>
      go_wp2
      go_ret3
      exact ⟨rfl, (Turns.refl Quiet w).drew⟩
    | true =>
      have hz1 : (1 : Int) ≤ (t.size : Int) := by have := hpz.out rfl; omega
      go_wp2
      rw [rounds_succ]
      go_wp2
      all_goals go_ret3
      all_goals exact ⟨rfl, (Turns.refl Quiet w).drew⟩

/-! appendSliceWriter: a variable that holds a row of bytes of its own -/
def Buf (B b : Nat) (bs : List Value) (w : World) : Prop := B ≤ b ∧ ∃ v, w.heap[b]? = some (.cells #[v] 173 (0, 0)) ∧ w.ownsRow B 5 1 v bs.length bs ∧ v.ownBlock ≠ some b
theorem Buf.put {B b : Nat} {v v' : Value} {bs' : List Value} {w : World} (hB : B ≤ b) (hb : w.heap[b]? = some (.cells #[v] 173 (0, 0))) (hown : w.ownsRow B 5 1 v' bs'.length bs') : Buf B b bs' (w.setCell ⟨b, 0, none⟩ v') := by
  have hne := Lib.ownBlock_ne hown hb (by decide)
  refine ⟨hB, v', blk_put hb 0 _ rfl, ?_, hne⟩
  exact hown.kept (row := some b) ⟨rfl, rfl, rfl, by simp [World.setCell], fun k _ hk => Below.heap_setCell _ _ _ _ (fun e => hk (by simp [e]))⟩ (Or.inr hne)
theorem Buf.drew {B b : Nat} {bs : List Value} {w : World} (h : Buf B b bs w) : Buf B b bs w.drew := by
  obtain ⟨hB, v, h1, h2, h3⟩ := h
  exact ⟨hB, v, h1, h2, h3⟩
theorem Buf.quiet {B b : Nat} {bs : List Value} {w w' : World} (h : Buf B b bs w) (t : Turns Quiet w w') : Buf B b bs w' := by
  obtain ⟨hB, v, h1, h2, h3⟩ := h
  refine ⟨hB, v, t.blk h1 (fun k => k), h2.kept (row := none) ⟨t.os, t.tape, t.output, t.size, fun k hk _ => t.block k hk (fun q => q)⟩ (by by_cases e : v.ownBlock = none; exact .inl e; exact .inr e), h3⟩
theorem infob5 : (Tryz.prog.info? 5).map (fun i => (i.zero, i.size, i.bytes)) = some (some (.int .u8 0), 1, 1) := by kernel_rfl
set_option maxHeartbeats 2000000 in
set_option maxRecDepth 100000 in
theorem write_string (B b : Nat) (bs : List Value) (s : ByteArray) (w : World) (h : Buf B b bs w) (hlen : bs.length + s.size ≤ 140737488355328) (hBw : B ≤ w.heap.size) :
    Calls Tryz.prog 140 #[.pointer (some ⟨b, 0, none⟩), .string s] w fun e w' => e = .returned (.tuple #[.int .i64 s.size, .nilIface]) ∧ Buf B b (bs ++ Lib.strCells s) w' ∧ Below B w w' := by
  obtain ⟨i0, hi, hzz⟩ := Option.map_eq_some_iff.1 infob5
  simp only [Prod.mk.injEq] at hzz
  obtain ⟨hz0, hz1, hz2⟩ := hzz
  obtain ⟨hB, v, hbk, hown, hne⟩ := h
  have c0 : w.cell? ⟨b, 0, none⟩ = some v := by rw [blk_cell hbk]; rfl
  go_enter Tryz.func140, Tryz.ntmps140
  go_wp2_with (at_builtin; refine Lib.wpList_append_own_string _ rfl _ _ 173 9 rfl B 5 i0 Tryz.underlying173 Tryz.underlying9 hi hz0 hz1 hz2 _ _ _ rfl hown s rfl ?c3 ?c4 ?c5 ?_)
  case c3 => unfold maxLen; omega
  case c4 => omega
  case c5 => omega
  intro v' w2 hown' hgrow _
  have hlt := blk_lt hbk
  have hb2 : w2.heap[b]? = some (.cells #[v] 173 (0, 0)) := by
    rw [hgrow.block b hlt (fun e => hne e.symm)]
    exact hbk
  have d0 : w2.cell? ⟨b, 0, none⟩ = some v := by rw [blk_cell hb2]; rfl
  have f0 : w2.frozen? ⟨b, 0, none⟩ = false := blk_frozen hb2 0
  obtain ⟨ao, n', cap, rfl⟩ : ∃ ao n' cap, v' = .slice ao n' cap := by
    rcases hown'.2 with ⟨hv, _⟩ | ⟨g, cap, cur, hv, _⟩
    · exact ⟨_, _, _, hv⟩
    · exact ⟨_, _, _, hv⟩
  go_wp2
  go_ret2
  refine ⟨rfl, Buf.put hB hb2 (by simpa [Lib.strCells_length] using hown'), ((Below.refl B w).grown hgrow hBw (fun k hk => (hown.lt k hk).1)).setCell (p := ⟨b, 0, none⟩) hB _⟩

theorem is_writer (v : Value) (w : World) : (Instr.typeAssert (.iface 174 v) 176 178 true).run Tryz.prog w = .ok (.tuple #[.iface 174 v, .bool true]) w := run_typeAssert_hasB Tryz.underlying178 (by kernel_rfl) v 176 w
set_option maxHeartbeats 2000000 in
set_option maxRecDepth 100000 in
theorem string_writer (p : Value) (w : World) : Calls Tryz.prog 125 #[.iface 174 p] w fun e w' => e = .returned (.iface 174 p) ∧ w' = w := by
  have hnot : ∀ (x : Bool) (w : World), (Op.unary .not (.bool x)).run Tryz.prog w = .ok (.bool (!x)) w := fun _ _ => rfl
  have hta := is_writer p
  go_enter Tryz.func125, Tryz.ntmps125
  go_wp2
  go_ret
  exact ⟨rfl, rfl⟩

/-! What Escape comes to, and what lookup finds -/
def escL : List UInt8 → List UInt8
  | [] => []
  | 194 :: 173 :: r => 92 :: 45 :: escL r
  | c :: r => if c = 92 ∨ c = 123 ∨ c = 125 ∨ c = 37 then 92 :: c :: escL r else c :: escL r
def lk : List UInt8 → ByteArray × Nat × Bool
  | 194 :: 173 :: _ => (⟨#[92, 45]⟩, 2, true)
  | c :: _ => if c = 92 ∨ c = 123 ∨ c = 125 ∨ c = 37 then (⟨#[92, c]⟩, 1, true) else (e0, 0, false)
  | [] => (e0, 0, false)
theorem lk_soft (r : List UInt8) : lk (194 :: 173 :: r) = (⟨#[92, 45]⟩, 2, true) := rfl
theorem lk_one {c : UInt8} (h : c = 92 ∨ c = 123 ∨ c = 125 ∨ c = 37) (r : List UInt8) : lk (c :: r) = (⟨#[92, c]⟩, 1, true) := by rcases h with rfl | rfl | rfl | rfl <;> rfl
theorem lk_no {c : UInt8} (h : ¬ (c = 92 ∨ c = 123 ∨ c = 125 ∨ c = 37)) (r : List UInt8) (h2 : ¬ (c = 194 ∧ r.head? = some 173)) : lk (c :: r) = (e0, 0, false) := by
  unfold lk
  split
  · rename_i heq
    injection heq with a b
    subst a b
    exact absurd ⟨rfl, rfl⟩ h2
  · rename_i heq
    injection heq with a b
    subst a b
    rw [if_neg h]
  · rename_i heq
    cases heq
theorem esc_soft (r : List UInt8) : escL (194 :: 173 :: r) = 92 :: 45 :: escL r := by rw [escL]
theorem esc_one {c : UInt8} (h : c = 92 ∨ c = 123 ∨ c = 125 ∨ c = 37) (r : List UInt8) : escL (c :: r) = 92 :: c :: escL r := by rcases h with rfl | rfl | rfl | rfl <;> (rw [escL]; simp; intros; simp_all)
theorem esc_no {c : UInt8} (h : ¬ (c = 92 ∨ c = 123 ∨ c = 125 ∨ c = 37)) (r : List UInt8) (h2 : ¬ (c = 194 ∧ r.head? = some 173)) : escL (c :: r) = c :: escL r := by
  rw [escL]
  · rw [if_neg h]
  · intro r' e1 e2
    subst e1 e2
    exact h2 ⟨rfl, rfl⟩
theorem esc_len : ∀ (n : Nat) (l : List UInt8), l.length ≤ n → (escL l).length ≤ 2 * l.length
  | 0, [], _ => by simp [escL]
  | n + 1, [], _ => by simp [escL]
  | n + 1, c :: r, hl => by
    by_cases h : c = 92 ∨ c = 123 ∨ c = 125 ∨ c = 37
    · rw [esc_one h]
      have := esc_len n r (by simp at hl; omega)
      simp only [List.length_cons] at *
      omega
    · by_cases h2 : c = 194 ∧ r.head? = some 173
      · obtain ⟨rfl, hr⟩ := h2
        cases r with
        | nil => simp at hr
        | cons d r =>
          obtain rfl : d = 173 := by simpa using hr
          rw [esc_soft]
          have := esc_len n r (by simp at hl; omega)
          simp only [List.length_cons] at *
          omega
      · rw [esc_no h r h2]
        have := esc_len n r (by simp at hl; omega)
        simp only [List.length_cons] at *
        omega
theorem lk_match {l : List UInt8} (h : (lk l).2.2 = true) : escL l = (lk l).1.data.toList ++ escL (l.drop (lk l).2.1) ∧ 1 ≤ (lk l).2.1 ∧ (lk l).2.1 ≤ l.length ∧ (lk l).1.size = 2 := by
  cases l with
  | nil => cases h
  | cons c r =>
    by_cases h1 : c = 92 ∨ c = 123 ∨ c = 125 ∨ c = 37
    · rw [lk_one h1, esc_one h1]
      exact ⟨rfl, Nat.le_refl _, by simp, rfl⟩
    · by_cases h2 : c = 194 ∧ r.head? = some 173
      · obtain ⟨rfl, hr⟩ := h2
        cases r with
        | nil => simp at hr
        | cons d r =>
          obtain rfl : d = 173 := by simpa using hr
          rw [lk_soft, esc_soft]
          exact ⟨rfl, by decide, by simp, rfl⟩
      · rw [lk_no h1 r h2] at h
        cases h
theorem lk_miss {c : UInt8} {r : List UInt8} (h : (lk (c :: r)).2.2 = false) : escL (c :: r) = c :: escL r := by
  by_cases h1 : c = 92 ∨ c = 123 ∨ c = 125 ∨ c = 37
  · rw [lk_one h1] at h
    cases h
  · by_cases h2 : c = 194 ∧ r.head? = some 173
    · obtain ⟨rfl, hr⟩ := h2
      cases r with
      | nil => simp at hr
      | cons d r =>
        obtain rfl : d = 173 := by simpa using hr
        rw [lk_soft] at h
        cases h
    · exact esc_no h1 r h2
set_option maxRecDepth 100000 in
theorem mapped_fast : ∀ n, n < 256 → (mapped n = 6 ∨ mapped n = 4) → n ≠ 92 ∧ n ≠ 123 ∧ n ≠ 125 ∧ n ≠ 37 ∧ n ≠ 194 := by decide +kernel
set_option maxRecDepth 100000 in
theorem mapped_slow : ∀ n, n < 256 → ¬ (mapped n = 6 ∨ mapped n = 4) → (n = 92 ∧ mapped n = 1) ∨ (n = 123 ∧ mapped n = 2) ∨ (n = 125 ∧ mapped n = 3) ∨ (n = 37 ∧ mapped n = 0) ∨ (n = 194 ∧ mapped n = 5) := by decide +kernel
theorem esc_fast {c : UInt8} (h : mapped c.toNat = 6 ∨ mapped c.toNat = 4) (r : List UInt8) : escL (c :: r) = c :: escL r := by
  obtain ⟨h1, h2, h3, h4, h5⟩ := mapped_fast c.toNat (UInt8.toNat_lt c) h
  have ne : ∀ {d : UInt8}, c.toNat ≠ d.toNat → c ≠ d := fun k e => k (by rw [e])
  refine esc_no ?_ r ?_
  · rintro (e | e | e | e)
    · exact ne (d := 92) h1 e
    · exact ne (d := 123) h2 e
    · exact ne (d := 125) h3 e
    · exact ne (d := 37) h4 e
  · rintro ⟨e, _⟩
    exact ne (d := 194) h5 e
theorem slow_byte {c : UInt8} (h : ¬ (mapped c.toNat = 6 ∨ mapped c.toNat = 4)) : (c = 92 ∧ mapped c.toNat = 1) ∨ (c = 123 ∧ mapped c.toNat = 2) ∨ (c = 125 ∧ mapped c.toNat = 3) ∨ (c = 37 ∧ mapped c.toNat = 0) ∨ (c = 194 ∧ mapped c.toNat = 5) := by
  have e : ∀ {d : UInt8}, c.toNat = d.toNat → c = d := fun k => UInt8.toNat_inj.1 k
  rcases mapped_slow c.toNat (UInt8.toNat_lt c) h with ⟨a, b⟩ | ⟨a, b⟩ | ⟨a, b⟩ | ⟨a, b⟩ | ⟨a, b⟩
  · exact .inl ⟨e (d := 92) a, b⟩
  · exact .inr (.inl ⟨e (d := 123) a, b⟩)
  · exact .inr (.inr (.inl ⟨e (d := 125) a, b⟩))
  · exact .inr (.inr (.inr (.inl ⟨e (d := 37) a, b⟩)))
  · exact .inr (.inr (.inr (.inr ⟨e (d := 194) a, b⟩)))
/-- What lookup finds at a byte that some key begins with. -/
theorem lookup_any (g : Nat) (s : ByteArray) (hs : 0 < s.size) (hc : ¬ (mapped (s[0]'hs).toNat = 6 ∨ mapped (s[0]'hs).toNat = 4)) (b : Bool) (w : World) (h : St g 5 w) :
    Calls Tryz.prog 126 #[.pointer (some ⟨g, 0, none⟩), .string s, .bool b] w fun e w' => e = .returned (.tuple #[.string (lk s.data.toList).1, .int .i64 (lk s.data.toList).2.1, .bool (lk s.data.toList).2.2]) ∧ Turns Quiet w w' := by
  obtain ⟨r, hr⟩ : ∃ r, s.data.toList = s[0]'hs :: r := by
    have h0 := Lib.data_getElem? s 0 hs
    cases hl : s.data.toList with
    | nil => rw [hl] at h0; cases h0
    | cons a r => rw [hl] at h0; exact ⟨r, by rw [Option.some.inj h0]⟩
  rcases slow_byte hc with ⟨e, hm⟩ | ⟨e, hm⟩ | ⟨e, hm⟩ | ⟨e, hm⟩ | ⟨e, hm⟩
  case inr.inr.inr.inr =>
    refine (lookup_soft g s hs e b w h).mono ?_
    rintro x w' ⟨rfl, q⟩
    refine ⟨?_, q⟩
    have ht : (s.extract 1 s.size).data.toList = r := by
      rw [ByteArray.data_extract, Array.toList_extract, hr]
      have : s.size = r.length + 1 := by have := Lib.size_eq s; rw [hr] at this; simpa using this
      simp [List.extract, this]
    rw [ht, hr, e]
    by_cases hp : Lib.hasPrefix r [173] = true
    · rw [if_pos hp]
      cases r with
      | nil => cases hp
      | cons d r =>
        obtain rfl : 173 = d := by simpa [Lib.hasPrefix] using hp
        rfl
    · rw [if_neg hp]
      rw [lk_no (by decide) r (by
        rintro ⟨_, hd⟩
        apply hp
        cases r with
        | nil => cases hd
        | cons d r =>
          obtain rfl : d = 173 := by simpa using hd
          rfl)]
      rfl
  all_goals
    first
      | refine (lookup_one g 92 1 0 (by decide +kernel) (by omega) rfl (by omega) ⟨#[92, 92]⟩ 10 (by omega) rfl s hs e b w h).mono ?_
      | refine (lookup_one g 123 2 1 (by decide +kernel) (by omega) rfl (by omega) ⟨#[92, 123]⟩ 8 (by omega) rfl s hs e b w h).mono ?_
      | refine (lookup_one g 125 3 2 (by decide +kernel) (by omega) rfl (by omega) ⟨#[92, 125]⟩ 6 (by omega) rfl s hs e b w h).mono ?_
      | refine (lookup_one g 37 0 3 (by decide +kernel) (by omega) rfl (by omega) ⟨#[92, 37]⟩ 4 (by omega) rfl s hs e b w h).mono ?_
    rintro x w' ⟨rfl, q⟩
    refine ⟨?_, q⟩
    rw [hr, e, lk_one (by decide)]
    rfl

/-! What WriteString's loop keeps: written, not yet written, to come -/
def Inv (S l : List UInt8) (last i : Nat) : Prop := l ++ (S.drop last).take (i - last) ++ escL (S.drop i) = escL S
theorem inv_zero (S : List UInt8) : Inv S [] 0 0 := by simp [Inv]
theorem inv_step {S l : List UInt8} {last i : Nat} (h : Inv S l last i) (hle : last ≤ i) (hi : i < S.length) (he : escL (S.drop i) = S[i] :: escL (S.drop (i + 1))) : Inv S l last (i + 1) := by
  unfold Inv at *
  rw [← h, he, show i + 1 - last = i - last + 1 by omega, List.take_add_one]
  have : (S.drop last)[i - last]? = some S[i] := by
    rw [List.getElem?_drop, show last + (i - last) = i by omega, List.getElem?_eq_getElem hi]
  rw [this]
  simp
theorem inv_past {S l : List UInt8} {last i : Nat} (h : Inv S l last i) (hl : last ≤ S.length) (hi : S.length ≤ i) : l ++ (S.drop last).take (S.length - last) = escL S := by
  unfold Inv at h
  rw [← h, List.drop_of_length_le hi]
  simp only [escL, List.append_nil]
  rw [List.take_of_length_le (by simp), List.take_of_length_le (by simp; omega)]
theorem inv_over {S l : List UInt8} {last : Nat} (h : Inv S l last S.length) (hl : last ≤ S.length) : Inv S l last (S.length + 1) := by
  have := inv_past h hl (Nat.le_refl _)
  unfold Inv
  rw [List.drop_of_length_le (by omega : S.length ≤ S.length + 1), ← this]
  simp only [escL, List.append_nil]
  rw [List.take_of_length_le (by simp; omega), List.take_of_length_le (by simp)]
theorem inv_match {S l v : List UInt8} {last i k : Nat} (h : Inv S l last i) (he : escL (S.drop i) = v ++ escL (S.drop (i + k))) : Inv S (l ++ (S.drop last).take (i - last) ++ v) (i + k) (i + k) := by
  unfold Inv at *
  rw [← h, he]
  simp
theorem inv_len {S l : List UInt8} {last i : Nat} (h : Inv S l last i) : l.length ≤ 2 * S.length := by
  have h1 := esc_len _ S (Nat.le_refl _)
  unfold Inv at h
  rw [← h] at h1
  simp only [List.length_append] at h1
  omega
theorem cells_put (l : List UInt8) (s : ByteArray) : Lib.byteCells l ++ Lib.strCells s = Lib.byteCells (l ++ s.data.toList) := by simp [Lib.byteCells, Lib.strCells]
theorem nil_ahead (b : Nat) (w : World) : (nilAhead 288 174 (.pointer (some ⟨b, 0, none⟩)) "WriteString").run Tryz.prog w = .ok (some false) w := by kernel_rfl
theorem the_method (b : Nat) (w : World) : (method 288 174 (.pointer (some ⟨b, 0, none⟩)) "WriteString").run Tryz.prog w = .ok (140, .pointer (some ⟨b, 0, none⟩)) w := by kernel_rfl

set_option maxHeartbeats 8000000 in
set_option maxRecDepth 100000 in
theorem write_all (g b B : Nat) (s : ByteArray) (w : World) (h : St g 5 w) (hbuf : Buf B b [] w) (hgB : g + 8 ≤ B) (hBw : B ≤ w.heap.size) (hlen : s.size ≤ 35184372088832) :
    Calls Tryz.prog 124 #[.pointer (some ⟨g, 0, none⟩), .iface 174 (.pointer (some ⟨b, 0, none⟩)), .string s] w fun e w' => (∃ n : Int, e = .returned (.tuple #[.int .i64 n, .nilIface])) ∧ Buf B b (Lib.byteCells (escL s.data.toList)) w' ∧ Below B w w' := by
  have hnot : ∀ (x : Bool) (w : World), (Op.unary .not (.bool x)).run Tryz.prog w = .ok (.bool (!x)) w := fun _ _ => rfl
  have hna := nil_ahead b
  have hmt := the_method b
  have hmf : ∀ (fn : Fn) (first cap : Array Value) (w : World), (Instr.makeFunc fn first cap).run Tryz.prog w = .ok (.func fn first cap) w := fun _ _ _ _ => rfl
  have H0 := Aside0.mk (And.intro h hbuf)
  clear h hbuf
  go_enter Tryz.func124, Tryz.ntmps124
  go_wp2_with (fail)
  refine (string_writer (.pointer (some ⟨b, 0, none⟩)) w).mono ?_
  rintro e w' ⟨he, hw⟩
  subst he
  rw [hw]
  clear hw w'
  go_wp2
  go_loopg [6, 7, 9, 11, 12] (s.size + 1) (fun gk s6 s7 s9 s11 s12 w' => ∃ (n : Int) (pm : Bool) (i last : Nat) (l : List UInt8), s6 = .int .i64 n ∧ s7 = .nilIface ∧ s9 = .int .i64 (last : Int) ∧ s11 = .bool pm ∧ s12 = .int .i64 (i : Int) ∧ Aside0 (i + gk = s.size + 1 ∧ last ≤ i ∧ last ≤ s.size ∧ Inv s.data.toList l last i) ∧ Aside0 (St g 5 w' ∧ Buf B b (Lib.byteCells l) w' ∧ Below B w w'))
  case atStart => exact ⟨0, false, 0, 0, [], rfl, rfl, rfl, rfl, rfl, ⟨by omega, by omega, by omega, inv_zero _⟩, ⟨H0.out.1, H0.out.2, Below.refl _ _⟩⟩
  case round =>
    clear H0
    obtain ⟨n, pm, i, last, l, rfl, rfl, rfl, rfl, rfl, HI, HW⟩ := hrel
    have hroot := HW.out.1.root
    have c1 : wr.cell? ⟨g, 1, none⟩ = some (.int .i64 0) := by rw [blk_cell hroot, gr_low _ _ _ (by omega)]; rfl
    have c4 : wr.cell? ⟨g, 4, none⟩ = some (.slice (some ⟨g + 1, 0, none⟩) 6 6) := by rw [blk_cell hroot, gr_low _ _ _ (by omega)]; rfl
    have c5 : wr.cell? ⟨g, 5, none⟩ = some (.int .i64 6) := by rw [blk_cell hroot, gr_low _ _ _ (by omega)]; rfl
    have ctab := fun m v (hv : (Tq g 5)[m]? = some v) => (blk_cell HW.out.1.tab m).trans hv
    have hlt := blk_lt hroot
    have hltt := blk_lt HW.out.1.tab
    have HS : Aside0 (s.data.toList.length = s.size) := ⟨rfl⟩
    have HL := Aside0.mk (inv_len HI.out.2.2.2)
    have hBwr : B ≤ wr.heap.size := Nat.le_trans hBw HW.out.2.2.size
    cases gk with
    | zero =>
      have hi : i = s.size + 1 := by have := HI.out.1; omega
      have hle : ¬ ((i : Int) ≤ (s.size : Int)) := by omega
      clear hroot ctab
      have HP := Aside0.mk (inv_past HI.out.2.2.2 HI.out.2.2.1 (by rw [HS.out]; omega))
      have Hlast := Aside0.mk HI.out.2.2.1
      clear HI hi
      by_cases hl : last = s.size
      · have hl' : (last : Int) = (s.size : Int) := by omega
        have HL := Aside0.mk hl
        clear hl
        go_wp2
        go_ret2
        refine ⟨⟨n, rfl⟩, ?_, HW.out.2.2⟩
        have hp := HP.out
        rw [HL.out, HS.out] at hp
        simp only [Nat.sub_self, List.take_zero, List.append_nil] at hp
        rw [← hp]
        exact HW.out.2.1
      · have hl' : ¬ ((last : Int) = (s.size : Int)) := by omega
        have hl2 : ((last : Int) ≤ (s.size : Int)) := by have := Hlast.out; omega
        clear hl
        go_wp2
        go_region_with (go_at_call 140; refine (write_string B b (Lib.byteCells l) (s.extract last s.size) wr.drew HW.out.2.1.drew ?hl hBwr).mono ?_; (case hl => (have h1 := HL.out; have h2 := HS.out; rw [Lib.byteCells_length, ByteArray.size_extract]; omega)); rintro e w' ⟨rfl, q1, q2⟩)
        go_wp2
        go_ret2
        refine ⟨⟨_, rfl⟩, ?_, HW.out.2.2.drew.trans q2⟩
        rw [cells_put, Lib.extract_data, show s.size - last = s.data.toList.length - last from rfl, HP.out] at q1
        exact q1
    | succ gk =>
      have hle : (i : Int) ≤ (s.size : Int) := by have := HI.out.1; omega
      by_cases his : i < s.size
      · have hne : ¬ ((i : Int) = (s.size : Int)) := by omega
        have hlt2 : ((i : Int) < (s.size : Int)) := by omega
        obtain ⟨c, hc⟩ : ∃ c : UInt8, s[i]'his = c := ⟨_, rfl⟩
        have hdrop : Aside0 (s.data.toList.drop i = c :: s.data.toList.drop (i + 1)) := ⟨by
          rw [List.drop_eq_getElem_cons (show i < s.data.toList.length from his)]
          congr 1⟩
        have hx256 : (c.toNat : Int) < 256 := by have := UInt8.toNat_lt c; omega
        obtain ⟨m, hm⟩ : ∃ m, mapped c.toNat = m := ⟨_, rfl⟩
        have cm : wr.cell? ⟨g, 6 + c.toNat, none⟩ = some (.int .u8 (m : Nat)) := by rw [blk_cell hroot, gr_at _ _ _ (UInt8.toNat_lt c), hm]
        by_cases h6 : m = 6
        · subst h6
          clear hroot ctab
          have HN := Aside0.mk (inv_step HI.out.2.2.2 HI.out.2.1 (show i < s.data.toList.length from his) (by rw [hdrop.out, esc_fast (.inl hm)]; congr 1; rw [← hc]; rfl))
          clear hm
          go_wp2
          go_still_tail 9, (by kernel_rfl)
          change wpList _ _ _ _ _ wr.drew
          go_wp2
          go_roundg gk
          case measure => omega
          case rel => exact ⟨n, pm, i + 1, last, l, rfl, rfl, rfl, rfl, rfl, ⟨by have := HI.out; omega, by have := HI.out; omega, HI.out.2.2.1, HN.out⟩, ⟨HW.out.1.drew, HW.out.2.1.drew, HW.out.2.2.drew⟩⟩
        · have h6' : ¬ ((m : Int) = 6) := by omega
          by_cases h4 : m = 4
          · subst h4
            have ct := ctab 4 (.pointer none) rfl
            clear hroot ctab
            have HN := Aside0.mk (inv_step HI.out.2.2.2 HI.out.2.1 (show i < s.data.toList.length from his) (by rw [hdrop.out, esc_fast (.inr hm)]; congr 1; rw [← hc]; rfl))
            clear hm
            go_wp2
            go_still_tail 9, (by kernel_rfl)
            change wpList _ _ _ _ _ wr.drew
            go_wp2
            go_roundg gk
            case measure => omega
            case rel => exact ⟨n, pm, i + 1, last, l, rfl, rfl, rfl, rfl, rfl, ⟨by have := HI.out; omega, by have := HI.out; omega, HI.out.2.2.1, HN.out⟩, ⟨HW.out.1.drew, HW.out.2.1.drew, HW.out.2.2.drew⟩⟩
          · have hslow : ¬ (mapped c.toNat = 6 ∨ mapped c.toNat = 4) := by rw [hm]; omega
            obtain ⟨p, hp⟩ : ∃ p, (Tq g 5)[m]? = some (.pointer (some p)) := by
              rcases slow_byte hslow with ⟨_, h⟩ | ⟨_, h⟩ | ⟨_, h⟩ | ⟨_, h⟩ | ⟨_, h⟩ <;> rw [hm] at h <;> subst h <;> exact ⟨_, rfl⟩
            have ct := ctab m _ hp
            have hm6 : (m : Int) < 6 := by rcases slow_byte hslow with ⟨_, h⟩ | ⟨_, h⟩ | ⟨_, h⟩ | ⟨_, h⟩ | ⟨_, h⟩ <;> rw [hm] at h <;> omega
            have hxs : 0 < (s.extract i s.size).size := by rw [ByteArray.size_extract]; omega
            have hx0 : (s.extract i s.size)[0]'hxs = c := by rw [ByteArray.getElem_extract]; simpa using hc
            have hxd : (s.extract i s.size).data.toList = s.data.toList.drop i := by rw [Lib.extract_data]; exact List.take_of_length_le (by simp)
            have HC := Aside0.mk (lookup_any g (s.extract i s.size) hxs (by rw [hx0]; exact hslow) pm wr.drew HW.out.1.drew)
            rw [hxd] at HC
            clear hroot ctab hm hp hslow hxs hx0 hxd
            obtain ⟨val, hval⟩ : ∃ v, (lk (s.data.toList.drop i)).1 = v := ⟨_, rfl⟩
            obtain ⟨k, hk⟩ : ∃ v, (lk (s.data.toList.drop i)).2.1 = v := ⟨_, rfl⟩
            by_cases hf : (lk (s.data.toList.drop i)).2.2 = true
            · obtain ⟨m1, m2, m3, m4⟩ := lk_match hf
              rw [hval, hk] at m1
              rw [hk] at m2 m3
              rw [hval] at m4
              rw [List.drop_drop] at m1
              rw [hval, hk, hf] at HC
              have HM := Aside0.mk (inv_match HI.out.2.2.2 m1)
              have HK : Aside0 (1 ≤ k ∧ i + k ≤ s.size) := ⟨m2, by simp at m3; have : s.data.toList.length = s.size := rfl; omega⟩
              have HV := Aside0.mk m4
              have hk0 : ¬ ((k : Int) = 0) := by omega
              have hli : (last : Int) ≤ (i : Int) := by have := HI.out; omega
              have hik : wrap64 ((i : Int) + (k : Int)) = (i : Int) + (k : Int) := by have := HK.out; unfold wrap64; omega
              clear hf m1 m2 m3 m4 hval hk
              go_wp2
              go_still_tail 9, (by kernel_rfl)
              change wpList _ _ _ _ _ wr.drew
              go_wp2_with (fail)
              refine HC.out.mono ?_
              rintro e w1 ⟨rfl, q⟩
              have HW1 : Aside0 (St g 5 w1 ∧ Buf B b (Lib.byteCells l) w1 ∧ Below B w w1) := ⟨HW.out.1.drew.kept q (fun _ k => k.elim), HW.out.2.1.drew.quiet q, HW.out.2.2.drew.trans (q.toBelow hBwr (fun _ k => k.elim))⟩
              have hB1 : B ≤ w1.heap.size := Nat.le_trans hBwr q.size
              clear HC
              go_wp2
              go_region_with (go_at_call 140; refine (write_string B b (Lib.byteCells l) (s.extract last i) w1.drew HW1.out.2.1.drew ?hl hB1).mono ?_; (case hl => (have h1 := HL.out; have h2 := HS.out; rw [Lib.byteCells_length, ByteArray.size_extract]; omega)); rintro e w2 ⟨rfl, q1, q2⟩)
              rw [cells_put, Lib.extract_data] at q1
              have HW2 : Aside0 (St g 5 w2 ∧ Buf B b (Lib.byteCells (l ++ (s.data.toList.drop last).take (i - last))) w2 ∧ Below B w w2) := ⟨HW1.out.1.drew.below q2 (by show g + 2 + 6 ≤ B; omega), q1, HW1.out.2.2.drew.trans q2⟩
              have hB2 : B ≤ w2.heap.size := Nat.le_trans hB1 q2.size
              have hl2 : Aside0 ((Lib.byteCells (l ++ (s.data.toList.drop last).take (i - last))).length + val.size ≤ 140737488355328) := ⟨by
                have h1 := HL.out; have h2 := HS.out; have h3 := HV.out
                rw [Lib.byteCells_length, List.length_append, List.length_take, List.length_drop]; omega⟩
              clear HW1 hB1 q1 q2 q
              go_wp2_with (fail)
              refine (write_string B b _ val w2 HW2.out.2.1 hl2.out hB2).mono ?_
              rintro e w3 ⟨rfl, q1, q2⟩
              rw [cells_put] at q1
              have HW3 : Aside0 (St g 5 w3 ∧ Buf B b (Lib.byteCells (l ++ (s.data.toList.drop last).take (i - last) ++ val.data.toList)) w3 ∧ Below B w w3) := ⟨HW2.out.1.below q2 (by show g + 2 + 6 ≤ B; omega), q1, HW2.out.2.2.trans q2⟩
              clear HW2 hB2 hl2 q1 q2
              go_wp2
              go_roundg (gk + 1 - k)
              case measure => have := HK.out; omega
              case rel => exact ⟨_, _, i + k, i + k, _, rfl, rfl, by rw [hik]; rfl, rfl, by rw [hik]; rfl, ⟨by have := HI.out; have := HK.out; omega, Nat.le_refl _, HK.out.2, HM.out⟩, HW3⟩
            · have hf : (lk (s.data.toList.drop i)).2.2 = false := by simpa using hf
              have HN := Aside0.mk (inv_step HI.out.2.2.2 HI.out.2.1 (show i < s.data.toList.length from his) (by
                have hf' := hf
                rw [hdrop.out] at hf' ⊢
                rw [lk_miss hf']
                congr 1; rw [← hc]; rfl))
              rw [hval, hk, hf] at HC
              clear hf hval hk
              go_wp2
              go_still_tail 9, (by kernel_rfl)
              change wpList _ _ _ _ _ wr.drew
              go_wp2_with (fail)
              refine HC.out.mono ?_
              rintro e w1 ⟨rfl, q⟩
              have HW1 : Aside0 (St g 5 w1 ∧ Buf B b (Lib.byteCells l) w1 ∧ Below B w w1) := ⟨HW.out.1.drew.kept q (fun _ k => k.elim), HW.out.2.1.drew.quiet q, HW.out.2.2.drew.trans (q.toBelow hBwr (fun _ k => k.elim))⟩
              clear HC
              go_wp2
              go_roundg gk
              case measure => omega
              case rel => exact ⟨n, _, i + 1, last, l, rfl, rfl, rfl, rfl, rfl, ⟨by have := HI.out; omega, by have := HI.out; omega, HI.out.2.2.1, HN.out⟩, HW1⟩
      · have hi : i = s.size := by omega
        have hie : (i : Int) = (s.size : Int) := by omega
        have hx : s.extract i s.size = ⟨#[]⟩ := by
          have : (s.extract i s.size).data.toList = [] := by rw [Lib.extract_data, hi]; simp
          cases hy : s.extract i s.size with
          | mk d => rw [hy] at this; simp at this; rw [this]
        have HC := Aside0.mk (lookup_none g pm wr HW.out.1)
        have HN := Aside0.mk (inv_over (last := last) (S := s.data.toList) (l := l) (by have := HI.out.2.2.2; rw [hi] at this; exact this) HI.out.2.2.1)
        have HI' : Aside0 (i = s.size) := ⟨hi⟩
        clear hroot ctab hi his
        go_wp2_with (fail)
        refine HC.out.mono ?_
        rintro e w1 ⟨rfl, q⟩
        have HW1 : Aside0 (St g 5 w1 ∧ Buf B b (Lib.byteCells l) w1 ∧ Below B w w1) := ⟨HW.out.1.kept q (fun _ k => k.elim), HW.out.2.1.quiet q, HW.out.2.2.trans (q.toBelow hBwr (fun _ k => k.elim))⟩
        clear HC
        go_wp2
        go_roundg gk
        case measure => omega
        case rel => exact ⟨n, _, s.size + 1, last, l, rfl, rfl, rfl, rfl, by rw [← HI'.out]; rfl, ⟨by have := HI.out; have := HI'.out; omega, by have := HI.out; omega, HI.out.2.2.1, HN.out⟩, HW1⟩

/-! (*genericReplacer).Replace -/
theorem made_size (z : Value) (n : Nat) : (madeCells #[z] n).size = n := by simp [madeCells]
theorem make_bytes (n : Nat) (hn : n ≤ 35184372088832) (W : World) : (Instr.makeSlice 173 (.int .i64 0) (.int .i64 (n : Int))).run Tryz.prog W = .ok (.slice (some ⟨W.heap.size, 0, none⟩) 0 n) (W.alloc (.cells (madeCells #[.int .u8 0] n) 5 (0, 0))) := by
  obtain ⟨i0, hi, hzz⟩ := Option.map_eq_some_iff.1 infob5
  simp only [Prod.mk.injEq] at hzz
  obtain ⟨hz0, hz1, hz2⟩ := hzz
  have hr := run_make (P := Tryz.prog) W 173 5 i0 (.int .u8 0) Tryz.underlying173 hi hz0 .i64 .i64 0 (n : Int) (by omega) (by omega) (by rw [hz2]; omega) (by omega)
  simp only [Int.toNat_natCast, hz1, Nat.mul_one] at hr
  exact hr
theorem buf_string {B : Nat} {v : Value} {l : List UInt8} {w : World} (h : w.ownsRow B 5 1 v (Lib.byteCells l).length (Lib.byteCells l)) : (convert 173 9 v).run Tryz.prog w = .ok (.string ⟨l.toArray⟩) w := by
  rw [Lib.byteCells_length] at h
  rcases h.2 with ⟨rfl, h0⟩ | ⟨g, cap, cur, rfl, _⟩
  · have : l = [] := List.eq_nil_of_length_eq_zero h0
    subst this
    exact run_convert_bytes_nil w 173 5 Tryz.underlying173 Tryz.underlying5 0 0 9 Tryz.underlying9
  · refine run_convert_bytes_back w 173 9 5 ⟨g, 0, none⟩ cap l Tryz.underlying173 Tryz.underlying5 Tryz.underlying9 fun j hj => ?_
    exact h.cells rfl j _ (by simp [Lib.byteCells, hj])
set_option maxHeartbeats 2000000 in
set_option maxRecDepth 100000 in
theorem gen_replace (g : Nat) (s : ByteArray) (w : World) (h : St g 5 w) (hgB : g + 8 ≤ w.heap.size) (hlen : s.size ≤ 35184372088832) :
    Calls Tryz.prog 123 #[.pointer (some ⟨g, 0, none⟩), .string s] w fun e w' => e = .returned (.string ⟨(escL s.data.toList).toArray⟩) ∧ Below w.heap.size w w' := by
  have hmk := make_bytes s.size hlen
  have H := Aside0.mk h
  clear h
  go_enter Tryz.func123, Tryz.ntmps123
  go_wp2_with (fail)
  obtain ⟨w1, hw1⟩ : ∃ w1, w1 = (w.alloc (.cells (madeCells #[.int .u8 0] s.size) 5 (0, 0))).alloc (.cells #[.slice (some ⟨w.heap.size, 0, none⟩) 0 s.size] 173 (0, 0)) := ⟨_, rfl⟩
  have B1 : Below w.heap.size w w1 := by rw [hw1]; exact below_alloc (below_alloc (Below.refl _ _) _) _
  have K1 : Buf w.heap.size (w.heap.size + 1) [] w1 := by
    rw [hw1]
    exact ⟨by omega, _, new_at (size_alloc _ _) _, (World.ownsRow_made w (madeCells #[.int .u8 0] s.size) s.size (Nat.le_refl _) (by unfold maxLen; omega) (by rw [made_size]; omega)).alloc _, by simp [Value.ownBlock]⟩
  rw [← hw1]
  clear hw1 hmk
  refine (write_all g (w.heap.size + 1) w.heap.size s w1 (H.out.below B1 (by show g + 2 + 6 ≤ _; omega)) K1 hgB B1.size hlen).mono ?_
  rintro e w2 ⟨⟨n, rfl⟩, ⟨_, v, hb, hown, _⟩, B2⟩
  have hcv := buf_string hown
  have cb : w2.cell? ⟨w.heap.size + 1, 0, none⟩ = some v := by rw [blk_cell hb]; rfl
  obtain ⟨ao, n', cap, rfl⟩ : ∃ ao n' cap, v = .slice ao n' cap := by
    rcases hown.2 with ⟨hv, _⟩ | ⟨g, cap, cur, hv, _⟩
    · exact ⟨_, _, _, hv⟩
    · exact ⟨_, _, _, hv⟩
  have B3 := B1.trans B2
  clear B1 K1 B2 hown hb
  go_wp2
  go_ret
  exact ⟨rfl, B3⟩

/-! build, buildOnce, Once.Do -/
set_option maxHeartbeats 4000000 in
set_option maxRecDepth 1000000 in
theorem build_it (rb ob cp : Nat) (w : World) (hob : ob < w.heap.size) (hr : w.cell? ⟨rb, 4, none⟩ = some (.slice (some ⟨ob, 0, none⟩) 10 cp)) (hc : ∀ (j : Nat) x, oldnew[j]? = some x → w.cell? ⟨ob, j, none⟩ = some (.string x)) :
    Calls Tryz.prog 62 #[.pointer (some ⟨rb, 0, none⟩)] w fun e w' => e = .returned (.iface 120 (.pointer (some ⟨w.heap.size, 0, none⟩))) ∧ St w.heap.size 5 w' ∧ w'.heap.size = w.heap.size + 8 ∧ Below w.heap.size w w' := by
  have c0 := hc 0 _ rfl
  have c1 := hc 1 _ rfl
  have c2 := hc 2 _ rfl
  have c3 := hc 3 _ rfl
  have c4 := hc 4 _ rfl
  have c5 := hc 5 _ rfl
  have c6 := hc 6 _ rfl
  have c7 := hc 7 _ rfl
  have c8 := hc 8 _ rfl
  have HC := Aside0.mk (mk_gen ob cp w hob hc)
  clear hc
  go_enter Tryz.func62, Tryz.ntmps62
  go_wp2
  refine wp_loop_rounds 5 ?_
  rw [rounds_succ]
  go_wp2
  rw [rounds_succ]
  go_wp2
  rw [rounds_succ]
  go_wp2
  rw [rounds_succ]
  go_wp2
  rw [rounds_succ]
  go_wp2_with (fail)
  refine HC.out.mono ?_
  rintro e w' ⟨rfl, q1, q2, q3⟩
  go_wp2
  go_ret
  exact ⟨rfl, q1, q2, q3⟩

/-! the once -/
def RB (d st : Int) (r v : Value) : Array Value := #[.int .u32 d, .int .i32 st, .int .u32 0, r, v]
set_option maxHeartbeats 2000000 in
set_option maxRecDepth 100000 in
theorem build_once (rb ob cp : Nat) (d st : Int) (w : World) (hob : ob < w.heap.size) (hr : w.heap[rb]? = some (.cells (RB d st .nilIface (.slice (some ⟨ob, 0, none⟩) 10 cp)) 92 (0, 0))) (hc : ∀ (j : Nat) x, oldnew[j]? = some x → w.cell? ⟨ob, j, none⟩ = some (.string x)) :
    Calls Tryz.prog 51 #[.pointer (some ⟨rb, 0, none⟩)] w fun e w' => e = .returned (.tuple #[]) ∧ w'.heap[rb]? = some (.cells (RB d st (.iface 120 (.pointer (some ⟨w.heap.size, 0, none⟩))) (.slice none 0 0)) 92 (0, 0)) ∧ St w.heap.size 5 w' ∧ w'.heap.size = w.heap.size + 8 ∧ Turns (fun k => k = rb) w w' := by
  have hlt := blk_lt hr
  have c4 : w.cell? ⟨rb, 4, none⟩ = some (.slice (some ⟨ob, 0, none⟩) 10 cp) := by rw [blk_cell hr]; rfl
  have HC := Aside0.mk (build_it rb ob cp w hob c4 hc)
  have HR := Aside0.mk hr
  clear hc hr
  go_enter Tryz.func51, Tryz.ntmps51
  go_wp2_with (fail)
  refine HC.out.mono ?_
  rintro e w' ⟨rfl, q1, q2, q3⟩
  have hr' : w'.heap[rb]? = some (.cells (RB d st .nilIface (.slice (some ⟨ob, 0, none⟩) 10 cp)) 92 (0, 0)) := (q3.block rb hlt).trans HR.out
  have d3 : w'.cell? ⟨rb, 3, none⟩ = some .nilIface := by rw [blk_cell hr']; rfl
  have d4 : w'.cell? ⟨rb, 4, none⟩ = some (.slice (some ⟨ob, 0, none⟩) 10 cp) := by rw [blk_cell hr']; rfl
  have f3 := blk_frozen hr' 3
  have f4 := blk_frozen hr' 4
  have P := Aside0.mk (And.intro hr' (And.intro q1 (And.intro q2 q3)))
  clear HC hr' q1 q2 q3
  go_wp2
  go_end0
  obtain ⟨hr', q1, q2, q3⟩ := P.out
  have t1 := ((Turns.below (S := fun k => k = rb) q3).put ⟨rb, 3, none⟩ (.iface 120 (.pointer (some ⟨w.heap.size, 0, none⟩))) (.inl rfl)).put ⟨rb, 4, none⟩ (.slice none 0 0) (.inl rfl)
  have t2 := ((Turns.refl (fun k => k = rb) w').put ⟨rb, 3, none⟩ (.iface 120 (.pointer (some ⟨w.heap.size, 0, none⟩))) (.inl rfl)).put ⟨rb, 4, none⟩ (.slice none 0 0) (.inl rfl)
  exact ⟨rfl, blk_put (blk_put hr' 3 _ rfl) 4 _ rfl, q1.kept t2 (fun i (hi : i = rb) => by omega), by rw [size_set, size_set]; exact q2, t1⟩
theorem lock_free (a : Addr) (w : World) (hc : w.cell? a = some (.int .i32 0)) (hz : w.frozen? a = false) :
    Calls Tryz.prog 73 #[.pointer (some a)] w fun e w' => e = .returned (.tuple #[]) ∧ w' = w.setCell a (.int .i32 1) := Go.MuLone.lock_free muLib a w hc hz
theorem unlock_deferred (a : Addr) (u : FrameMode) (w : World) (hc : w.cell? a = some (.int .i32 1)) (hz : w.frozen? a = false) :
    CallsD Tryz.prog 74 #[.pointer (some a)] u w fun e u' w' => u' = u ∧ (e = .returned (.tuple #[]) ∧ w' = w.setCell a (.int .i32 0)) := Go.MuLone.unlock_deferred muLib a u w hc hz
theorem store_deferred (a : Addr) (x : Value) (u : FrameMode) (w : World) (hc : w.cell? a = some x) (hz : w.frozen? a = false) :
    CallsD Tryz.prog 75 #[.pointer (some a), .bool true] u w fun e u' w' => u' = u ∧ (e = .returned (.tuple #[]) ∧ w' = w.drew.setCell a (.int .u32 1)) := by
  have hc' : w.drew.cell? a = some x := by go_simp
  have hz' : w.drew.frozen? a = false := by go_simp
  have hst := run_call_store (P := Tryz.prog) Tryz.func81 (by kernel_rfl) (by kernel_rfl) (by kernel_rfl) (by kernel_rfl) (k := .u32) (y := 1) hc' hz'
  go_enter_d Tryz.func75, Tryz.ntmps75
  go_wp2
  go_region_calls
  all_goals (go_end0; exact ⟨rfl, rfl⟩)

theorem bool_load (a : Addr) (x : Int) (w : World) (h : w.cell? a = some (.int .u32 x)) : Calls Tryz.prog 60 #[.pointer (some a)] w fun e w' => e = .returned (.bool (x != 0)) ∧ w' = w := by
  have hl := run_call_load (P := Tryz.prog) Tryz.func72 (by kernel_rfl) (by kernel_rfl) (by kernel_rfl) .u32 (by kernel_rfl) h
  go_enter Tryz.func60, Tryz.ntmps60
  go_wp2
  go_ret
  exact ⟨rfl, rfl⟩
set_option maxHeartbeats 2000000 in
set_option maxRecDepth 100000 in
theorem do_slow (rb ob cp : Nat) (w : World) (hob : ob < w.heap.size) (hne : ¬ ob = rb) (hr : w.heap[rb]? = some (.cells (RB 0 0 .nilIface (.slice (some ⟨ob, 0, none⟩) 10 cp)) 92 (0, 0))) (hc : ∀ (j : Nat) x, oldnew[j]? = some x → w.cell? ⟨ob, j, none⟩ = some (.string x)) :
    Calls Tryz.prog 61 #[.pointer (some ⟨rb, 0, none⟩), .func (.func 51) #[.pointer (some ⟨rb, 0, none⟩)] #[]] w fun e w' => e = .returned (.tuple #[]) ∧ w'.heap[rb]? = some (.cells (RB 1 0 (.iface 120 (.pointer (some ⟨w.heap.size, 0, none⟩))) (.slice none 0 0)) 92 (0, 0)) ∧ St w.heap.size 5 w' ∧ w'.heap.size = w.heap.size + 8 ∧ Turns (fun k => k = rb) w w' := by
  have hlt := blk_lt hr
  obtain ⟨w1, hw1⟩ : ∃ w1, w1 = w.setCell ⟨rb, 1, none⟩ (.int .i32 1) := ⟨_, rfl⟩
  have hr1 : w1.heap[rb]? = some (.cells (RB 0 1 .nilIface (.slice (some ⟨ob, 0, none⟩) 10 cp)) 92 (0, 0)) := by rw [hw1]; exact blk_put hr 1 _ rfl
  have hs1 : w1.heap.size = w.heap.size := by rw [hw1, size_set]
  have ht1 : Turns (fun k => k = rb) w w1 := by rw [hw1]; exact (Turns.refl _ w).put ⟨rb, 1, none⟩ _ (.inl rfl)
  have hc1 : ∀ (j : Nat) x, oldnew[j]? = some x → w1.cell? ⟨ob, j, none⟩ = some (.string x) := fun j x hx => by
    rw [hw1, World.cell?_setCell_other _ _ _ _ (fun e => hne (congrArg Addr.block e).symm)]
    exact hc j x hx
  have b0 : w1.cell? ⟨rb, 0, none⟩ = some (.int .u32 0) := by rw [blk_cell hr1]; rfl
  have HB := Aside0.mk (build_once rb ob cp 0 1 w1 (by omega) hr1 hc1)
  have HL := Aside0.mk (lock_free ⟨rb, 1, none⟩ w (by rw [blk_cell hr]; rfl) (blk_frozen hr 1))
  have HD := Aside0.mk (bool_load ⟨rb, 0, none⟩ 0 w1 b0)
  have hnot : ∀ (x : Bool) (w : World), (Op.unary .not (.bool x)).run Tryz.prog w = .ok (.bool (!x)) w := fun _ _ => rfl
  have P := Aside0.mk (And.intro hs1 ht1)
  clear hr hr1 hc hc1 hs1 ht1
  go_enter_defers Tryz.func61, Tryz.ntmps61
  go_wp2_with (fail)
  refine HL.out.mono ?_
  rintro e w' ⟨rfl, rfl⟩
  rw [← hw1]
  clear hw1 HL
  go_wp2_with (fail)
  refine HD.out.mono ?_
  rintro e w' ⟨rfl, hw⟩
  rw [hw]
  clear hw w' HD
  go_wp2_with (fail)
  refine HB.out.mono ?_
  rintro e w2 ⟨rfl, q1, q2, q3, q4⟩
  rw [P.out.1] at q1 q2 q3
  have HT := P.out.2.then_ q4 (fun i hi => .inl hi)
  have e0 : w2.cell? ⟨rb, 0, none⟩ = some (.int .u32 0) := by rw [blk_cell q1]; rfl
  have hlt2 := blk_lt q1
  have z0 := blk_frozen q1 0
  have r3 : (w2.drew.setCell ⟨rb, 0, none⟩ (.int .u32 1)).heap[rb]? = some (.cells (RB 1 1 (.iface 120 (.pointer (some ⟨w.heap.size, 0, none⟩))) (.slice none 0 0)) 92 (0, 0)) := blk_put (blk_drew q1) 0 _ rfl
  have r4 := blk_put r3 1 (.int .i32 0) (cs' := RB 1 0 (.iface 120 (.pointer (some ⟨w.heap.size, 0, none⟩))) (.slice none 0 0)) rfl
  have e1 : (w2.drew.setCell ⟨rb, 0, none⟩ (.int .u32 1)).cell? ⟨rb, 1, none⟩ = some (.int .i32 1) := by rw [blk_cell r3]; rfl
  have z1 := blk_frozen r3 1
  have t2 := (((Turns.refl (fun k => k = rb) w2).drew).put ⟨rb, 0, none⟩ (.int .u32 1) (.inl rfl)).put ⟨rb, 1, none⟩ (.int .i32 0) (.inl rfl)
  have HP : Aside0 ((((w2.drew.setCell ⟨rb, 0, none⟩ (.int .u32 1)).setCell ⟨rb, 1, none⟩ (.int .i32 0)).heap[rb]? = some (.cells (RB 1 0 (.iface 120 (.pointer (some ⟨w.heap.size, 0, none⟩))) (.slice none 0 0)) 92 (0, 0)) ∧ St w.heap.size 5 ((w2.drew.setCell ⟨rb, 0, none⟩ (.int .u32 1)).setCell ⟨rb, 1, none⟩ (.int .i32 0)) ∧ ((w2.drew.setCell ⟨rb, 0, none⟩ (.int .u32 1)).setCell ⟨rb, 1, none⟩ (.int .i32 0)).heap.size = w.heap.size + 8 ∧ Turns (fun k => k = rb) w ((w2.drew.setCell ⟨rb, 0, none⟩ (.int .u32 1)).setCell ⟨rb, 1, none⟩ (.int .i32 0)))) :=
    ⟨r4, q2.kept t2 (fun i (hi : i = rb) => by omega), by rw [size_set, size_set]; exact q3, HT.then_ t2 (fun i hi => .inl hi)⟩
  have E1 := Aside0.mk e1
  have Z1 := Aside0.mk z1
  clear HB P q1 q2 q3 q4 r3 r4 t2 HT e1 z1
  go_wp2
  refine leaves_cons (f := 75) (args := #[.pointer (some ⟨rb, 0, none⟩), .bool true]) (by simp) (by simp [go_sem]) ?_
  refine (store_deferred ⟨rb, 0, none⟩ (.int .u32 0) .returning w2 e0 z0).mono ?_
  rintro e u' w3 ⟨rfl, rfl, rfl⟩
  refine leaves_cons (f := 74) (args := #[.pointer (some ⟨rb, 1, none⟩)]) (by simp [settle]) (by simp [go_sem]) ?_
  refine (unlock_deferred ⟨rb, 1, none⟩ _ _ E1.out Z1.out).mono ?_
  rintro e u' w4 ⟨rfl, rfl, rfl⟩
  have := HP.out
  simp only [Leaves, settle]
  refine ⟨.tuple #[], ?_, rfl, this⟩
  simp [results, Tryz.results61]
set_option maxHeartbeats 2000000 in
set_option maxRecDepth 100000 in
/-- Do, not yet done. -/
theorem do_first (rb ob cp : Nat) (w : World) (hob : ob < w.heap.size) (hne : ¬ ob = rb) (hr : w.heap[rb]? = some (.cells (RB 0 0 .nilIface (.slice (some ⟨ob, 0, none⟩) 10 cp)) 92 (0, 0))) (hc : ∀ (j : Nat) x, oldnew[j]? = some x → w.cell? ⟨ob, j, none⟩ = some (.string x)) :
    Calls Tryz.prog 50 #[.pointer (some ⟨rb, 0, none⟩), .func (.func 51) #[.pointer (some ⟨rb, 0, none⟩)] #[]] w fun e w' => e = .returned (.tuple #[]) ∧ w'.heap[rb]? = some (.cells (RB 1 0 (.iface 120 (.pointer (some ⟨w.heap.size, 0, none⟩))) (.slice none 0 0)) 92 (0, 0)) ∧ St w.heap.size 5 w' ∧ w'.heap.size = w.heap.size + 8 ∧ Turns (fun k => k = rb) w w' := by
  have HD := Aside0.mk (bool_load ⟨rb, 0, none⟩ 0 w (by rw [blk_cell hr]; rfl))
  have HS := Aside0.mk (do_slow rb ob cp w hob hne hr hc)
  have hnot : ∀ (x : Bool) (w : World), (Op.unary .not (.bool x)).run Tryz.prog w = .ok (.bool (!x)) w := fun _ _ => rfl
  clear hr hc
  go_enter Tryz.func50, Tryz.ntmps50
  go_wp2_with (fail)
  refine HD.out.mono ?_
  rintro e w' ⟨rfl, hw⟩
  rw [hw]
  clear hw w' HD
  go_wp2_with (fail)
  refine HS.out.mono ?_
  rintro e w2 ⟨rfl, q⟩
  have HQ := Aside0.mk q
  clear q HS
  go_wp2
  go_end0
  exact ⟨rfl, HQ.out⟩
/-- The replacer as NewReplacer leaves it. -/
structure Fresh (rb ob cp : Nat) (w : World) : Prop where
  ne : ¬ ob = rb
  lt : ob < w.heap.size
  blk : w.heap[rb]? = some (.cells (RB 0 0 .nilIface (.slice (some ⟨ob, 0, none⟩) 10 cp)) 92 (0, 0))
  row : ∀ (j : Nat) x, oldnew[j]? = some x → w.cell? ⟨ob, j, none⟩ = some (.string x)
theorem replace_method (g : Nat) (w : World) : (method 288 120 (.pointer (some ⟨g, 0, none⟩)) "Replace").run Tryz.prog w = .ok (123, .pointer (some ⟨g, 0, none⟩)) w := by kernel_rfl
set_option maxHeartbeats 2000000 in
set_option maxRecDepth 100000 in
/-- Replace, the first time. -/
theorem replace_first (rb ob cp : Nat) (s : ByteArray) (hlen : s.size ≤ 35184372088832) (w : World) (h : Fresh rb ob cp w) :
    Calls Tryz.prog 38 #[.pointer (some ⟨rb, 0, none⟩), .string s] w fun e w' => e = .returned (.string ⟨(escL s.data.toList).toArray⟩) ∧ Turns (fun k => k = rb) w w' := by
  have hlt := blk_lt h.blk
  have HF := Aside0.mk (do_first rb ob cp w h.lt h.ne h.blk h.row)
  have hmf : ∀ (fn : Fn) (first cap : Array Value) (w : World), (Instr.makeFunc fn first cap).run Tryz.prog w = .ok (.func fn first cap) w := fun _ _ _ _ => rfl
  have hmt := replace_method w.heap.size
  clear h
  go_enter Tryz.func38, Tryz.ntmps38
  go_wp2_with (fail)
  refine HF.out.mono ?_
  rintro e w2 ⟨rfl, q1, q2, q3, q4⟩
  have d3 : w2.cell? ⟨rb, 3, none⟩ = some (.iface 120 (.pointer (some ⟨w.heap.size, 0, none⟩))) := by rw [blk_cell q1]; rfl
  have hlt2 := blk_lt q1
  have HG := Aside0.mk (gen_replace w.heap.size s w2 q2 (by omega) hlen)
  have HT := Aside0.mk q4
  clear q1 q2 q3 q4 HF
  go_wp2_with (fail)
  refine HG.out.mono ?_
  rintro e w3 ⟨rfl, q⟩
  have HT3 := Aside0.mk (HT.out.then_ (Turns.below (S := Quiet) q) (fun _ k => k.elim))
  clear q HT HG
  go_wp2
  go_ret
  exact ⟨rfl, HT3.out⟩

/-! NewReplacer, Escape -/
theorem infos9 : (Tryz.prog.info? 9).map (fun i => (i.zero, i.size, i.bytes)) = some (some (.string ⟨#[]⟩), 1, 16) := by kernel_rfl
def oldnewV : List Value := oldnew.map Value.string
theorem copied (o : Nat) (w : World) (hc : ∀ (j : Nat) x, oldnew[j]? = some x → w.cell? ⟨o, j, none⟩ = some (.string x)) :
    (Builtin.append_ #[36, 36] 36 #[.slice none 0 0, .slice (some ⟨o, 0, none⟩) 10 10]).run Tryz.prog w = .ok (.slice (some ⟨w.heap.size, 0, none⟩) 10 (grownCap w 10 0 9)) (w.drew.alloc (.cells (oldnewV.toArray ++ Builtin.zeroCells (Value.string ⟨#[]⟩).cells (grownCap w 10 0 9 - 10)) 9 (0, 0))) := by
  obtain ⟨i0, hi, hzz⟩ := Option.map_eq_some_iff.1 infos9
  simp only [Prod.mk.injEq] at hzz
  obtain ⟨hz0, hz1, hz2⟩ := hzz
  refine run_append_nil (P := Tryz.prog) w 36 36 9 i0 (.string ⟨#[]⟩) Tryz.underlying36 hi hz0 ⟨o, 0, none⟩ 10 10 oldnewV (by rw [hz1]; rfl) (fun j v hv => ?_) (by omega) (by omega) (by rw [hz2]; omega)
  have hadd : (⟨o, 0, none⟩ : Addr).add j = ⟨o, j, none⟩ := by unfold Addr.add; split <;> simp_all
  rw [hadd]
  unfold oldnewV at hv
  rw [List.getElem?_map] at hv
  obtain ⟨x, hx, rfl⟩ := Option.map_eq_some_iff.1 hv
  exact hc j x hx
set_option maxHeartbeats 2000000 in
set_option maxRecDepth 100000 in
theorem new_replacer (o : Nat) (w : World) (hc : ∀ (j : Nat) x, oldnew[j]? = some x → w.cell? ⟨o, j, none⟩ = some (.string x)) :
    Calls Tryz.prog 37 #[.slice (some ⟨o, 0, none⟩) 10 10] w fun e w' => ∃ rb ob cp, e = .returned (.pointer (some ⟨rb, 0, none⟩)) ∧ w.heap.size ≤ rb ∧ Fresh rb ob cp w' ∧ Below w.heap.size w w' := by
  have hap := copied o w hc
  obtain ⟨cp, hcp⟩ : ∃ cp, grownCap w 10 0 9 = cp := ⟨_, rfl⟩
  rw [hcp] at hap
  clear hc hcp
  go_enter Tryz.func37, Tryz.ntmps37
  go_wp2_with (at_builtin; refine Lib.wpList_append_run _ rfl _ _ 36 36 rfl _ _ rfl rfl _ _ hap ?_)
  go_ret
  obtain ⟨X, hX⟩ : ∃ X, X = oldnewV.toArray ++ Builtin.zeroCells #[Value.string ⟨#[]⟩] (cp - 10) := ⟨_, rfl⟩
  have hXj : ∀ (j : Nat) x, oldnew[j]? = some x → X[j]? = some (.string x) := fun j x hx => by
    rw [hX, Array.getElem?_append_left (by have := (List.getElem?_eq_some_iff.1 hx).1; simpa [oldnewV] using this)]
    unfold oldnewV
    rw [List.getElem?_toArray, List.getElem?_map, hx]
    rfl
  rw [← hX]
  have b1 := blk_new w (.cells X 9 (0, 0))
  refine ⟨w.heap.size + 1, w.heap.size, cp, rfl, by omega, ⟨by omega, ?_, ?_, ?_⟩, ?_⟩
  · exact blk_lt (blk_drew (blk_alloc b1 _))
  · exact blk_drew (new_at (size_alloc _ _) _)
  · exact fun j x hx => (blk_cell (blk_drew (blk_alloc b1 _)) j).trans (hXj j x hx)
  · exact (below_alloc (below_alloc (Below.refl _ _) _) _).drew
set_option maxHeartbeats 2000000 in
set_option maxRecDepth 100000 in
theorem escape (s : ByteArray) (hlen : s.size ≤ 35184372088832) (w : World) :
    Calls Tryz.prog 18 #[.string s] w fun e w' => e = .returned (.string ⟨(escL s.data.toList).toArray⟩) ∧ Below w.heap.size w w' := by
  go_enter Tryz.func18, Tryz.ntmps18
  go_wp2_with (fail)
  obtain ⟨w1, hw1⟩ : ∃ w1, w1 = w.alloc (.cells oldnewV.toArray 9 (0, 0)) := ⟨_, rfl⟩
  have hb : w1.heap[w.heap.size]? = some (.cells oldnewV.toArray 9 (0, 0)) := by rw [hw1]; exact blk_new _ _
  have B1 : Below w.heap.size w w1 := by rw [hw1]; exact below_alloc (Below.refl _ _) _
  change Calls Tryz.prog 37 _ (w.alloc (.cells oldnewV.toArray 9 (0, 0))) _
  rw [← hw1]
  refine (new_replacer w.heap.size w1 (fun j x hx => by
    rw [blk_cell hb]
    unfold oldnewV
    rw [List.getElem?_toArray, List.getElem?_map, hx]
    rfl)).mono ?_
  rintro e w2 ⟨rb, ob, cp, rfl, hrb, F, B2⟩
  have B3 := Aside0.mk (B1.trans (B2.mono B1.size))
  have hle : Aside0 (w.heap.size ≤ rb) := ⟨Nat.le_trans B1.size hrb⟩
  have HR := Aside0.mk (replace_first rb ob cp s hlen w2 F)
  clear hw1 hb B1 hrb F B2
  go_wp2_with (fail)
  refine HR.out.mono ?_
  rintro e w3 ⟨rfl, q⟩
  have B4 := Aside0.mk (B3.out.trans (q.toBelow B3.out.size (fun i (hi : i = rb) => by have := hle.out; omega)))
  clear HR B3 q
  go_wp2
  go_ret
  exact ⟨rfl, B4.out⟩

end Go.Proofs.YtjiljpddkfcdbaaGreatDoor.PLx

/- Written by a program of this session: functions of the given program as plain Lean functions, the walks that show it, and the row of each law, for every input that its statement speaks of. -/
import Derived.Test.YtnkdopihaohimaaPBrx0
import Derived.Test.YtnkdopihaohimaaPBrx4
import Derived.Test.YtnkdopihaohimaaPBrx6
import Derived.Test.YtnkdopihaohimaaPBrx7
namespace Go.Proofs.Ytnkdopihaohimaa.PBr
open Go.RowKit Go.Proofs.YtnkdopihaohimaaW.PrintWords Go.Proofs.YtnkdopihaohimaaW.PrintLast Go.Proofs.YtnkdopihaohimaaW.PrintMore
attribute [local go_sem] max2_int min2_int max_two min_two max_three min_three max_four min_four   -- for this text's walks alone
set_option linter.unusedVariables false
set_option linter.unusedSimpArgs false

/-! ### breaker_Best: by hand, with sum's and seeker's methods -/
/-- What is known of a way to the end: is there one, its demerits, its next break, the class of the line to it. -/
structure TL where
 ok : Bool
 dm : Int
 nx : Int
 cl : Int
def TL0 : TL := ⟨false, 0, 0, 0⟩
def tg (T : List TL) (i : Nat) : TL := T.getD i TL0
/-- A sum of glue: width, shrink and stretch; the stretch of the higher orders; which of these have been seen. -/
structure SM where
 W : Int
 H : Int
 A : Int
 B : Int
 C : Int
 D : Int
 ob : Int
 oc : Int
 od : Int
def SM.cells (s : SM) : Array Value := #[.int .i64 s.W, .int .i64 s.A, .int .i64 s.H, .int .i64 0, .int .i64 0, .int .i64 s.B, .int .i64 0, .int .i64 s.ob, .int .i64 0, .int .i64 s.C, .int .i64 0, .int .i64 s.oc, .int .i64 0, .int .i64 s.D, .int .i64 0, .int .i64 s.od]
def SM.row (s : SM) : List S45 := [⟨s.W, s.A, s.H, 0⟩, ⟨0, s.B, 0, s.ob⟩, ⟨0, s.C, 0, s.oc⟩, ⟨0, s.D, 0, s.od⟩]
def SM.more (s : SM) (x : S47) : SM := if x.f0 = 2 then ⟨wrap64 (s.W + x.f1.f0), s.H, s.A, s.B, s.C, s.D, s.ob, s.oc, s.od⟩ else s
def SM0 : SM := ⟨0, 0, 0, 0, 0, 0, 0, 0, 0⟩
def badd.f (s : SM) (g : S45) : Option SM :=
 if g.f3 = 0 then some ⟨wrap64 (s.W + g.f0), wrap64 (s.H + g.f2), wrap64 (s.A + g.f1), s.B, s.C, s.D, s.ob, s.oc, s.od⟩
 else if g.f3 = 1 then some ⟨wrap64 (s.W + g.f0), wrap64 (s.H + g.f2), s.A, wrap64 (s.B + g.f1), s.C, s.D, 1, s.oc, s.od⟩
 else if g.f3 = 2 then some ⟨wrap64 (s.W + g.f0), wrap64 (s.H + g.f2), s.A, s.B, wrap64 (s.C + g.f1), s.D, s.ob, 2, s.od⟩
 else if g.f3 = 3 then some ⟨wrap64 (s.W + g.f0), wrap64 (s.H + g.f2), s.A, s.B, s.C, wrap64 (s.D + g.f1), s.ob, s.oc, 3⟩
 else none
def bset.f (k : Nat) (s : SM) (x : S47) (w : Int) : Option (Int × Int × Int × Int × Bool) := glue_Set.f k (s.more x).row w
def bopt.put (T : List TL) (j : Nat) (n b c : Int) : List TL := if (tg T j).ok = true then (if n < (tg T j).dm then T.set j ⟨true, n, b, c⟩ else T) else T.set j ⟨true, n, b, c⟩
def bopt.l : Nat → Nat → Int → Int → Int → Int → List TL → Int → Option (List TL)
 | 0, _, _, _, _, _, _, _ => none
 | k + 1, p, d, e, b, c, T, i => if i < 4 then (if 0 ≤ i then (demerit_Apart.f c i).bind fun t => bopt.l k p d e b c (bopt.put T (p + i.toNat) (wrap64 (wrap64 (d + e) + t)) b c) (wrap64 (i + 1)) else none) else some T
def bopt.rest (l : List S47) (T : List TL) (b c : Int) : TL := if b = (l.length : Int) - 1 then ⟨true, 0, 0, 0⟩ else tg T (4 * (b + 1).toNat + c.toNat)
def bopt.f (l : List S47) (T : List TL) (a b y0 y1 y2 y3 : Int) : Option (List TL) :=
 if 0 ≤ b then (if b < (l.length : Int) then (if -1 ≤ a then (if a < (l.length : Int) then
  (demerit_Demerits.f y0 y1 y2 y3 (if a ≥ 0 then (rd_T47 l (mx a 0)).f3 else false) (rd_T47 l b).f0 (rd_T47 l b).f1.f0 (rd_T47 l b).f1.f1 (rd_T47 l b).f1.f2 (rd_T47 l b).f1.f3 (rd_T47 l b).f2 (rd_T47 l b).f3 (rd_T47 l b).f4 (rd_T47 l b).f5).bind fun d =>
  (demerit_Class.f y0 y1 y2 y3).bind fun c =>
  if 0 ≤ c then (if c < 4 then
   (if (bopt.rest l T b c).ok = true then bopt.l 5 (4 * (a + 1).toNat) d (bopt.rest l T b c).dm b c T 0 else some T) else none) else none else none) else none) else none) else none
def bfrom.try_ (k : Nat) (l : List S47) (w tol a : Int) (T : List TL) (s : SM) (b : Int) : Option (List TL) :=
 (demerit_Legal.f k l b).bind fun t => if t = true then (if b > a then ((bset.f k s (rd_T47 l b) w).bind fun y => if y.2.2.2.2 = true then (if y.2.2.2.1 ≤ mn tol 10000 then bopt.f l T a b y.1 y.2.1 y.2.2.1 y.2.2.2.1 else some T) else some T) else some T) else some T
def bfrom.add (s : SM) (x : S47) : Option SM := if x.f0 = 2 then some s else badd.f s x.f1
def bfrom.l : Nat → List S47 → Int → Int → Int → List TL → SM → Int → Option (List TL)
 | 0, _, _, _, _, _, _, _ => none
 | k + 1, l, w, tol, a, T, s, b => if b < (l.length : Int) then (if 0 ≤ b then
  (bfrom.try_ k l w tol a T s b).bind fun T1 =>
  (demerit_Forced.f (rd_T47 l b).f0 (rd_T47 l b).f1.f0 (rd_T47 l b).f1.f1 (rd_T47 l b).f1.f2 (rd_T47 l b).f1.f3 (rd_T47 l b).f2 (rd_T47 l b).f3 (rd_T47 l b).f4 (rd_T47 l b).f5).bind fun z =>
  if z = true then some T1 else (bfrom.add s (rd_T47 l b)).bind fun s1 => if wrap64 (s1.W - s1.H) > w then some T1 else bfrom.l k l w tol a T1 s1 (wrap64 (b + 1)) else none) else some T
def bfrom.f (k : Nat) (l : List S47) (w tol a : Int) (T : List TL) : Option (List TL) := (demerit_Start.f k l a).bind fun b => bfrom.l k l w tol a T SM0 b
def breaker_Best.t (k : Nat) (l : List S47) (a : Int) : Option Bool := if a = -1 then some true else demerit_Legal.f k l a
def breaker_Best.l0 : Nat → List S47 → Int → Int → List TL → Int → Option (List TL)
 | 0, _, _, _, _, _ => none
 | k + 1, l, w, tol, T, a => if a ≥ -1 then (if a < (l.length : Int) then (breaker_Best.t k l a).bind fun t => (if t = true then bfrom.f k l w tol a T else some T).bind fun T1 => breaker_Best.l0 k l w tol T1 (wrap64 (a - 1)) else none) else some T
def breaker_Best.l1 : Nat → List S47 → List TL → List Int → Int → Int → Option (List Int)
 | 0, _, _, _, _, _ => none
 | k + 1, l, T, out, a, c => if a < (l.length : Int) - 1 then (if -1 ≤ a then (if 0 ≤ c then (if c < 4 then (if out.length < 1954687338268 then breaker_Best.l1 k l T (out ++ [(tg T (4 * (a + 1).toNat + c.toNat)).nx]) (tg T (4 * (a + 1).toNat + c.toNat)).nx (tg T (4 * (a + 1).toNat + c.toNat)).cl else none) else none) else none) else none) else some out
def breaker_Best.f (k : Nat) (l : List S47) (w tol : Int) : Option (List Int × Int × Bool) := (item_May.f k l).bind fun t => if t = true then (if l.length ≤ 100000 then
  (breaker_Best.l0 k l w tol (List.replicate (4 * (l.length + 1)) TL0) ((l.length : Int) - 1)).bind fun T => if (tg T 2).ok = true then (breaker_Best.l1 k l T [] (-1) 2).bind fun out => some (out, (tg T 2).dm, true) else some ([], 0, false) else none) else some ([], 0, false)
/-! more rounds answer the same -/
theorem bset.mono (s : SM) (x : S47) (w : Int) (k : Nat) : LeO (bset.f k s x w) (bset.f (k + 1) s x w) := glue_Set.mono _ _ _
theorem bfrom.mono_t (l : List S47) (w tol a : Int) (T : List TL) (s : SM) (b : Int) (k : Nat) : LeO (bfrom.try_ k l w tol a T s b) (bfrom.try_ (k + 1) l w tol a T s b) := by
 unfold bfrom.try_
 exact LeO.bind (demerit_Legal.mono _ _ _) (fun _ => LeO.ite (LeO.ite (LeO.bind (bset.mono _ _ _ _) (fun _ => LeO.refl _)) (LeO.refl _)) (LeO.refl _))
theorem bfrom.mono_l : ∀ k l w tol a T s b, LeO (bfrom.l k l w tol a T s b) (bfrom.l (k + 1) l w tol a T s b)
 | 0 => fun _ _ _ _ _ _ _ r h => by simp [bfrom.l] at h
 | k + 1 => by
  intro l w tol a T s b
  have ih := bfrom.mono_l k
  unfold bfrom.l
  exact LeO.ite (LeO.ite (LeO.bind (bfrom.mono_t _ _ _ _ _ _ _ _) (fun _ => LeO.bind (LeO.refl _) (fun _ => LeO.ite (LeO.refl _) (LeO.bind (LeO.refl _) (fun _ => LeO.ite (LeO.refl _) (ih _ _ _ _ _ _ _)))))) (LeO.refl _)) (LeO.refl _)
theorem bfrom.mono (l : List S47) (w tol a : Int) (T : List TL) (k : Nat) : LeO (bfrom.f k l w tol a T) (bfrom.f (k + 1) l w tol a T) := LeO.bind (demerit_Start.mono _ _ _) (fun _ => bfrom.mono_l _ _ _ _ _ _ _ _)
theorem breaker_Best.mono_t (l : List S47) (a : Int) (k : Nat) : LeO (breaker_Best.t k l a) (breaker_Best.t (k + 1) l a) := by
 unfold breaker_Best.t
 exact LeO.ite (LeO.refl _) (demerit_Legal.mono _ _ _)
theorem breaker_Best.mono_l : ∀ k l w tol T a, LeO (breaker_Best.l0 k l w tol T a) (breaker_Best.l0 (k + 1) l w tol T a)
 | 0 => fun _ _ _ _ _ r h => by simp [breaker_Best.l0] at h
 | k + 1 => by
  intro l w tol T a
  have ih := breaker_Best.mono_l k
  unfold breaker_Best.l0
  exact LeO.ite (LeO.ite (LeO.bind (breaker_Best.mono_t _ _ _) (fun _ => LeO.bind (LeO.ite (bfrom.mono _ _ _ _ _ _) (LeO.refl _)) (fun _ => ih _ _ _ _ _))) (LeO.refl _)) (LeO.refl _)
theorem breaker_Best.mono_l1 : ∀ k l T out a c, LeO (breaker_Best.l1 k l T out a c) (breaker_Best.l1 (k + 1) l T out a c)
 | 0 => fun _ _ _ _ _ r h => by simp [breaker_Best.l1] at h
 | k + 1 => by
  intro l T out a c
  have ih := breaker_Best.mono_l1 k
  unfold breaker_Best.l1
  exact LeO.ite (LeO.ite (LeO.ite (LeO.ite (LeO.ite (ih _ _ _ _ _) (LeO.refl _)) (LeO.refl _)) (LeO.refl _)) (LeO.refl _)) (LeO.refl _)
theorem breaker_Best.mono : ∀ a0 a1 a2 k, LeO (breaker_Best.f k a0 a1 a2) (breaker_Best.f (k + 1) a0 a1 a2) := by
 intro a0 a1 a2 k
 unfold breaker_Best.f
 exact LeO.bind (item_May.mono _ _) (fun _ => LeO.ite (LeO.ite (LeO.bind (breaker_Best.mono_l _ _ _ _ _ _) (fun _ => LeO.ite (LeO.bind (breaker_Best.mono_l1 _ _ _ _ _ _) (fun _ => LeO.refl _)) (LeO.refl _))) (LeO.refl _)) (LeO.refl _))

/-! A call that turns one block alone, beside what is new -/
structure OnlyAt (g : Nat) (w w' : World) : Prop where
 os : w'.os = w.os
 tape : w'.tape = w.tape
 output : w'.output = w.output
 size : w.heap.size ≤ w'.heap.size
 block : ∀ k, k < w.heap.size → k ≠ g → w'.heap[k]? = w.heap[k]?
theorem OnlyAt.refl (g : Nat) (w : World) : OnlyAt g w w := ⟨rfl, rfl, rfl, Nat.le_refl _, fun _ _ _ => rfl⟩
theorem OnlyAt.trans {g : Nat} {a b c : World} (h : OnlyAt g a b) (k : OnlyAt g b c) : OnlyAt g a c :=
 ⟨k.os.trans h.os, k.tape.trans h.tape, k.output.trans h.output, Nat.le_trans h.size k.size, fun i hi hg => (k.block i (Nat.lt_of_lt_of_le hi h.size) hg).trans (h.block i hi hg)⟩
theorem OnlyAt.below {g : Nat} {w w' : World} (h : Below w.heap.size w w') : OnlyAt g w w' := ⟨h.os, h.tape, h.output, h.size, fun i hi _ => h.block i hi⟩
theorem OnlyAt.then_ {g : Nat} {a b c : World} (h : OnlyAt g a b) (k : Below b.heap.size b c) : OnlyAt g a c := h.trans (OnlyAt.below k)
theorem OnlyAt.far {g g' : Nat} {a b c : World} (h : OnlyAt g a b) (k : OnlyAt g' b c) (hg : a.heap.size ≤ g') : OnlyAt g a c :=
 ⟨k.os.trans h.os, k.tape.trans h.tape, k.output.trans h.output, Nat.le_trans h.size k.size, fun i hi hn => (k.block i (Nat.lt_of_lt_of_le hi h.size) (by omega)).trans (h.block i hi hn)⟩
theorem OnlyAt.put {g : Nat} {a b : World} (h : OnlyAt g a b) (j : Nat) (u : Value) : OnlyAt g a (b.setCell ⟨g, j, none⟩ u) :=
 ⟨h.os, h.tape, h.output, by simpa [World.setCell] using h.size, fun i hi hg => (Below.heap_setCell b ⟨g, j, none⟩ u i hg).trans (h.block i hi hg)⟩
theorem OnlyAt.aside {g g' : Nat} {a b : World} (h : OnlyAt g a b) (hg : a.heap.size ≤ g') (j : Nat) (u : Value) : OnlyAt g a (b.setCell ⟨g', j, none⟩ u) :=
 ⟨h.os, h.tape, h.output, by simpa [World.setCell] using h.size, fun i hi hn => (Below.heap_setCell b ⟨g', j, none⟩ u i (by show i ≠ g'; omega)).trans (h.block i hi hn)⟩
theorem OnlyAt.drewN {g : Nat} {a b : World} (h : OnlyAt g a b) (n : Nat) : OnlyAt g a (b.drewN n) := ⟨h.os, h.tape, h.output, h.size, h.block⟩
theorem OnlyAt.drew {g : Nat} {a b : World} (h : OnlyAt g a b) : OnlyAt g a b.drew := ⟨h.os, h.tape, h.output, h.size, h.block⟩
theorem OnlyAt.alloc {g : Nat} {a b : World} (h : OnlyAt g a b) (o : Obj) : OnlyAt g a (b.alloc o) := h.trans (OnlyAt.below (below_alloc (Below.refl _ _) o))
theorem OnlyAt.base {g B : Nat} {w0 a b : World} (h : OnlyAt g a b) (k : Below B w0 a) (hB : B ≤ a.heap.size) (hg : B ≤ g) : Below B w0 b :=
 ⟨h.os.trans k.os, h.tape.trans k.tape, h.output.trans k.output, Nat.le_trans k.size h.size, fun i hi => (h.block i (Nat.lt_of_lt_of_le hi hB) (by omega)).trans (k.block i hi)⟩
theorem blk_only {w w1 : World} {g g' : Nat} {o : Obj} (h : w.heap[g']? = some o) (hn : g' ≠ g) (k : OnlyAt g w w1) : w1.heap[g']? = some o := (k.block g' (blk_lt h) hn).trans h
/-! The sum of glue as a row of four -/
theorem SM.reads {w : World} {g : Nat} {t : TypeId} (s : SM) (h : w.heap[g]? = some (.cells s.cells t (0, 0))) : Kd.C k45 w (some ⟨g, 0, none⟩) s.row.length s.row := by
 refine ⟨rfl, by show 4 ≤ _; omega, fun _ => ⟨_, rfl, fun j p hj => ?_⟩⟩
 have hc : ∀ i, w.cell? (Addr.add ⟨g, 0, none⟩ i) = s.cells[i]? := fun i => by
  rw [← blk_cell h i]
  congr 1
  unfold Addr.add
  split
  ·subst_vars; rfl
  ·simp
 match j, hj with
 | 0, hj => cases hj; exact ⟨_, rfl, k45_mk _ _, fun i u hu => by rw [hc]; match i, hu with | 0, hu => exact hu | 1, hu => exact hu | 2, hu => exact hu | 3, hu => exact hu⟩
 | 1, hj => cases hj; exact ⟨_, rfl, k45_mk _ _, fun i u hu => by rw [hc]; match i, hu with | 0, hu => exact hu | 1, hu => exact hu | 2, hu => exact hu | 3, hu => exact hu⟩
 | 2, hj => cases hj; exact ⟨_, rfl, k45_mk _ _, fun i u hu => by rw [hc]; match i, hu with | 0, hu => exact hu | 1, hu => exact hu | 2, hu => exact hu | 3, hu => exact hu⟩
 | 3, hj => cases hj; exact ⟨_, rfl, k45_mk _ _, fun i u hu => by rw [hc]; match i, hu with | 0, hu => exact hu | 1, hu => exact hu | 2, hu => exact hu | 3, hu => exact hu⟩
/-! The table of ways, as its cells lie in one block -/
def TL.vals (t : TL) : List Value := [.bool t.ok, .int .i64 t.dm, .int .i64 t.nx, .int .i64 t.cl]
def encL : List TL → List Value
 | [] => []
 | t :: T => t.vals ++ encL T
def encT (T : List TL) : Array Value := (encL T).toArray
theorem encL_get : ∀ (T : List TL) (j f : Nat), j < T.length → f < 4 → (encL T)[4 * j + f]? = (tg T j).vals[f]?
 | [], j, f => fun h _ => by simp at h
 | t :: T, 0, f => fun _ hf => by
  show (t.vals ++ encL T)[4 * 0 + f]? = t.vals[f]?
  rw [Nat.mul_zero, Nat.zero_add, List.getElem?_append_left (by simpa [TL.vals] using hf)]
 | t :: T, j + 1, f => fun h hf => by
  have e : 4 * (j + 1) + f = t.vals.length + (4 * j + f) := by show _ = 4 + _; omega
  show (t.vals ++ encL T)[4 * (j + 1) + f]? = (tg T j).vals[f]?
  rw [e, List.getElem?_append_right (Nat.le_add_right _ _), Nat.add_sub_cancel_left]
  exact encL_get T j f (by simpa using h) hf
theorem encT_get (T : List TL) (j f : Nat) (h : j < T.length) (hf : f < 4) : (encT T)[4 * j + f]? = (tg T j).vals[f]? := by
 rw [← encL_get T j f h hf]; simp [encT]
theorem encL_set : ∀ (T : List TL) (j : Nat) (x : TL), (((((encL T).set (4 * j) (.bool x.ok)).set (4 * j + 1) (.int .i64 x.dm)).set (4 * j + 2) (.int .i64 x.nx)).set (4 * j + 3) (.int .i64 x.cl)) = encL (T.set j x)
 | [], j, x => by simp [encL]
 | t :: T, 0, x => rfl
 | t :: T, j + 1, x => by
  have ih := encL_set T j x
  have e : ∀ f, 4 * (j + 1) + f = (4 * j + f) + 1 + 1 + 1 + 1 := fun f => by omega
  have e0 : 4 * (j + 1) = (4 * j) + 1 + 1 + 1 + 1 := by omega
  rw [e0, List.set_cons_succ]
  show _ = t.vals ++ encL (T.set j x)
  rw [← ih]
  simp only [encL, TL.vals, List.cons_append, List.nil_append]
  rw [show 4 * j + 1 + 1 + 1 + 1 + 1 = (4 * j + 1) + 1 + 1 + 1 + 1 from rfl, show 4 * j + 1 + 1 + 1 + 1 + 2 = (4 * j + 2) + 1 + 1 + 1 + 1 from by omega, show 4 * j + 1 + 1 + 1 + 1 + 3 = (4 * j + 3) + 1 + 1 + 1 + 1 from by omega]
  simp only [List.set_cons_succ]
theorem encT_set (T : List TL) (j : Nat) (x : TL) : (((((encT T).setIfInBounds (4 * j) (.bool x.ok)).setIfInBounds (4 * j + 1) (.int .i64 x.dm)).setIfInBounds (4 * j + 2) (.int .i64 x.nx)).setIfInBounds (4 * j + 3) (.int .i64 x.cl)) = encT (T.set j x) := by
 unfold encT
 rw [← encL_set]
 simp
theorem blk_tail {w : World} {g : Nat} {T : List TL} (h : w.heap[g]? = some (.cells (encT T) 60 (0, 0))) {j f n : Nat} {v : Value} (hj : j < T.length) (hn : n = 4 * j + f) (hv : (tg T j).vals[f]? = some v) : w.cell? ⟨g, n, none⟩ = some v := by
 subst hn
 have hf : f < 4 := by have := (List.getElem?_eq_some_iff.1 hv).1; simpa [TL.vals] using this
 rw [blk_cell h, encT_get T j f hj hf, hv]
theorem blk_settail {w : World} {g : Nat} {T : List TL} (h : w.heap[g]? = some (.cells (encT T) 60 (0, 0))) (j : Nat) (a b c : Int) {n : Nat} (hn : n = 4 * j) :
  ((((w.setCell ⟨g, n, none⟩ (.bool true)).setCell ⟨g, n + 1, none⟩ (.int .i64 a)).setCell ⟨g, n + 2, none⟩ (.int .i64 b)).setCell ⟨g, n + 3, none⟩ (.int .i64 c)).heap[g]? = some (.cells (encT (T.set j ⟨true, a, b, c⟩)) 60 (0, 0)) := by
 subst hn
 rw [← encT_set]
 exact blk_set (blk_set (blk_set (blk_set h _ _) _ _) _ _) _ _
/-! Regions that read in any order, with operations behind a test -/
section
variable {P : Program} {ops : Array Oper} {w : World} {Q : Act → Prop} {rest : List Oper} {a : Act} {o : Oper}
structure St (P : Program) (ops : Array Oper) (w : World) (Q : Act → Prop) (l : List Oper) (a : Act) : Prop where
 out : wpStill P ops w Q l a
theorem still_on (hw : Region.wanted o (yielded ops a.tmps) = true) (h : ∀ K : Act → Prop, (∀ a, St P ops w Q rest a → K a) → o.still P a w K) : St P ops w Q (o :: rest) a := by
 refine ⟨?_⟩
 unfold wpStill
 rw [if_pos hw]
 exact h _ (fun _ h => h.out)
theorem still_off (hw : Region.wanted o (yielded ops a.tmps) = false) {a' : Act} (ha : a.put o.dst undef = a') (h : St P ops w Q rest a') : St P ops w Q (o :: rest) a := by
 refine ⟨?_⟩
 unfold wpStill
 rw [if_neg (by rw [hw]; decide), ha]
 exact h.out
theorem still_nil (h : Q a) : St P ops w Q [] a := ⟨h⟩
theorem still_start {id : Nat} {Q : Exit → Act → World → Prop} {l : List Oper} (n : Nat) (hm : P.follows .mixedOrders = true) (hB : Region.lexTailB .any l.toArray n = true)
  (h : St P l.toArray w.drew (fun a' => wpList P l.toArray Q (l.drop n) a' w.drew) (l.take n) a) : (Code.region id l.toArray true).wp P Q a w := wp_region_still_tail n hm hB h.out
end
theorem bopt.put_len (T : List TL) (j : Nat) (n b c : Int) : (bopt.put T j n b c).length = T.length := by
 unfold bopt.put
 repeat' split
 all_goals first | rfl | exact List.length_set ..
theorem bopt.len_l : ∀ (k p : Nat) (d e b c : Int) (T : List TL) (i : Int) (T' : List TL), bopt.l k p d e b c T i = some T' → T'.length = T.length
 | 0, _, _, _, _, _, _, _, _ => fun h => by simp [bopt.l] at h
 | k + 1, p, d, e, b, c, T, i, T' => fun h => by
  simp only [bopt.l] at h
  by_cases h1 : i < 4
  ·rw [if_pos h1] at h
   by_cases h2 : 0 ≤ i
   ·rw [if_pos h2] at h
    obtain ⟨t, _, h⟩ := Option.bind_eq_some_iff.mp h
    rw [bopt.len_l k _ _ _ _ _ _ _ _ h, bopt.put_len]
   ·rw [if_neg h2] at h; exact absurd h (by simp)
  ·rw [if_neg h1] at h; rw [Option.some.inj h]
theorem bopt.len {l : List S47} {T T' : List TL} {a b y0 y1 y2 y3 : Int} (h : bopt.f l T a b y0 y1 y2 y3 = some T') : T'.length = T.length := by
 unfold bopt.f at h
 split at h
 ·split at h
  ·split at h
   ·split at h
    ·obtain ⟨d, _, h⟩ := Option.bind_eq_some_iff.mp h
     obtain ⟨c, _, h⟩ := Option.bind_eq_some_iff.mp h
     split at h
     ·split at h
      ·split at h
       ·exact bopt.len_l _ _ _ _ _ _ _ _ _ h
       ·rw [Option.some.inj h]
      ·exact absurd h (by simp)
     ·exact absurd h (by simp)
    ·exact absurd h (by simp)
   ·exact absurd h (by simp)
  ·exact absurd h (by simp)
 ·exact absurd h (by simp)
theorem bfrom.len {k : Nat} {l : List S47} {w tol a : Int} {T T' : List TL} {s : SM} {b : Int} (h : bfrom.try_ k l w tol a T s b = some T') : T'.length = T.length := by
 unfold bfrom.try_ at h
 obtain ⟨t, _, h⟩ := Option.bind_eq_some_iff.mp h
 split at h
 ·split at h
  ·obtain ⟨y, _, h⟩ := Option.bind_eq_some_iff.mp h
   split at h
   ·split at h
    ·exact bopt.len h
    ·rw [Option.some.inj h]
   ·rw [Option.some.inj h]
  ·rw [Option.some.inj h]
 ·rw [Option.some.inj h]
theorem still_all {id : Nat} {P : Program} {Q : Exit → Act → World → Prop} {a : Act} {w : World} {l : List Oper} (hm : P.follows .mixedOrders = true) (hB : Region.lexB .any l.toArray = true)
  (h : St P l.toArray w.drew (fun a' => Q .normal a' w.drew) l a) : (Code.region id l.toArray true).wp P Q a w := wp_region_still_lit hm hB h.out
section
variable {P : Program} {ops : Array Oper} {Q : Exit → Act → World → Prop} {rest : List Oper} {a : Act} {o : Oper}
theorem make_event {W : World} {cs : Array Value} {t : TypeId} {n : Nat} (hgd : o.guard = none)
  (hrun : (execOp a.eval o).run P W = .ok (.value (.slice (some ⟨W.heap.size, 0, none⟩) n n)) (W.alloc (.cells cs t (0, 0))))
  (h : ∀ g, g = W.heap.size → ∀ w1, w1.heap[g]? = some (.cells cs t (0, 0)) → Below W.heap.size W w1 → wpList P ops Q rest (a.put o.dst (.slice (some ⟨g, 0, none⟩) n n)) w1) : wpList P ops Q (o :: rest) a W :=
 Kd.event_run hgd hrun (h _ rfl _ (blk_new W _) (below_alloc (Below.refl _ _) _))
end
/-! A new table: nothing is known -/
def z16 : Array Value := #[.bool false, .int .i64 0, .int .i64 0, .int .i64 0, .bool false, .int .i64 0, .int .i64 0, .int .i64 0, .bool false, .int .i64 0, .int .i64 0, .int .i64 0, .bool false, .int .i64 0, .int .i64 0, .int .i64 0]
theorem tg_new (n i : Nat) : tg (List.replicate n TL0) i = TL0 := by
 unfold tg
 rw [List.getD_eq_getElem?_getD, List.getElem?_replicate]
 split <;> rfl
theorem encL_len : ∀ T : List TL, (encL T).length = 4 * T.length
 | [] => rfl
 | t :: T => by
  have := encL_len T
  simp only [encL, List.length_append, this, List.length_cons, TL.vals, List.length_nil]
  omega
theorem enc_new (n : Nat) : madeCells z16 (n * 16) = encT (List.replicate (4 * n) TL0) := by
 apply Array.ext
 ·rw [size_madeCells]; unfold encT; rw [List.size_toArray, encL_len, List.length_replicate]; omega
 ·intro i h1 h2
  have hi : i < n * 16 := by simpa [size_madeCells] using h1
  have e : i = 4 * (i / 4) + i % 4 := by omega
  have hq := encT_get (List.replicate (4 * n) TL0) (i / 4) (i % 4) (by rw [List.length_replicate]; omega) (Nat.mod_lt _ (by omega))
  rw [← e, tg_new, Array.getElem?_eq_getElem h2] at hq
  have hm : i % 4 < 4 := Nat.mod_lt _ (by omega)
  have h16 : i % 16 < 16 := Nat.mod_lt _ (by omega)
  have hl : (madeCells z16 (n * 16))[i] = z16[i % 16]! := by simp [madeCells, z16]
  rw [hl]
  have key : ∀ j, j < 16 → TL0.vals[j % 4]? = some (z16[j]!) := by
   intro j hj
   have : j = 0 ∨ j = 1 ∨ j = 2 ∨ j = 3 ∨ j = 4 ∨ j = 5 ∨ j = 6 ∨ j = 7 ∨ j = 8 ∨ j = 9 ∨ j = 10 ∨ j = 11 ∨ j = 12 ∨ j = 13 ∨ j = 14 ∨ j = 15 := by omega
   rcases this with rfl | rfl | rfl | rfl | rfl | rfl | rfl | rfl | rfl | rfl | rfl | rfl | rfl | rfl | rfl | rfl <;> rfl
  have k2 := key (i % 16) h16
  rw [show i % 16 % 4 = i % 4 by omega, ← hq] at k2
  exact (Option.some.inj k2).symm
theorem info60 : (Try.prog.info? 60).map (fun i => (i.zero, i.size, i.bytes)) = some (some (.agg z16), 16, 128) := by kernel_rfl
theorem tails_made (n : Nat) (hn : n ≤ 100000) (W : World) : (Instr.makeSlice 54 (.int .i64 ((n : Int) + 1)) (.int .i64 ((n : Int) + 1))).run Try.prog W = .ok (.slice (some ⟨W.heap.size, 0, none⟩) (n + 1) (n + 1)) (W.alloc (.cells (encT (List.replicate (4 * (n + 1)) TL0)) 60)) := by
 obtain ⟨i0, hi, hzz⟩ := Option.map_eq_some_iff.1 info60
 simp only [Prod.mk.injEq] at hzz
 obtain ⟨hz0, hz1, hz2⟩ := hzz
 have hr := run_make (P := Try.prog) W 54 60 i0 (.agg z16) Try.underlying54 hi hz0 .i64 .i64 ((n + 1 : Nat) : Int) ((n + 1 : Nat) : Int) (by omega) (by omega) (by rw [hz2]; omega) (by omega)
 simp only [Int.toNat_natCast] at hr
 rw [hz1, show (Value.agg z16).cells = z16 from rfl, enc_new] at hr
 rw [show ((n : Int) + 1) = ((n + 1 : Nat) : Int) by omega]
 exact hr
theorem bfrom.len_l : ∀ (k : Nat) (l : List S47) (w tol a : Int) (T : List TL) (s : SM) (b : Int) (T' : List TL), bfrom.l k l w tol a T s b = some T' → T'.length = T.length
 | 0, _, _, _, _, _, _, _, _ => fun h => by simp [bfrom.l] at h
 | k + 1, l, w, tol, a, T, s, b, T' => fun h => by
  simp only [bfrom.l] at h
  split at h
  ·split at h
   ·obtain ⟨T1, h1, h⟩ := Option.bind_eq_some_iff.mp h
    obtain ⟨z, _, h⟩ := Option.bind_eq_some_iff.mp h
    have e := bfrom.len h1
    split at h
    ·rw [← Option.some.inj h]; exact e
    ·obtain ⟨s1, _, h⟩ := Option.bind_eq_some_iff.mp h
     split at h
     ·rw [← Option.some.inj h]; exact e
     ·rw [bfrom.len_l k _ _ _ _ _ _ _ _ h]; exact e
   ·exact absurd h (by simp)
  ·rw [Option.some.inj h]
theorem bfrom.len_f {k : Nat} {l : List S47} {w tol a : Int} {T T' : List TL} (h : bfrom.f k l w tol a T = some T') : T'.length = T.length := by
 obtain ⟨b, _, h⟩ := Option.bind_eq_some_iff.mp (show ((demerit_Start.f k l a).bind fun b => bfrom.l k l w tol a T SM0 b) = some T' from h)
 exact bfrom.len_l _ _ _ _ _ _ _ _ _ h

/-! sum.set -/
set_option maxHeartbeats 8000000 in
set_option maxRecDepth 100000 in
theorem bset.calls (k : Nat) (w : World) (gs : Nat) (s : SM) (x : S47) (wd r1 r2 r3 r4 : Int) (r5 : Bool) (hb : w.heap[gs]? = some (.cells s.cells 75 (0, 0))) (h : bset.f k s x wd = some (r1, r2, r3, r4, r5)) :
  Calls Try.prog 35 #[.pointer (some ⟨gs, 0, none⟩), .agg #[.int .i64 x.f0, .int .i64 x.f1.f0, .int .i64 x.f1.f1, .int .i64 x.f1.f2, .int .i64 x.f1.f3, .int .i64 x.f2, .bool x.f3, .int .i64 x.f4, .int .i64 x.f5], .int .i64 wd] w fun e w' => e = .returned (.tuple #[.agg #[.int .i64 r1, .int .i64 r2, .int .i64 r3, .int .i64 r4], .bool r5]) ∧ Below w.heap.size w w' := by
 have hu45 := Try.underlying45
 have hu47 := Try.underlying47
 have hu70 := Try.underlying70
 have hu73 := Try.underlying73
 have hu75 := Try.underlying75
 have BS := a_ hb
 have H' := a_ h
 have HB := a_ (Below.refl w.heap.size w)
 clear hb h
 go_enter Try.func35, Try.ntmps35
 go_upto_region 2 with (first | ((with_reducible refine gate_dst (N := 4) rfl ?_); (try (refine gate_guard (by rfl) ?_; dsimp only)); refine box_event ?hg (N := 4) ?hd (cs := #[.int .i64 x.f0, .int .i64 x.f1.f0, .int .i64 x.f1.f1, .int .i64 x.f1.f2, .int .i64 x.f1.f3, .int .i64 x.f2, .bool x.f3, .int .i64 x.f4, .int .i64 x.f5]) (t := 47) ?hr ?_; (case hd => rfl); (case hg => rfl); (case hr => first | (go_simp; done) | (go_simp; rfl)); intro gx hg w1 hbox hb; have n0_ := a_ (bs_ HB.out hb); have BX := a_ hbox; have GEgx := a_ ((by rw [hg]; exact (below_size (bv_ HB.out)) : w.heap.size ≤ gx)); have m0_ := a_ (blk_below (kv_ BS.out) hb); have NEBS_gx := a_ ((by rw [hg]; exact Nat.ne_of_lt (blk_lt (kv_ BS.out)) : gs ≠ gx)); clear HB BS; have HB := n0_; have BS := m0_; clear n0_ m0_; clear hb hbox hg) | ((with_reducible refine gate_dst (N := 6) rfl ?_); (try (refine gate_guard (by rfl) ?_; dsimp only)); refine box_event ?hg (N := 6) ?hd (cs := #[.int .i64 0, .int .i64 0, .int .i64 0, .int .i64 0]) (t := 70) ?hr ?_; (case hd => rfl); (case hg => rfl); (case hr => first | (go_simp; done) | (go_simp; rfl)); intro gr hg w2 hbox hb; have n0_ := a_ (bs_ HB.out hb); have BR := a_ hbox; have GEgr := a_ ((by rw [hg]; exact (below_size (bv_ HB.out)) : w.heap.size ≤ gr)); have m0_ := a_ (blk_below (kv_ BS.out) hb); have NEBS_gr := a_ ((by rw [hg]; exact Nat.ne_of_lt (blk_lt (kv_ BS.out)) : gs ≠ gr)); have m1_ := a_ (blk_below (kv_ BX.out) hb); have NEBX_gr := a_ ((by rw [hg]; exact Nat.ne_of_lt (blk_lt (kv_ BX.out)) : gx ≠ gr)); clear HB BS BX; have HB := n0_; have BS := m0_; have BX := m1_; clear n0_ m0_ m1_; clear hb hbox hg; have hs_0 : w2.cell? ⟨gs, 0, none⟩ = some (.int .i64 s.W) := (blk_cell BS.out 0).trans rfl; have hs_1 : w2.cell? ⟨gs, 1, none⟩ = some (.int .i64 s.A) := (blk_cell BS.out 1).trans rfl; have hs_2 : w2.cell? ⟨gs, 2, none⟩ = some (.int .i64 s.H) := (blk_cell BS.out 2).trans rfl; have hs_3 : w2.cell? ⟨gs, 3, none⟩ = some (.int .i64 0) := (blk_cell BS.out 3).trans rfl; have hs_4 : w2.cell? ⟨gs, 4, none⟩ = some (.int .i64 0) := (blk_cell BS.out 4).trans rfl; have hs_5 : w2.cell? ⟨gs, 5, none⟩ = some (.int .i64 s.B) := (blk_cell BS.out 5).trans rfl; have hs_6 : w2.cell? ⟨gs, 6, none⟩ = some (.int .i64 0) := (blk_cell BS.out 6).trans rfl; have hs_7 : w2.cell? ⟨gs, 7, none⟩ = some (.int .i64 s.ob) := (blk_cell BS.out 7).trans rfl; have hs_8 : w2.cell? ⟨gs, 8, none⟩ = some (.int .i64 0) := (blk_cell BS.out 8).trans rfl; have hs_9 : w2.cell? ⟨gs, 9, none⟩ = some (.int .i64 s.C) := (blk_cell BS.out 9).trans rfl; have hs_10 : w2.cell? ⟨gs, 10, none⟩ = some (.int .i64 0) := (blk_cell BS.out 10).trans rfl; have hs_11 : w2.cell? ⟨gs, 11, none⟩ = some (.int .i64 s.oc) := (blk_cell BS.out 11).trans rfl; have hs_12 : w2.cell? ⟨gs, 12, none⟩ = some (.int .i64 0) := (blk_cell BS.out 12).trans rfl; have hs_13 : w2.cell? ⟨gs, 13, none⟩ = some (.int .i64 s.D) := (blk_cell BS.out 13).trans rfl; have hs_14 : w2.cell? ⟨gs, 14, none⟩ = some (.int .i64 0) := (blk_cell BS.out 14).trans rfl; have hs_15 : w2.cell? ⟨gs, 15, none⟩ = some (.int .i64 s.od) := (blk_cell BS.out 15).trans rfl) | ((with_reducible refine gate_dst (N := 8) rfl ?_); (try (refine gate_guard (by rfl) ?_; dsimp only)); refine box_event ?hg (N := 8) ?hd (cs := #[.int .i64 0, .int .i64 0, .int .i64 0, .int .i64 0, .int .i64 0, .int .i64 0, .int .i64 0, .int .i64 0, .int .i64 0, .int .i64 0, .int .i64 0, .int .i64 0, .int .i64 0, .int .i64 0, .int .i64 0, .int .i64 0]) (t := 73) ?hr ?_; (case hd => rfl); (case hg => rfl); (case hr => first | (go_simp; done) | (go_simp; rfl)); intro gl hg w3 hbox hb; have n0_ := a_ (bs_ HB.out hb); have BL := a_ hbox; have GEgl := a_ ((by rw [hg]; exact (below_size (bv_ HB.out)) : w.heap.size ≤ gl)); have m0_ := a_ (blk_below (kv_ BS.out) hb); have NEBS_gl := a_ ((by rw [hg]; exact Nat.ne_of_lt (blk_lt (kv_ BS.out)) : gs ≠ gl)); have m1_ := a_ (blk_below (kv_ BX.out) hb); have NEBX_gl := a_ ((by rw [hg]; exact Nat.ne_of_lt (blk_lt (kv_ BX.out)) : gx ≠ gl)); have m2_ := a_ (blk_below (kv_ BR.out) hb); have NEBR_gl := a_ ((by rw [hg]; exact Nat.ne_of_lt (blk_lt (kv_ BR.out)) : gr ≠ gl)); clear HB BS BX BR; have HB := n0_; have BS := m0_; have BX := m1_; have BR := m2_; clear n0_ m0_ m1_ m2_; clear hb hbox hg; have hl_0 : w3.cell? ⟨gl, 0, none⟩ = some (.int .i64 0) := (blk_cell BL.out 0).trans rfl; have hl_1 : w3.cell? ⟨gl, 1, none⟩ = some (.int .i64 0) := (blk_cell BL.out 1).trans rfl; have hl_2 : w3.cell? ⟨gl, 2, none⟩ = some (.int .i64 0) := (blk_cell BL.out 2).trans rfl; have hl_3 : w3.cell? ⟨gl, 3, none⟩ = some (.int .i64 0) := (blk_cell BL.out 3).trans rfl; have hl_4 : w3.cell? ⟨gl, 4, none⟩ = some (.int .i64 0) := (blk_cell BL.out 4).trans rfl; have hl_5 : w3.cell? ⟨gl, 5, none⟩ = some (.int .i64 0) := (blk_cell BL.out 5).trans rfl; have hl_6 : w3.cell? ⟨gl, 6, none⟩ = some (.int .i64 0) := (blk_cell BL.out 6).trans rfl; have hl_7 : w3.cell? ⟨gl, 7, none⟩ = some (.int .i64 0) := (blk_cell BL.out 7).trans rfl; have hl_8 : w3.cell? ⟨gl, 8, none⟩ = some (.int .i64 0) := (blk_cell BL.out 8).trans rfl; have hl_9 : w3.cell? ⟨gl, 9, none⟩ = some (.int .i64 0) := (blk_cell BL.out 9).trans rfl; have hl_10 : w3.cell? ⟨gl, 10, none⟩ = some (.int .i64 0) := (blk_cell BL.out 10).trans rfl; have hl_11 : w3.cell? ⟨gl, 11, none⟩ = some (.int .i64 0) := (blk_cell BL.out 11).trans rfl; have hl_12 : w3.cell? ⟨gl, 12, none⟩ = some (.int .i64 0) := (blk_cell BL.out 12).trans rfl; have hl_13 : w3.cell? ⟨gl, 13, none⟩ = some (.int .i64 0) := (blk_cell BL.out 13).trans rfl; have hl_14 : w3.cell? ⟨gl, 14, none⟩ = some (.int .i64 0) := (blk_cell BL.out 14).trans rfl; have hl_15 : w3.cell? ⟨gl, 15, none⟩ = some (.int .i64 0) := (blk_cell BL.out 15).trans rfl; have hlf_0 := blk_frozen BL.out 0; have hlf_1 := blk_frozen BL.out 1; have hlf_2 := blk_frozen BL.out 2; have hlf_3 := blk_frozen BL.out 3; have hlf_4 := blk_frozen BL.out 4; have hlf_5 := blk_frozen BL.out 5; have hlf_6 := blk_frozen BL.out 6; have hlf_7 := blk_frozen BL.out 7; have hlf_8 := blk_frozen BL.out 8; have hlf_9 := blk_frozen BL.out 9; have hlf_10 := blk_frozen BL.out 10; have hlf_11 := blk_frozen BL.out 11; have hlf_12 := blk_frozen BL.out 12; have hlf_13 := blk_frozen BL.out 13; have hlf_14 := blk_frozen BL.out 14; have hlf_15 := blk_frozen BL.out 15; clear hs_0 hs_1 hs_2 hs_3 hs_4 hs_5 hs_6 hs_7 hs_8 hs_9 hs_10 hs_11 hs_12 hs_13 hs_14 hs_15))
 obtain ⟨w4, hw4⟩ : ∃ w4, w4 = ((((((((((((((((w3.setCell ⟨gl, 0, none⟩ (.int .i64 s.W)).setCell ⟨gl, 1, none⟩ (.int .i64 s.A)).setCell ⟨gl, 2, none⟩ (.int .i64 s.H)).setCell ⟨gl, 3, none⟩ (.int .i64 0)).setCell ⟨gl, 4, none⟩ (.int .i64 0)).setCell ⟨gl, 5, none⟩ (.int .i64 s.B)).setCell ⟨gl, 6, none⟩ (.int .i64 0)).setCell ⟨gl, 7, none⟩ (.int .i64 s.ob)).setCell ⟨gl, 8, none⟩ (.int .i64 0)).setCell ⟨gl, 9, none⟩ (.int .i64 s.C)).setCell ⟨gl, 10, none⟩ (.int .i64 0)).setCell ⟨gl, 11, none⟩ (.int .i64 s.oc)).setCell ⟨gl, 12, none⟩ (.int .i64 0)).setCell ⟨gl, 13, none⟩ (.int .i64 s.D)).setCell ⟨gl, 14, none⟩ (.int .i64 0)).setCell ⟨gl, 15, none⟩ (.int .i64 s.od)) := ⟨_, rfl⟩
 rw [← hw4]
 have BL4 := a_ (show w4.heap[gl]? = some (.cells s.cells 73 (0, 0)) by rw [hw4]; exact blk_put (cs := #[.int .i64 s.W, .int .i64 s.A, .int .i64 s.H, .int .i64 0, .int .i64 0, .int .i64 s.B, .int .i64 0, .int .i64 s.ob, .int .i64 0, .int .i64 s.C, .int .i64 0, .int .i64 s.oc, .int .i64 0, .int .i64 s.D, .int .i64 0, .int .i64 0]) (blk_put (cs := #[.int .i64 s.W, .int .i64 s.A, .int .i64 s.H, .int .i64 0, .int .i64 0, .int .i64 s.B, .int .i64 0, .int .i64 s.ob, .int .i64 0, .int .i64 s.C, .int .i64 0, .int .i64 s.oc, .int .i64 0, .int .i64 s.D, .int .i64 0, .int .i64 0]) (blk_put (cs := #[.int .i64 s.W, .int .i64 s.A, .int .i64 s.H, .int .i64 0, .int .i64 0, .int .i64 s.B, .int .i64 0, .int .i64 s.ob, .int .i64 0, .int .i64 s.C, .int .i64 0, .int .i64 s.oc, .int .i64 0, .int .i64 0, .int .i64 0, .int .i64 0]) (blk_put (cs := #[.int .i64 s.W, .int .i64 s.A, .int .i64 s.H, .int .i64 0, .int .i64 0, .int .i64 s.B, .int .i64 0, .int .i64 s.ob, .int .i64 0, .int .i64 s.C, .int .i64 0, .int .i64 s.oc, .int .i64 0, .int .i64 0, .int .i64 0, .int .i64 0]) (blk_put (cs := #[.int .i64 s.W, .int .i64 s.A, .int .i64 s.H, .int .i64 0, .int .i64 0, .int .i64 s.B, .int .i64 0, .int .i64 s.ob, .int .i64 0, .int .i64 s.C, .int .i64 0, .int .i64 0, .int .i64 0, .int .i64 0, .int .i64 0, .int .i64 0]) (blk_put (cs := #[.int .i64 s.W, .int .i64 s.A, .int .i64 s.H, .int .i64 0, .int .i64 0, .int .i64 s.B, .int .i64 0, .int .i64 s.ob, .int .i64 0, .int .i64 s.C, .int .i64 0, .int .i64 0, .int .i64 0, .int .i64 0, .int .i64 0, .int .i64 0]) (blk_put (cs := #[.int .i64 s.W, .int .i64 s.A, .int .i64 s.H, .int .i64 0, .int .i64 0, .int .i64 s.B, .int .i64 0, .int .i64 s.ob, .int .i64 0, .int .i64 0, .int .i64 0, .int .i64 0, .int .i64 0, .int .i64 0, .int .i64 0, .int .i64 0]) (blk_put (cs := #[.int .i64 s.W, .int .i64 s.A, .int .i64 s.H, .int .i64 0, .int .i64 0, .int .i64 s.B, .int .i64 0, .int .i64 s.ob, .int .i64 0, .int .i64 0, .int .i64 0, .int .i64 0, .int .i64 0, .int .i64 0, .int .i64 0, .int .i64 0]) (blk_put (cs := #[.int .i64 s.W, .int .i64 s.A, .int .i64 s.H, .int .i64 0, .int .i64 0, .int .i64 s.B, .int .i64 0, .int .i64 0, .int .i64 0, .int .i64 0, .int .i64 0, .int .i64 0, .int .i64 0, .int .i64 0, .int .i64 0, .int .i64 0]) (blk_put (cs := #[.int .i64 s.W, .int .i64 s.A, .int .i64 s.H, .int .i64 0, .int .i64 0, .int .i64 s.B, .int .i64 0, .int .i64 0, .int .i64 0, .int .i64 0, .int .i64 0, .int .i64 0, .int .i64 0, .int .i64 0, .int .i64 0, .int .i64 0]) (blk_put (cs := #[.int .i64 s.W, .int .i64 s.A, .int .i64 s.H, .int .i64 0, .int .i64 0, .int .i64 0, .int .i64 0, .int .i64 0, .int .i64 0, .int .i64 0, .int .i64 0, .int .i64 0, .int .i64 0, .int .i64 0, .int .i64 0, .int .i64 0]) (blk_put (cs := #[.int .i64 s.W, .int .i64 s.A, .int .i64 s.H, .int .i64 0, .int .i64 0, .int .i64 0, .int .i64 0, .int .i64 0, .int .i64 0, .int .i64 0, .int .i64 0, .int .i64 0, .int .i64 0, .int .i64 0, .int .i64 0, .int .i64 0]) (blk_put (cs := #[.int .i64 s.W, .int .i64 s.A, .int .i64 s.H, .int .i64 0, .int .i64 0, .int .i64 0, .int .i64 0, .int .i64 0, .int .i64 0, .int .i64 0, .int .i64 0, .int .i64 0, .int .i64 0, .int .i64 0, .int .i64 0, .int .i64 0]) (blk_put (cs := #[.int .i64 s.W, .int .i64 s.A, .int .i64 0, .int .i64 0, .int .i64 0, .int .i64 0, .int .i64 0, .int .i64 0, .int .i64 0, .int .i64 0, .int .i64 0, .int .i64 0, .int .i64 0, .int .i64 0, .int .i64 0, .int .i64 0]) (blk_put (cs := #[.int .i64 s.W, .int .i64 0, .int .i64 0, .int .i64 0, .int .i64 0, .int .i64 0, .int .i64 0, .int .i64 0, .int .i64 0, .int .i64 0, .int .i64 0, .int .i64 0, .int .i64 0, .int .i64 0, .int .i64 0, .int .i64 0]) (blk_put (cs := #[.int .i64 0, .int .i64 0, .int .i64 0, .int .i64 0, .int .i64 0, .int .i64 0, .int .i64 0, .int .i64 0, .int .i64 0, .int .i64 0, .int .i64 0, .int .i64 0, .int .i64 0, .int .i64 0, .int .i64 0, .int .i64 0]) (BL.out) 0 _ rfl) 1 _ rfl) 2 _ rfl) 3 _ rfl) 4 _ rfl) 5 _ rfl) 6 _ rfl) 7 _ rfl) 8 _ rfl) 9 _ rfl) 10 _ rfl) 11 _ rfl) 12 _ rfl) 13 _ rfl) 14 _ rfl) 15 _ rfl)
 have BX4 := a_ (show w4.heap[gx]? = some (.cells #[.int .i64 x.f0, .int .i64 x.f1.f0, .int .i64 x.f1.f1, .int .i64 x.f1.f2, .int .i64 x.f1.f3, .int .i64 x.f2, .bool x.f3, .int .i64 x.f4, .int .i64 x.f5] 47 (0, 0)) by rw [hw4]; exact blk_far (blk_far (blk_far (blk_far (blk_far (blk_far (blk_far (blk_far (blk_far (blk_far (blk_far (blk_far (blk_far (blk_far (blk_far (blk_far (BX.out) (p := ⟨gl, 0, none⟩) NEBX_gl.out _) (p := ⟨gl, 1, none⟩) NEBX_gl.out _) (p := ⟨gl, 2, none⟩) NEBX_gl.out _) (p := ⟨gl, 3, none⟩) NEBX_gl.out _) (p := ⟨gl, 4, none⟩) NEBX_gl.out _) (p := ⟨gl, 5, none⟩) NEBX_gl.out _) (p := ⟨gl, 6, none⟩) NEBX_gl.out _) (p := ⟨gl, 7, none⟩) NEBX_gl.out _) (p := ⟨gl, 8, none⟩) NEBX_gl.out _) (p := ⟨gl, 9, none⟩) NEBX_gl.out _) (p := ⟨gl, 10, none⟩) NEBX_gl.out _) (p := ⟨gl, 11, none⟩) NEBX_gl.out _) (p := ⟨gl, 12, none⟩) NEBX_gl.out _) (p := ⟨gl, 13, none⟩) NEBX_gl.out _) (p := ⟨gl, 14, none⟩) NEBX_gl.out _) (p := ⟨gl, 15, none⟩) NEBX_gl.out _)
 have BR4 := a_ (show w4.heap[gr]? = some (.cells #[.int .i64 0, .int .i64 0, .int .i64 0, .int .i64 0] 70 (0, 0)) by rw [hw4]; exact blk_far (blk_far (blk_far (blk_far (blk_far (blk_far (blk_far (blk_far (blk_far (blk_far (blk_far (blk_far (blk_far (blk_far (blk_far (blk_far (BR.out) (p := ⟨gl, 0, none⟩) NEBR_gl.out _) (p := ⟨gl, 1, none⟩) NEBR_gl.out _) (p := ⟨gl, 2, none⟩) NEBR_gl.out _) (p := ⟨gl, 3, none⟩) NEBR_gl.out _) (p := ⟨gl, 4, none⟩) NEBR_gl.out _) (p := ⟨gl, 5, none⟩) NEBR_gl.out _) (p := ⟨gl, 6, none⟩) NEBR_gl.out _) (p := ⟨gl, 7, none⟩) NEBR_gl.out _) (p := ⟨gl, 8, none⟩) NEBR_gl.out _) (p := ⟨gl, 9, none⟩) NEBR_gl.out _) (p := ⟨gl, 10, none⟩) NEBR_gl.out _) (p := ⟨gl, 11, none⟩) NEBR_gl.out _) (p := ⟨gl, 12, none⟩) NEBR_gl.out _) (p := ⟨gl, 13, none⟩) NEBR_gl.out _) (p := ⟨gl, 14, none⟩) NEBR_gl.out _) (p := ⟨gl, 15, none⟩) NEBR_gl.out _)
 have HB4 := a_ (show Below w.heap.size w w4 by rw [hw4]; exact Below.setCell (Below.setCell (Below.setCell (Below.setCell (Below.setCell (Below.setCell (Below.setCell (Below.setCell (Below.setCell (Below.setCell (Below.setCell (Below.setCell (Below.setCell (Below.setCell (Below.setCell (Below.setCell (HB.out) GEgl.out _) GEgl.out _) GEgl.out _) GEgl.out _) GEgl.out _) GEgl.out _) GEgl.out _) GEgl.out _) GEgl.out _) GEgl.out _) GEgl.out _) GEgl.out _) GEgl.out _) GEgl.out _) GEgl.out _) GEgl.out _)
 clear hw4 BS BX BR BL HB hl_0 hlf_0 hl_1 hlf_1 hl_2 hlf_2 hl_3 hlf_3 hl_4 hlf_4 hl_5 hlf_5 hl_6 hlf_6 hl_7 hlf_7 hl_8 hlf_8 hl_9 hlf_9 hl_10 hlf_10 hl_11 hlf_11 hl_12 hlf_12 hl_13 hlf_13 hl_14 hlf_14 hl_15 hlf_15
 have hx_0 : w4.cell? ⟨gx, 0, none⟩ = some (.int .i64 x.f0) := (blk_cell BX4.out 0).trans rfl
 have hx_1 : w4.cell? ⟨gx, 1, none⟩ = some (.int .i64 x.f1.f0) := (blk_cell BX4.out 1).trans rfl
 have hx_2 : w4.cell? ⟨gx, 2, none⟩ = some (.int .i64 x.f1.f1) := (blk_cell BX4.out 2).trans rfl
 have hx_3 : w4.cell? ⟨gx, 3, none⟩ = some (.int .i64 x.f1.f2) := (blk_cell BX4.out 3).trans rfl
 have hx_4 : w4.cell? ⟨gx, 4, none⟩ = some (.int .i64 x.f1.f3) := (blk_cell BX4.out 4).trans rfl
 have hx_5 : w4.cell? ⟨gx, 5, none⟩ = some (.int .i64 x.f2) := (blk_cell BX4.out 5).trans rfl
 have hx_6 : w4.cell? ⟨gx, 6, none⟩ = some (.bool x.f3) := (blk_cell BX4.out 6).trans rfl
 have hx_7 : w4.cell? ⟨gx, 7, none⟩ = some (.int .i64 x.f4) := (blk_cell BX4.out 7).trans rfl
 have hx_8 : w4.cell? ⟨gx, 8, none⟩ = some (.int .i64 x.f5) := (blk_cell BX4.out 8).trans rfl
 have hl_0 : w4.cell? ⟨gl, 0, none⟩ = some (.int .i64 s.W) := (blk_cell BL4.out 0).trans rfl
 have hlf_0 := blk_frozen BL4.out 0
 by_cases c2 : x.f0 = 2
 ·have c2b0 : (x.f0 == 2) = true := beq_iff_eq.mpr c2
  have C2 := a_ c2
  clear c2
  go_upto_region 4 with (fail)
  obtain ⟨w5, hw5⟩ : ∃ w5, w5 = w4.setCell ⟨gl, 0, none⟩ (.int .i64 (wrap64 (s.W + x.f1.f0))) := ⟨_, rfl⟩
  rw [← hw5]
  have BL5 := a_ (show w5.heap[gl]? = some (.cells (s.more x).cells 73 (0, 0)) by rw [hw5]; unfold SM.more; rw [if_pos C2.out]; exact blk_put BL4.out 0 _ rfl)
  have BR5 := a_ (show w5.heap[gr]? = some (.cells #[.int .i64 0, .int .i64 0, .int .i64 0, .int .i64 0] 70 (0, 0)) by rw [hw5]; exact blk_far BR4.out (p := ⟨gl, 0, none⟩) NEBR_gl.out _)
  have HB5 := a_ (show Below w.heap.size w w5 by rw [hw5]; exact Below.setCell HB4.out GEgl.out _)
  clear hw5 BL4 BR4 HB4 BX4 hl_0 hlf_0 hx_0 hx_1 hx_2 hx_3 hx_4 hx_5 hx_6 hx_7 hx_8
  go_wp2_with (go_at_call 45; refine (glue_Set.calls k _ _ (s.more x).row wd r1 r2 r3 r4 r5 _ (SM.reads (s.more x) BL5.out) (Nat.le_refl _) H'.out).mono ?_; rintro e w6 ⟨rfl, hb⟩; have BR6 := a_ (blk_below BR5.out hb); have HB6 := a_ (below_step HB5.out hb); clear hb; have hr_0 : w6.cell? ⟨gr, 0, none⟩ = some (.int .i64 0) := (blk_cell BR6.out 0).trans rfl; have hr_1 : w6.cell? ⟨gr, 1, none⟩ = some (.int .i64 0) := (blk_cell BR6.out 1).trans rfl; have hr_2 : w6.cell? ⟨gr, 2, none⟩ = some (.int .i64 0) := (blk_cell BR6.out 2).trans rfl; have hr_3 : w6.cell? ⟨gr, 3, none⟩ = some (.int .i64 0) := (blk_cell BR6.out 3).trans rfl; have hrf_0 := blk_frozen BR6.out 0; have hrf_1 := blk_frozen BR6.out 1; have hrf_2 := blk_frozen BR6.out 2; have hrf_3 := blk_frozen BR6.out 3)
  refine bodyPost_ret (results_ct rfl _ _ gr 70 #[.int .i64 r1, .int .i64 r2, .int .i64 r3, .int .i64 r4] (0, 0) _ rfl (blk_put (cs := #[.int .i64 r1, .int .i64 r2, .int .i64 r3, .int .i64 0]) (blk_put (cs := #[.int .i64 r1, .int .i64 r2, .int .i64 0, .int .i64 0]) (blk_put (cs := #[.int .i64 r1, .int .i64 0, .int .i64 0, .int .i64 0]) (blk_put (cs := #[.int .i64 0, .int .i64 0, .int .i64 0, .int .i64 0]) (BR6.out) 0 _ rfl) 1 _ rfl) 2 _ rfl) 3 _ rfl) Try.underlying70 rfl (by kernel_rfl)) rfl ?_
  exact ⟨rfl, Below.setCell (Below.setCell (Below.setCell (Below.setCell (HB6.out) GEgr.out _) GEgr.out _) GEgr.out _) GEgr.out _⟩
 ·have c2b0 : (x.f0 == 2) = false := beq_eq_false_iff_ne.mpr c2
  have C2 := a_ c2
  clear c2
  have BL5 := a_ (show w4.heap[gl]? = some (.cells (s.more x).cells 73 (0, 0)) by unfold SM.more; rw [if_neg C2.out]; exact BL4.out)
  have BR5 := BR4
  have HB5 := HB4
  go_wp2_with (go_at_call 45; refine (glue_Set.calls k _ _ (s.more x).row wd r1 r2 r3 r4 r5 _ (SM.reads (s.more x) BL5.out) (Nat.le_refl _) H'.out).mono ?_; rintro e w6 ⟨rfl, hb⟩; have BR6 := a_ (blk_below BR5.out hb); have HB6 := a_ (below_step HB5.out hb); clear hb; have hr_0 : w6.cell? ⟨gr, 0, none⟩ = some (.int .i64 0) := (blk_cell BR6.out 0).trans rfl; have hr_1 : w6.cell? ⟨gr, 1, none⟩ = some (.int .i64 0) := (blk_cell BR6.out 1).trans rfl; have hr_2 : w6.cell? ⟨gr, 2, none⟩ = some (.int .i64 0) := (blk_cell BR6.out 2).trans rfl; have hr_3 : w6.cell? ⟨gr, 3, none⟩ = some (.int .i64 0) := (blk_cell BR6.out 3).trans rfl; have hrf_0 := blk_frozen BR6.out 0; have hrf_1 := blk_frozen BR6.out 1; have hrf_2 := blk_frozen BR6.out 2; have hrf_3 := blk_frozen BR6.out 3)
  refine bodyPost_ret (results_ct rfl _ _ gr 70 #[.int .i64 r1, .int .i64 r2, .int .i64 r3, .int .i64 r4] (0, 0) _ rfl (blk_put (cs := #[.int .i64 r1, .int .i64 r2, .int .i64 r3, .int .i64 0]) (blk_put (cs := #[.int .i64 r1, .int .i64 r2, .int .i64 0, .int .i64 0]) (blk_put (cs := #[.int .i64 r1, .int .i64 0, .int .i64 0, .int .i64 0]) (blk_put (cs := #[.int .i64 0, .int .i64 0, .int .i64 0, .int .i64 0]) (BR6.out) 0 _ rfl) 1 _ rfl) 2 _ rfl) 3 _ rfl) Try.underlying70 rfl (by kernel_rfl)) rfl ?_
  exact ⟨rfl, Below.setCell (Below.setCell (Below.setCell (Below.setCell (HB6.out) GEgr.out _) GEgr.out _) GEgr.out _) GEgr.out _⟩

/-! sum.add -/
set_option maxHeartbeats 8000000 in
set_option maxRecDepth 100000 in
theorem badd.calls (w : World) (gs : Nat) (s s' : SM) (g : S45) (hb : w.heap[gs]? = some (.cells s.cells 75 (0, 0))) (h : badd.f s g = some s') :
  Calls Try.prog 38 #[.pointer (some ⟨gs, 0, none⟩), .agg #[.int .i64 g.f0, .int .i64 g.f1, .int .i64 g.f2, .int .i64 g.f3]] w fun e w' => e = .returned (.tuple #[]) ∧ w'.heap[gs]? = some (.cells s'.cells 75 (0, 0)) ∧ OnlyAt gs w w' := by
 have hu45 := Try.underlying45
 have hu73 := Try.underlying73
 have hu75 := Try.underlying75
 have BS := a_ hb
 have HB := a_ (Below.refl w.heap.size w)
 clear hb
 obtain ⟨g0, g1, g2, g3⟩ := g
 unfold badd.f at h
 dsimp only at h ⊢
 by_cases o0 : g3 = 0
 ·rw [if_pos o0] at h
  subst o0
  obtain rfl := Option.some.inj h
  clear h
  go_enter Try.func38, Try.ntmps38
  go_upto_region 1 with ((with_reducible refine gate_dst (N := 3) rfl ?_); (try (refine gate_guard (by rfl) ?_; dsimp only)); refine box_event ?hg (N := 3) ?hd (cs := #[.int .i64 g0, .int .i64 g1, .int .i64 g2, .int .i64 0]) (t := 45) ?hr ?_; (case hd => rfl); (case hg => rfl); (case hr => first | (go_simp; done) | (go_simp; rfl)); intro gx hg w1 hbox hb; have n0_ := a_ (bs_ HB.out hb); have BX := a_ hbox; have GEgx := a_ ((by rw [hg]; exact (below_size (bv_ HB.out)) : w.heap.size ≤ gx)); have m0_ := a_ (blk_below (kv_ BS.out) hb); have NEBS_gx := a_ ((by rw [hg]; exact Nat.ne_of_lt (blk_lt (kv_ BS.out)) : gs ≠ gx)); clear HB BS; have HB := n0_; have BS := m0_; clear n0_ m0_; clear hb hbox hg)
  (try simp only [Act.put, List.setIfInBounds_toArray, List.set_cons_zero, List.set_cons_succ])
  have hx : w1.cell? ⟨gx, 3, none⟩ = some (.int .i64 0) := (blk_cell BX.out 3).trans rfl
  have OA := a_ (OnlyAt.below (g := gs) HB.out)
  clear HB
  have hs : w1.cell? ⟨gs, 3, none⟩ = some (.int .i64 0) := (blk_cell BS.out 3).trans rfl
  have hf := blk_frozen BS.out 3
  go_still_tail 6, (by kernel_rfl)
  change wpList _ _ _ _ _ w1.drew
  go_upto_region 3 with (fail)
  obtain ⟨v2, hv2⟩ : ∃ v2, v2 = (w1.setCell ⟨gs, 3, none⟩ (.int .i64 0)).drew := ⟨_, rfl⟩
  rw [← hv2]
  have BS0 := a_ (show v2.heap[gs]? = some (.cells #[.int .i64 s.W, .int .i64 s.A, .int .i64 s.H, .int .i64 0, .int .i64 0, .int .i64 s.B, .int .i64 0, .int .i64 s.ob, .int .i64 0, .int .i64 s.C, .int .i64 0, .int .i64 s.oc, .int .i64 0, .int .i64 s.D, .int .i64 0, .int .i64 s.od] 75 (0, 0)) by rw [hv2]; exact blk_drew (blk_put BS.out 3 _ rfl))
  have BX0 := a_ (show v2.heap[gx]? = some (.cells #[.int .i64 g0, .int .i64 g1, .int .i64 g2, .int .i64 0] 45 (0, 0)) by rw [hv2]; exact blk_drew (blk_far BX.out (p := ⟨gs, 3, none⟩) NEBS_gx.out.symm _))
  have OA0 := a_ (show OnlyAt gs w v2 by rw [hv2]; exact OnlyAt.drew (OnlyAt.put OA.out 3 _))
  clear hv2 hx hs hf BS BX OA
  have hx : v2.cell? ⟨gx, 1, none⟩ = some (.int .i64 g1) := (blk_cell BX0.out 1).trans rfl
  have hs : v2.cell? ⟨gs, 1, none⟩ = some (.int .i64 s.A) := (blk_cell BS0.out 1).trans rfl
  have hf := blk_frozen BS0.out 1
  go_still_tail 9, (by kernel_rfl)
  change wpList _ _ _ _ _ v2.drew
  go_upto_region 4 with (fail)
  obtain ⟨v3, hv3⟩ : ∃ v3, v3 = (v2.setCell ⟨gs, 1, none⟩ (.int .i64 (wrap64 (s.A + g1)))).drew := ⟨_, rfl⟩
  rw [← hv3]
  have BS1 := a_ (show v3.heap[gs]? = some (.cells #[.int .i64 s.W, .int .i64 (wrap64 (s.A + g1)), .int .i64 s.H, .int .i64 0, .int .i64 0, .int .i64 s.B, .int .i64 0, .int .i64 s.ob, .int .i64 0, .int .i64 s.C, .int .i64 0, .int .i64 s.oc, .int .i64 0, .int .i64 s.D, .int .i64 0, .int .i64 s.od] 75 (0, 0)) by rw [hv3]; exact blk_drew (blk_put BS0.out 1 _ rfl))
  have BX1 := a_ (show v3.heap[gx]? = some (.cells #[.int .i64 g0, .int .i64 g1, .int .i64 g2, .int .i64 0] 45 (0, 0)) by rw [hv3]; exact blk_drew (blk_far BX0.out (p := ⟨gs, 1, none⟩) NEBS_gx.out.symm _))
  have OA1 := a_ (show OnlyAt gs w v3 by rw [hv3]; exact OnlyAt.drew (OnlyAt.put OA0.out 1 _))
  clear hv3 hx hs hf BS0 BX0 OA0
  have hx : v3.cell? ⟨gx, 0, none⟩ = some (.int .i64 g0) := (blk_cell BX1.out 0).trans rfl
  have hs : v3.cell? ⟨gs, 0, none⟩ = some (.int .i64 s.W) := (blk_cell BS1.out 0).trans rfl
  have hf := blk_frozen BS1.out 0
  go_still_tail 13, (by kernel_rfl)
  change wpList _ _ _ _ _ v3.drew
  go_upto_region 5 with (fail)
  obtain ⟨v4, hv4⟩ : ∃ v4, v4 = (v3.setCell ⟨gs, 0, none⟩ (.int .i64 (wrap64 (s.W + g0)))).drew := ⟨_, rfl⟩
  rw [← hv4]
  have BS2 := a_ (show v4.heap[gs]? = some (.cells #[.int .i64 (wrap64 (s.W + g0)), .int .i64 (wrap64 (s.A + g1)), .int .i64 s.H, .int .i64 0, .int .i64 0, .int .i64 s.B, .int .i64 0, .int .i64 s.ob, .int .i64 0, .int .i64 s.C, .int .i64 0, .int .i64 s.oc, .int .i64 0, .int .i64 s.D, .int .i64 0, .int .i64 s.od] 75 (0, 0)) by rw [hv4]; exact blk_drew (blk_put BS1.out 0 _ rfl))
  have BX2 := a_ (show v4.heap[gx]? = some (.cells #[.int .i64 g0, .int .i64 g1, .int .i64 g2, .int .i64 0] 45 (0, 0)) by rw [hv4]; exact blk_drew (blk_far BX1.out (p := ⟨gs, 0, none⟩) NEBS_gx.out.symm _))
  have OA2 := a_ (show OnlyAt gs w v4 by rw [hv4]; exact OnlyAt.drew (OnlyAt.put OA1.out 0 _))
  clear hv4 hx hs hf BS1 BX1 OA1
  have hx : v4.cell? ⟨gx, 2, none⟩ = some (.int .i64 g2) := (blk_cell BX2.out 2).trans rfl
  have hs : v4.cell? ⟨gs, 2, none⟩ = some (.int .i64 s.H) := (blk_cell BS2.out 2).trans rfl
  have hf := blk_frozen BS2.out 2
  go_still_tail 13, (by kernel_rfl)
  change wpList _ _ _ _ _ v4.drew
  go_wp2
  go_end0
  exact ⟨rfl, blk_drew (blk_put BS2.out 2 _ rfl), OnlyAt.drew (OnlyAt.put OA2.out 2 _)⟩
 ·rw [if_neg o0] at h
  by_cases o1 : g3 = 1
  ·rw [if_pos o1] at h
   subst o1
   obtain rfl := Option.some.inj h
   clear h
   go_enter Try.func38, Try.ntmps38
   go_upto_region 1 with ((with_reducible refine gate_dst (N := 3) rfl ?_); (try (refine gate_guard (by rfl) ?_; dsimp only)); refine box_event ?hg (N := 3) ?hd (cs := #[.int .i64 g0, .int .i64 g1, .int .i64 g2, .int .i64 1]) (t := 45) ?hr ?_; (case hd => rfl); (case hg => rfl); (case hr => first | (go_simp; done) | (go_simp; rfl)); intro gx hg w1 hbox hb; have n0_ := a_ (bs_ HB.out hb); have BX := a_ hbox; have GEgx := a_ ((by rw [hg]; exact (below_size (bv_ HB.out)) : w.heap.size ≤ gx)); have m0_ := a_ (blk_below (kv_ BS.out) hb); have NEBS_gx := a_ ((by rw [hg]; exact Nat.ne_of_lt (blk_lt (kv_ BS.out)) : gs ≠ gx)); clear HB BS; have HB := n0_; have BS := m0_; clear n0_ m0_; clear hb hbox hg)
   (try simp only [Act.put, List.setIfInBounds_toArray, List.set_cons_zero, List.set_cons_succ])
   have hx : w1.cell? ⟨gx, 3, none⟩ = some (.int .i64 1) := (blk_cell BX.out 3).trans rfl
   have OA := a_ (OnlyAt.below (g := gs) HB.out)
   clear HB
   have hs : w1.cell? ⟨gs, 7, none⟩ = some (.int .i64 s.ob) := (blk_cell BS.out 7).trans rfl
   have hf := blk_frozen BS.out 7
   go_still_tail 6, (by kernel_rfl)
   change wpList _ _ _ _ _ w1.drew
   go_upto_region 3 with (fail)
   obtain ⟨v2, hv2⟩ : ∃ v2, v2 = (w1.setCell ⟨gs, 7, none⟩ (.int .i64 1)).drew := ⟨_, rfl⟩
   rw [← hv2]
   have BS0 := a_ (show v2.heap[gs]? = some (.cells #[.int .i64 s.W, .int .i64 s.A, .int .i64 s.H, .int .i64 0, .int .i64 0, .int .i64 s.B, .int .i64 0, .int .i64 1, .int .i64 0, .int .i64 s.C, .int .i64 0, .int .i64 s.oc, .int .i64 0, .int .i64 s.D, .int .i64 0, .int .i64 s.od] 75 (0, 0)) by rw [hv2]; exact blk_drew (blk_put BS.out 7 _ rfl))
   have BX0 := a_ (show v2.heap[gx]? = some (.cells #[.int .i64 g0, .int .i64 g1, .int .i64 g2, .int .i64 1] 45 (0, 0)) by rw [hv2]; exact blk_drew (blk_far BX.out (p := ⟨gs, 7, none⟩) NEBS_gx.out.symm _))
   have OA0 := a_ (show OnlyAt gs w v2 by rw [hv2]; exact OnlyAt.drew (OnlyAt.put OA.out 7 _))
   clear hv2 hx hs hf BS BX OA
   have hx : v2.cell? ⟨gx, 1, none⟩ = some (.int .i64 g1) := (blk_cell BX0.out 1).trans rfl
   have hs : v2.cell? ⟨gs, 5, none⟩ = some (.int .i64 s.B) := (blk_cell BS0.out 5).trans rfl
   have hf := blk_frozen BS0.out 5
   go_still_tail 9, (by kernel_rfl)
   change wpList _ _ _ _ _ v2.drew
   go_upto_region 4 with (fail)
   obtain ⟨v3, hv3⟩ : ∃ v3, v3 = (v2.setCell ⟨gs, 5, none⟩ (.int .i64 (wrap64 (s.B + g1)))).drew := ⟨_, rfl⟩
   rw [← hv3]
   have BS1 := a_ (show v3.heap[gs]? = some (.cells #[.int .i64 s.W, .int .i64 s.A, .int .i64 s.H, .int .i64 0, .int .i64 0, .int .i64 (wrap64 (s.B + g1)), .int .i64 0, .int .i64 1, .int .i64 0, .int .i64 s.C, .int .i64 0, .int .i64 s.oc, .int .i64 0, .int .i64 s.D, .int .i64 0, .int .i64 s.od] 75 (0, 0)) by rw [hv3]; exact blk_drew (blk_put BS0.out 5 _ rfl))
   have BX1 := a_ (show v3.heap[gx]? = some (.cells #[.int .i64 g0, .int .i64 g1, .int .i64 g2, .int .i64 1] 45 (0, 0)) by rw [hv3]; exact blk_drew (blk_far BX0.out (p := ⟨gs, 5, none⟩) NEBS_gx.out.symm _))
   have OA1 := a_ (show OnlyAt gs w v3 by rw [hv3]; exact OnlyAt.drew (OnlyAt.put OA0.out 5 _))
   clear hv3 hx hs hf BS0 BX0 OA0
   have hx : v3.cell? ⟨gx, 0, none⟩ = some (.int .i64 g0) := (blk_cell BX1.out 0).trans rfl
   have hs : v3.cell? ⟨gs, 0, none⟩ = some (.int .i64 s.W) := (blk_cell BS1.out 0).trans rfl
   have hf := blk_frozen BS1.out 0
   go_still_tail 13, (by kernel_rfl)
   change wpList _ _ _ _ _ v3.drew
   go_upto_region 5 with (fail)
   obtain ⟨v4, hv4⟩ : ∃ v4, v4 = (v3.setCell ⟨gs, 0, none⟩ (.int .i64 (wrap64 (s.W + g0)))).drew := ⟨_, rfl⟩
   rw [← hv4]
   have BS2 := a_ (show v4.heap[gs]? = some (.cells #[.int .i64 (wrap64 (s.W + g0)), .int .i64 s.A, .int .i64 s.H, .int .i64 0, .int .i64 0, .int .i64 (wrap64 (s.B + g1)), .int .i64 0, .int .i64 1, .int .i64 0, .int .i64 s.C, .int .i64 0, .int .i64 s.oc, .int .i64 0, .int .i64 s.D, .int .i64 0, .int .i64 s.od] 75 (0, 0)) by rw [hv4]; exact blk_drew (blk_put BS1.out 0 _ rfl))
   have BX2 := a_ (show v4.heap[gx]? = some (.cells #[.int .i64 g0, .int .i64 g1, .int .i64 g2, .int .i64 1] 45 (0, 0)) by rw [hv4]; exact blk_drew (blk_far BX1.out (p := ⟨gs, 0, none⟩) NEBS_gx.out.symm _))
   have OA2 := a_ (show OnlyAt gs w v4 by rw [hv4]; exact OnlyAt.drew (OnlyAt.put OA1.out 0 _))
   clear hv4 hx hs hf BS1 BX1 OA1
   have hx : v4.cell? ⟨gx, 2, none⟩ = some (.int .i64 g2) := (blk_cell BX2.out 2).trans rfl
   have hs : v4.cell? ⟨gs, 2, none⟩ = some (.int .i64 s.H) := (blk_cell BS2.out 2).trans rfl
   have hf := blk_frozen BS2.out 2
   go_still_tail 13, (by kernel_rfl)
   change wpList _ _ _ _ _ v4.drew
   go_wp2
   go_end0
   exact ⟨rfl, blk_drew (blk_put BS2.out 2 _ rfl), OnlyAt.drew (OnlyAt.put OA2.out 2 _)⟩
  ·rw [if_neg o1] at h
   by_cases o2 : g3 = 2
   ·rw [if_pos o2] at h
    subst o2
    obtain rfl := Option.some.inj h
    clear h
    go_enter Try.func38, Try.ntmps38
    go_upto_region 1 with ((with_reducible refine gate_dst (N := 3) rfl ?_); (try (refine gate_guard (by rfl) ?_; dsimp only)); refine box_event ?hg (N := 3) ?hd (cs := #[.int .i64 g0, .int .i64 g1, .int .i64 g2, .int .i64 2]) (t := 45) ?hr ?_; (case hd => rfl); (case hg => rfl); (case hr => first | (go_simp; done) | (go_simp; rfl)); intro gx hg w1 hbox hb; have n0_ := a_ (bs_ HB.out hb); have BX := a_ hbox; have GEgx := a_ ((by rw [hg]; exact (below_size (bv_ HB.out)) : w.heap.size ≤ gx)); have m0_ := a_ (blk_below (kv_ BS.out) hb); have NEBS_gx := a_ ((by rw [hg]; exact Nat.ne_of_lt (blk_lt (kv_ BS.out)) : gs ≠ gx)); clear HB BS; have HB := n0_; have BS := m0_; clear n0_ m0_; clear hb hbox hg)
    (try simp only [Act.put, List.setIfInBounds_toArray, List.set_cons_zero, List.set_cons_succ])
    have hx : w1.cell? ⟨gx, 3, none⟩ = some (.int .i64 2) := (blk_cell BX.out 3).trans rfl
    have OA := a_ (OnlyAt.below (g := gs) HB.out)
    clear HB
    have hs : w1.cell? ⟨gs, 11, none⟩ = some (.int .i64 s.oc) := (blk_cell BS.out 11).trans rfl
    have hf := blk_frozen BS.out 11
    go_still_tail 6, (by kernel_rfl)
    change wpList _ _ _ _ _ w1.drew
    go_upto_region 3 with (fail)
    obtain ⟨v2, hv2⟩ : ∃ v2, v2 = (w1.setCell ⟨gs, 11, none⟩ (.int .i64 2)).drew := ⟨_, rfl⟩
    rw [← hv2]
    have BS0 := a_ (show v2.heap[gs]? = some (.cells #[.int .i64 s.W, .int .i64 s.A, .int .i64 s.H, .int .i64 0, .int .i64 0, .int .i64 s.B, .int .i64 0, .int .i64 s.ob, .int .i64 0, .int .i64 s.C, .int .i64 0, .int .i64 2, .int .i64 0, .int .i64 s.D, .int .i64 0, .int .i64 s.od] 75 (0, 0)) by rw [hv2]; exact blk_drew (blk_put BS.out 11 _ rfl))
    have BX0 := a_ (show v2.heap[gx]? = some (.cells #[.int .i64 g0, .int .i64 g1, .int .i64 g2, .int .i64 2] 45 (0, 0)) by rw [hv2]; exact blk_drew (blk_far BX.out (p := ⟨gs, 11, none⟩) NEBS_gx.out.symm _))
    have OA0 := a_ (show OnlyAt gs w v2 by rw [hv2]; exact OnlyAt.drew (OnlyAt.put OA.out 11 _))
    clear hv2 hx hs hf BS BX OA
    have hx : v2.cell? ⟨gx, 1, none⟩ = some (.int .i64 g1) := (blk_cell BX0.out 1).trans rfl
    have hs : v2.cell? ⟨gs, 9, none⟩ = some (.int .i64 s.C) := (blk_cell BS0.out 9).trans rfl
    have hf := blk_frozen BS0.out 9
    go_still_tail 9, (by kernel_rfl)
    change wpList _ _ _ _ _ v2.drew
    go_upto_region 4 with (fail)
    obtain ⟨v3, hv3⟩ : ∃ v3, v3 = (v2.setCell ⟨gs, 9, none⟩ (.int .i64 (wrap64 (s.C + g1)))).drew := ⟨_, rfl⟩
    rw [← hv3]
    have BS1 := a_ (show v3.heap[gs]? = some (.cells #[.int .i64 s.W, .int .i64 s.A, .int .i64 s.H, .int .i64 0, .int .i64 0, .int .i64 s.B, .int .i64 0, .int .i64 s.ob, .int .i64 0, .int .i64 (wrap64 (s.C + g1)), .int .i64 0, .int .i64 2, .int .i64 0, .int .i64 s.D, .int .i64 0, .int .i64 s.od] 75 (0, 0)) by rw [hv3]; exact blk_drew (blk_put BS0.out 9 _ rfl))
    have BX1 := a_ (show v3.heap[gx]? = some (.cells #[.int .i64 g0, .int .i64 g1, .int .i64 g2, .int .i64 2] 45 (0, 0)) by rw [hv3]; exact blk_drew (blk_far BX0.out (p := ⟨gs, 9, none⟩) NEBS_gx.out.symm _))
    have OA1 := a_ (show OnlyAt gs w v3 by rw [hv3]; exact OnlyAt.drew (OnlyAt.put OA0.out 9 _))
    clear hv3 hx hs hf BS0 BX0 OA0
    have hx : v3.cell? ⟨gx, 0, none⟩ = some (.int .i64 g0) := (blk_cell BX1.out 0).trans rfl
    have hs : v3.cell? ⟨gs, 0, none⟩ = some (.int .i64 s.W) := (blk_cell BS1.out 0).trans rfl
    have hf := blk_frozen BS1.out 0
    go_still_tail 13, (by kernel_rfl)
    change wpList _ _ _ _ _ v3.drew
    go_upto_region 5 with (fail)
    obtain ⟨v4, hv4⟩ : ∃ v4, v4 = (v3.setCell ⟨gs, 0, none⟩ (.int .i64 (wrap64 (s.W + g0)))).drew := ⟨_, rfl⟩
    rw [← hv4]
    have BS2 := a_ (show v4.heap[gs]? = some (.cells #[.int .i64 (wrap64 (s.W + g0)), .int .i64 s.A, .int .i64 s.H, .int .i64 0, .int .i64 0, .int .i64 s.B, .int .i64 0, .int .i64 s.ob, .int .i64 0, .int .i64 (wrap64 (s.C + g1)), .int .i64 0, .int .i64 2, .int .i64 0, .int .i64 s.D, .int .i64 0, .int .i64 s.od] 75 (0, 0)) by rw [hv4]; exact blk_drew (blk_put BS1.out 0 _ rfl))
    have BX2 := a_ (show v4.heap[gx]? = some (.cells #[.int .i64 g0, .int .i64 g1, .int .i64 g2, .int .i64 2] 45 (0, 0)) by rw [hv4]; exact blk_drew (blk_far BX1.out (p := ⟨gs, 0, none⟩) NEBS_gx.out.symm _))
    have OA2 := a_ (show OnlyAt gs w v4 by rw [hv4]; exact OnlyAt.drew (OnlyAt.put OA1.out 0 _))
    clear hv4 hx hs hf BS1 BX1 OA1
    have hx : v4.cell? ⟨gx, 2, none⟩ = some (.int .i64 g2) := (blk_cell BX2.out 2).trans rfl
    have hs : v4.cell? ⟨gs, 2, none⟩ = some (.int .i64 s.H) := (blk_cell BS2.out 2).trans rfl
    have hf := blk_frozen BS2.out 2
    go_still_tail 13, (by kernel_rfl)
    change wpList _ _ _ _ _ v4.drew
    go_wp2
    go_end0
    exact ⟨rfl, blk_drew (blk_put BS2.out 2 _ rfl), OnlyAt.drew (OnlyAt.put OA2.out 2 _)⟩
   ·rw [if_neg o2] at h
    by_cases o3 : g3 = 3
    ·rw [if_pos o3] at h
     subst o3
     obtain rfl := Option.some.inj h
     clear h
     go_enter Try.func38, Try.ntmps38
     go_upto_region 1 with ((with_reducible refine gate_dst (N := 3) rfl ?_); (try (refine gate_guard (by rfl) ?_; dsimp only)); refine box_event ?hg (N := 3) ?hd (cs := #[.int .i64 g0, .int .i64 g1, .int .i64 g2, .int .i64 3]) (t := 45) ?hr ?_; (case hd => rfl); (case hg => rfl); (case hr => first | (go_simp; done) | (go_simp; rfl)); intro gx hg w1 hbox hb; have n0_ := a_ (bs_ HB.out hb); have BX := a_ hbox; have GEgx := a_ ((by rw [hg]; exact (below_size (bv_ HB.out)) : w.heap.size ≤ gx)); have m0_ := a_ (blk_below (kv_ BS.out) hb); have NEBS_gx := a_ ((by rw [hg]; exact Nat.ne_of_lt (blk_lt (kv_ BS.out)) : gs ≠ gx)); clear HB BS; have HB := n0_; have BS := m0_; clear n0_ m0_; clear hb hbox hg)
     (try simp only [Act.put, List.setIfInBounds_toArray, List.set_cons_zero, List.set_cons_succ])
     have hx : w1.cell? ⟨gx, 3, none⟩ = some (.int .i64 3) := (blk_cell BX.out 3).trans rfl
     have OA := a_ (OnlyAt.below (g := gs) HB.out)
     clear HB
     have hs : w1.cell? ⟨gs, 15, none⟩ = some (.int .i64 s.od) := (blk_cell BS.out 15).trans rfl
     have hf := blk_frozen BS.out 15
     go_still_tail 6, (by kernel_rfl)
     change wpList _ _ _ _ _ w1.drew
     go_upto_region 3 with (fail)
     obtain ⟨v2, hv2⟩ : ∃ v2, v2 = (w1.setCell ⟨gs, 15, none⟩ (.int .i64 3)).drew := ⟨_, rfl⟩
     rw [← hv2]
     have BS0 := a_ (show v2.heap[gs]? = some (.cells #[.int .i64 s.W, .int .i64 s.A, .int .i64 s.H, .int .i64 0, .int .i64 0, .int .i64 s.B, .int .i64 0, .int .i64 s.ob, .int .i64 0, .int .i64 s.C, .int .i64 0, .int .i64 s.oc, .int .i64 0, .int .i64 s.D, .int .i64 0, .int .i64 3] 75 (0, 0)) by rw [hv2]; exact blk_drew (blk_put BS.out 15 _ rfl))
     have BX0 := a_ (show v2.heap[gx]? = some (.cells #[.int .i64 g0, .int .i64 g1, .int .i64 g2, .int .i64 3] 45 (0, 0)) by rw [hv2]; exact blk_drew (blk_far BX.out (p := ⟨gs, 15, none⟩) NEBS_gx.out.symm _))
     have OA0 := a_ (show OnlyAt gs w v2 by rw [hv2]; exact OnlyAt.drew (OnlyAt.put OA.out 15 _))
     clear hv2 hx hs hf BS BX OA
     have hx : v2.cell? ⟨gx, 1, none⟩ = some (.int .i64 g1) := (blk_cell BX0.out 1).trans rfl
     have hs : v2.cell? ⟨gs, 13, none⟩ = some (.int .i64 s.D) := (blk_cell BS0.out 13).trans rfl
     have hf := blk_frozen BS0.out 13
     go_still_tail 9, (by kernel_rfl)
     change wpList _ _ _ _ _ v2.drew
     go_upto_region 4 with (fail)
     obtain ⟨v3, hv3⟩ : ∃ v3, v3 = (v2.setCell ⟨gs, 13, none⟩ (.int .i64 (wrap64 (s.D + g1)))).drew := ⟨_, rfl⟩
     rw [← hv3]
     have BS1 := a_ (show v3.heap[gs]? = some (.cells #[.int .i64 s.W, .int .i64 s.A, .int .i64 s.H, .int .i64 0, .int .i64 0, .int .i64 s.B, .int .i64 0, .int .i64 s.ob, .int .i64 0, .int .i64 s.C, .int .i64 0, .int .i64 s.oc, .int .i64 0, .int .i64 (wrap64 (s.D + g1)), .int .i64 0, .int .i64 3] 75 (0, 0)) by rw [hv3]; exact blk_drew (blk_put BS0.out 13 _ rfl))
     have BX1 := a_ (show v3.heap[gx]? = some (.cells #[.int .i64 g0, .int .i64 g1, .int .i64 g2, .int .i64 3] 45 (0, 0)) by rw [hv3]; exact blk_drew (blk_far BX0.out (p := ⟨gs, 13, none⟩) NEBS_gx.out.symm _))
     have OA1 := a_ (show OnlyAt gs w v3 by rw [hv3]; exact OnlyAt.drew (OnlyAt.put OA0.out 13 _))
     clear hv3 hx hs hf BS0 BX0 OA0
     have hx : v3.cell? ⟨gx, 0, none⟩ = some (.int .i64 g0) := (blk_cell BX1.out 0).trans rfl
     have hs : v3.cell? ⟨gs, 0, none⟩ = some (.int .i64 s.W) := (blk_cell BS1.out 0).trans rfl
     have hf := blk_frozen BS1.out 0
     go_still_tail 13, (by kernel_rfl)
     change wpList _ _ _ _ _ v3.drew
     go_upto_region 5 with (fail)
     obtain ⟨v4, hv4⟩ : ∃ v4, v4 = (v3.setCell ⟨gs, 0, none⟩ (.int .i64 (wrap64 (s.W + g0)))).drew := ⟨_, rfl⟩
     rw [← hv4]
     have BS2 := a_ (show v4.heap[gs]? = some (.cells #[.int .i64 (wrap64 (s.W + g0)), .int .i64 s.A, .int .i64 s.H, .int .i64 0, .int .i64 0, .int .i64 s.B, .int .i64 0, .int .i64 s.ob, .int .i64 0, .int .i64 s.C, .int .i64 0, .int .i64 s.oc, .int .i64 0, .int .i64 (wrap64 (s.D + g1)), .int .i64 0, .int .i64 3] 75 (0, 0)) by rw [hv4]; exact blk_drew (blk_put BS1.out 0 _ rfl))
     have BX2 := a_ (show v4.heap[gx]? = some (.cells #[.int .i64 g0, .int .i64 g1, .int .i64 g2, .int .i64 3] 45 (0, 0)) by rw [hv4]; exact blk_drew (blk_far BX1.out (p := ⟨gs, 0, none⟩) NEBS_gx.out.symm _))
     have OA2 := a_ (show OnlyAt gs w v4 by rw [hv4]; exact OnlyAt.drew (OnlyAt.put OA1.out 0 _))
     clear hv4 hx hs hf BS1 BX1 OA1
     have hx : v4.cell? ⟨gx, 2, none⟩ = some (.int .i64 g2) := (blk_cell BX2.out 2).trans rfl
     have hs : v4.cell? ⟨gs, 2, none⟩ = some (.int .i64 s.H) := (blk_cell BS2.out 2).trans rfl
     have hf := blk_frozen BS2.out 2
     go_still_tail 13, (by kernel_rfl)
     change wpList _ _ _ _ _ v4.drew
     go_wp2
     go_end0
     exact ⟨rfl, blk_drew (blk_put BS2.out 2 _ rfl), OnlyAt.drew (OnlyAt.put OA2.out 2 _)⟩
    ·rw [if_neg o3] at h
     exact absurd h (by simp)

/-! seeker.option -/
set_option maxHeartbeats 8000000 in
set_option maxRecDepth 100000 in
theorem bopt.calls (w0 w : World) (gb gt : Nat) (A : Option Addr) (c1 : Nat) (l : List S47) (T T' : List TL) (wd tol a b y0 y1 y2 y3 : Int)
  (hr : Kd.C k47 w0 A l.length l) (hc : l.length ≤ c1) (hB : Below w0.heap.size w0 w) (hk : w.heap[gb]? = some (.cells #[.slice A l.length c1, .int .i64 wd, .int .i64 tol, .slice (some ⟨gt, 0, none⟩) (l.length + 1) (l.length + 1)] 56 (0, 0))) (ht : w.heap[gt]? = some (.cells (encT T) 60 (0, 0))) (hT : T.length = 4 * (l.length + 1))
  (h : bopt.f l T a b y0 y1 y2 y3 = some T') :
  Calls Try.prog 36 #[.pointer (some ⟨gb, 0, none⟩), .int .i64 a, .int .i64 b, .agg #[.int .i64 y0, .int .i64 y1, .int .i64 y2, .int .i64 y3]] w fun e w' => e = .returned (.tuple #[]) ∧ w'.heap[gt]? = some (.cells (encT T') 60 (0, 0)) ∧ OnlyAt gt w w' := by
 have hu22 := Try.underlying22
 have hu45 := Try.underlying45
 have hu47 := Try.underlying47
 have hu54 := Try.underlying54
 have hu56 := Try.underlying56
 have hu59 := Try.underlying59
 have hu60 := Try.underlying60
 have hu70 := Try.underlying70
 have HR := a_ hr
 have BK := a_ hk
 have BT := a_ ht
 have HT := a_ hT
 have HW := a_ hB
 have HB := a_ (Below.refl w.heap.size w)
 clear hr hk ht hT hB
 unfold bopt.f at h
 by_cases b0 : 0 ≤ b
 rotate_left
 ·rw [if_neg b0] at h; exact absurd h (by simp)
 rw [if_pos b0] at h
 by_cases b1 : b < (l.length : Int)
 rotate_left
 ·rw [if_neg b1] at h; exact absurd h (by simp)
 rw [if_pos b1] at h
 by_cases a0 : -1 ≤ a
 rotate_left
 ·rw [if_neg a0] at h; exact absurd h (by simp)
 rw [if_pos a0] at h
 by_cases a1 : a < (l.length : Int)
 rotate_left
 ·rw [if_neg a1] at h; exact absurd h (by simp)
 rw [if_pos a1] at h
 obtain ⟨d, hd, h⟩ := Option.bind_eq_some_iff.mp h
 obtain ⟨c, hcl, h⟩ := Option.bind_eq_some_iff.mp h
 by_cases c0 : 0 ≤ c
 rotate_left
 ·rw [if_neg c0] at h; exact absurd h (by simp)
 rw [if_pos c0] at h
 by_cases c4 : c < 4
 rotate_left
 ·rw [if_neg c4] at h; exact absurd h (by simp)
 rw [if_pos c4] at h
 have HD := a_ hd
 have HCL := a_ hcl
 have H' := a_ h
 clear hd hcl h
 have B0P := a_ b0
 have B1P := a_ b1
 have A0P := a_ a0
 have A1P := a_ a1
 have C0P := a_ c0
 have C4P := a_ c4
 clear b0 b1 a0 a1 c0 c4
 go_enter Try.func36, Try.ntmps36
 go_upto_region 1 with ((with_reducible refine gate_dst (N := 7) rfl ?_); (try (refine gate_guard (by rfl) ?_; dsimp only)); refine box_event ?hg (N := 7) ?hd (cs := #[.int .i64 y0, .int .i64 y1, .int .i64 y2, .int .i64 y3]) (t := 70) ?hr ?_; (case hd => rfl); (case hg => rfl); (case hr => first | (go_simp; done) | (go_simp; rfl)); intro gy hg w1 hbox hb; have n0_ := a_ (bs_ HB.out hb); have BY := a_ hbox; have GEgy := a_ ((by rw [hg]; exact (below_size (bv_ HB.out)) : w.heap.size ≤ gy)); have m0_ := a_ (blk_below (kv_ BK.out) hb); have NEBK_gy := a_ ((by rw [hg]; exact Nat.ne_of_lt (blk_lt (kv_ BK.out)) : gb ≠ gy)); have m1_ := a_ (blk_below (kv_ BT.out) hb); have NEBT_gy := a_ ((by rw [hg]; exact Nat.ne_of_lt (blk_lt (kv_ BT.out)) : gt ≠ gy)); clear HB BK BT; have HB := n0_; have BK := m0_; have BT := m1_; clear n0_ m0_ m1_; clear hb hbox hg)
 (try simp only [Act.put, List.setIfInBounds_toArray, List.set_cons_zero, List.set_cons_succ])
 go_cut [8] (fun v8 wc => v8 = .int .i64 d ∧ Aside0 (wc.heap[gb]? = some (.cells #[.slice A l.length c1, .int .i64 wd, .int .i64 tol, .slice (some ⟨gt, 0, none⟩) (l.length + 1) (l.length + 1)] 56 (0, 0))) ∧ Aside0 (wc.heap[gt]? = some (.cells (encT T) 60 (0, 0))) ∧ Aside0 (wc.heap[gy]? = some (.cells #[.int .i64 y0, .int .i64 y1, .int .i64 y2, .int .i64 y3] 70 (0, 0))) ∧ Aside0 (Below w.heap.size w wc))
 case first =>
  have HW1 := a_ (below_then HW.out HW.out.size HB.out)
  have hy_0 : w1.cell? ⟨gy, 0, none⟩ = some (.int .i64 y0) := (blk_cell BY.out 0).trans rfl
  have hy_1 : w1.cell? ⟨gy, 1, none⟩ = some (.int .i64 y1) := (blk_cell BY.out 1).trans rfl
  have hy_2 : w1.cell? ⟨gy, 2, none⟩ = some (.int .i64 y2) := (blk_cell BY.out 2).trans rfl
  have hy_3 : w1.cell? ⟨gy, 3, none⟩ = some (.int .i64 y3) := (blk_cell BY.out 3).trans rfl
  have hk_0 : w1.cell? ⟨gb, 0, none⟩ = some (.slice A l.length c1) := (blk_cell BK.out 0).trans rfl
  obtain ⟨hxad, hxe, hx0, hx1, hx2, hx3, hx4, hx5, hx6, hx7, hx8⟩ := at_T47 HR.out b B0P.out B1P.out
  cases hxe
  replace hx0 := (HW1.out.cell (World.block_lt_of_cell? w0 _ hx0)).trans hx0
  replace hx1 := (HW1.out.cell (World.block_lt_of_cell? w0 _ hx1)).trans hx1
  replace hx2 := (HW1.out.cell (World.block_lt_of_cell? w0 _ hx2)).trans hx2
  replace hx3 := (HW1.out.cell (World.block_lt_of_cell? w0 _ hx3)).trans hx3
  replace hx4 := (HW1.out.cell (World.block_lt_of_cell? w0 _ hx4)).trans hx4
  replace hx5 := (HW1.out.cell (World.block_lt_of_cell? w0 _ hx5)).trans hx5
  replace hx6 := (HW1.out.cell (World.block_lt_of_cell? w0 _ hx6)).trans hx6
  replace hx7 := (HW1.out.cell (World.block_lt_of_cell? w0 _ hx7)).trans hx7
  replace hx8 := (HW1.out.cell (World.block_lt_of_cell? w0 _ hx8)).trans hx8
  have hd := HD.out
  clear HD
  by_cases a2 : a ≥ 0
  ·have A2 := a_ a2
   have a2b : decide (0 ≤ a) = true := decide_eq_true a2
   rw [if_pos a2] at hd
   have HD := a_ hd
   clear hd a2
   obtain ⟨ji, hji⟩ : ∃ j_ : Int, (mx a 0) = j_ := ⟨_, rfl⟩
   rw [hji] at HD
   have hji_ : (if a < 0 then 0 else a) = ji := hji
   have J0 := a_ (show 0 ≤ ji by rw [← hji]; unfold mx; split <;> omega)
   have J1 := a_ (show ji < (l.length : Int) by have := A2.out; have := A1P.out; rw [← hji]; unfold mx; split <;> omega)
   have ix0 : (0 : Int) ≤ b := B0P.out
   have ix1 : b < (l.length : Int) := B1P.out
   have ix2 : (0 : Int) ≤ ji := J0.out
   have ix3 : ji < (l.length : Int) := J1.out
   obtain ⟨hzad, hze, hz0, hz1, hz2, hz3, hz4, hz5, hz6, hz7, hz8⟩ := at_T47 HR.out ji J0.out J1.out
   cases hze
   replace hz0 := (HW1.out.cell (World.block_lt_of_cell? w0 _ hz0)).trans hz0
   replace hz1 := (HW1.out.cell (World.block_lt_of_cell? w0 _ hz1)).trans hz1
   replace hz2 := (HW1.out.cell (World.block_lt_of_cell? w0 _ hz2)).trans hz2
   replace hz3 := (HW1.out.cell (World.block_lt_of_cell? w0 _ hz3)).trans hz3
   replace hz4 := (HW1.out.cell (World.block_lt_of_cell? w0 _ hz4)).trans hz4
   replace hz5 := (HW1.out.cell (World.block_lt_of_cell? w0 _ hz5)).trans hz5
   replace hz6 := (HW1.out.cell (World.block_lt_of_cell? w0 _ hz6)).trans hz6
   replace hz7 := (HW1.out.cell (World.block_lt_of_cell? w0 _ hz7)).trans hz7
   replace hz8 := (HW1.out.cell (World.block_lt_of_cell? w0 _ hz8)).trans hz8
   have ix0b := eq_true ix0
   have ix1b := eq_true ix1
   have ix2b := eq_true ix2
   have ix3b := eq_true ix3
   clear ix0 ix1 ix2 ix3
   refine still_start 21 (by kernel_rfl) (by kernel_rfl) ?_
   simp only [List.take_succ_cons, List.take_zero, List.drop_succ_cons, List.drop_zero]
   refine still_on (by rfl) (fun K hK => ?_)
   go_simp
   refine hK _ ?_
   clear hK K
   refine still_on (by rfl) (fun K hK => ?_)
   go_simp
   refine hK _ ?_
   clear hK K
   refine still_on (by rfl) (fun K hK => ?_)
   go_simp
   refine hK _ ?_
   clear hK K
   refine still_on (by rfl) (fun K hK => ?_)
   go_simp
   refine hK _ ?_
   clear hK K
   refine still_on (by rfl) (fun K hK => ?_)
   go_simp
   refine hK _ ?_
   clear hK K
   refine still_on (by rfl) (fun K hK => ?_)
   go_simp
   refine hK _ ?_
   clear hK K
   refine still_on (by rfl) (fun K hK => ?_)
   go_simp
   refine hK _ ?_
   clear hK K
   refine still_on (by rfl) (fun K hK => ?_)
   go_simp
   refine hK _ ?_
   clear hK K
   refine still_on (by rfl) (fun K hK => ?_)
   go_simp
   refine hK _ ?_
   clear hK K
   refine still_on (by rfl) (fun K hK => ?_)
   go_simp
   refine hK _ ?_
   clear hK K
   refine still_on (by rfl) (fun K hK => ?_)
   go_simp
   refine hK _ ?_
   clear hK K
   refine still_on (by rfl) (fun K hK => ?_)
   go_simp
   refine hK _ ?_
   clear hK K
   refine still_on (by rfl) (fun K hK => ?_)
   go_simp
   refine hK _ ?_
   clear hK K
   refine still_on (by rfl) (fun K hK => ?_)
   go_simp
   refine hK _ ?_
   clear hK K
   refine still_on (by rfl) (fun K hK => ?_)
   go_simp
   refine hK _ ?_
   clear hK K
   refine still_on (by rfl) (fun K hK => ?_)
   go_simp
   refine hK _ ?_
   clear hK K
   refine still_on (by rfl) (fun K hK => ?_)
   go_simp
   refine hK _ ?_
   clear hK K
   refine still_on (by rfl) (fun K hK => ?_)
   go_simp
   refine hK _ ?_
   clear hK K
   refine still_on (by rfl) (fun K hK => ?_)
   go_simp
   refine hK _ ?_
   clear hK K
   refine still_on (by rfl) (fun K hK => ?_)
   go_simp
   refine hK _ ?_
   clear hK K
   refine still_on (by rfl) (fun K hK => ?_)
   go_simp
   refine hK _ ?_
   clear hK K
   refine still_nil ?_
   change wpList _ _ _ _ _ w1.drew
   go_wp2_with (go_at_call 46; refine (demerit_Demerits.calls y0 y1 y2 y3 (rd_T47 l ji).f3 _ _ _ _ _ _ _ _ _ d _ HD.out).mono ?_; rintro e w2 ⟨rfl, hb⟩; have BK2 := a_ (blk_below (blk_drew BK.out) hb); have BT2 := a_ (blk_below (blk_drew BT.out) hb); have BY2 := a_ (blk_below (blk_drew BY.out) hb); have HB2 := a_ (below_step (below_drew1 HB.out) hb); clear hb)
   go_meet
   case rel => exact ⟨rfl, BK2, BT2, BY2, HB2⟩
  ·have a2b : decide (0 ≤ a) = false := decide_eq_false a2
   rw [if_neg a2] at hd
   have HD := a_ hd
   clear hd a2
   have ix0b := eq_true (show (0 : Int) ≤ b from B0P.out)
   have ix1b := eq_true (show b < (l.length : Int) from B1P.out)
   refine still_start 21 (by kernel_rfl) (by kernel_rfl) ?_
   simp only [List.take_succ_cons, List.take_zero, List.drop_succ_cons, List.drop_zero]
   refine still_on (by rfl) (fun K hK => ?_)
   go_simp
   refine hK _ ?_
   clear hK K
   refine still_on (by rfl) (fun K hK => ?_)
   go_simp
   refine hK _ ?_
   clear hK K
   refine still_on (by rfl) (fun K hK => ?_)
   go_simp
   refine hK _ ?_
   clear hK K
   refine still_on (by rfl) (fun K hK => ?_)
   go_simp
   refine hK _ ?_
   clear hK K
   refine still_off (by rfl) (a' := ?_) ?_ ?_
   rotate_left
   ·simp only [Act.put, List.setIfInBounds_toArray, List.set_cons_zero, List.set_cons_succ]; rfl
   refine still_off (by rfl) (a' := ?_) ?_ ?_
   rotate_left
   ·simp only [Act.put, List.setIfInBounds_toArray, List.set_cons_zero, List.set_cons_succ]; rfl
   refine still_off (by rfl) (a' := ?_) ?_ ?_
   rotate_left
   ·simp only [Act.put, List.setIfInBounds_toArray, List.set_cons_zero, List.set_cons_succ]; rfl
   refine still_off (by rfl) (a' := ?_) ?_ ?_
   rotate_left
   ·simp only [Act.put, List.setIfInBounds_toArray, List.set_cons_zero, List.set_cons_succ]; rfl
   refine still_off (by rfl) (a' := ?_) ?_ ?_
   rotate_left
   ·simp only [Act.put, List.setIfInBounds_toArray, List.set_cons_zero, List.set_cons_succ]; rfl
   refine still_off (by rfl) (a' := ?_) ?_ ?_
   rotate_left
   ·simp only [Act.put, List.setIfInBounds_toArray, List.set_cons_zero, List.set_cons_succ]; rfl
   refine still_off (by rfl) (a' := ?_) ?_ ?_
   rotate_left
   ·simp only [Act.put, List.setIfInBounds_toArray, List.set_cons_zero, List.set_cons_succ]; rfl
   refine still_off (by rfl) (a' := ?_) ?_ ?_
   rotate_left
   ·simp only [Act.put, List.setIfInBounds_toArray, List.set_cons_zero, List.set_cons_succ]; rfl
   refine still_off (by rfl) (a' := ?_) ?_ ?_
   rotate_left
   ·simp only [Act.put, List.setIfInBounds_toArray, List.set_cons_zero, List.set_cons_succ]; rfl
   refine still_on (by rfl) (fun K hK => ?_)
   go_simp
   refine hK _ ?_
   clear hK K
   refine still_on (by rfl) (fun K hK => ?_)
   go_simp
   refine hK _ ?_
   clear hK K
   refine still_on (by rfl) (fun K hK => ?_)
   go_simp
   refine hK _ ?_
   clear hK K
   refine still_on (by rfl) (fun K hK => ?_)
   go_simp
   refine hK _ ?_
   clear hK K
   refine still_on (by rfl) (fun K hK => ?_)
   go_simp
   refine hK _ ?_
   clear hK K
   refine still_on (by rfl) (fun K hK => ?_)
   go_simp
   refine hK _ ?_
   clear hK K
   refine still_on (by rfl) (fun K hK => ?_)
   go_simp
   refine hK _ ?_
   clear hK K
   refine still_on (by rfl) (fun K hK => ?_)
   go_simp
   refine hK _ ?_
   clear hK K
   refine still_nil ?_
   change wpList _ _ _ _ _ w1.drew
   go_wp2_with (go_at_call 46; refine (demerit_Demerits.calls y0 y1 y2 y3 false _ _ _ _ _ _ _ _ _ d _ HD.out).mono ?_; rintro e w2 ⟨rfl, hb⟩; have BK2 := a_ (blk_below (blk_drew BK.out) hb); have BT2 := a_ (blk_below (blk_drew BT.out) hb); have BY2 := a_ (blk_below (blk_drew BY.out) hb); have HB2 := a_ (below_step (below_drew1 HB.out) hb); clear hb)
   go_meet
   case rel => exact ⟨rfl, BK2, BT2, BY2, HB2⟩
 case rest =>
  clear BK BT BY HB HD
  obtain ⟨rfl, BK, BT, BY, HB⟩ := hcut
  have hy_0 : wc.cell? ⟨gy, 0, none⟩ = some (.int .i64 y0) := (blk_cell BY.out 0).trans rfl
  have hy_1 : wc.cell? ⟨gy, 1, none⟩ = some (.int .i64 y1) := (blk_cell BY.out 1).trans rfl
  have hy_2 : wc.cell? ⟨gy, 2, none⟩ = some (.int .i64 y2) := (blk_cell BY.out 2).trans rfl
  have hy_3 : wc.cell? ⟨gy, 3, none⟩ = some (.int .i64 y3) := (blk_cell BY.out 3).trans rfl
  go_upto_region 3 with (go_at_call 47; refine (demerit_Class.calls y0 y1 y2 y3 c _ HCL.out).mono ?_; rintro e w3 ⟨rfl, hb⟩; have BK3 := a_ (blk_below BK.out hb); have BT3 := a_ (blk_below BT.out hb); have HB3 := a_ (below_step HB.out hb); clear hb)
  clear BK BT BY HB hy_0 hy_1 hy_2 hy_3
  have hk_0 : w3.cell? ⟨gb, 0, none⟩ = some (.slice A l.length c1) := (blk_cell BK3.out 0).trans rfl
  have hk_3 : w3.cell? ⟨gb, 3, none⟩ = some (.slice (some ⟨gt, 0, none⟩) (l.length + 1) (l.length + 1)) := (blk_cell BK3.out 3).trans rfl
  have LN := a_ (HR.out.2.1)
  have hw1 : wrap64 (b + 1) = b + 1 := by (have := LN.out; have := B0P.out; have := B1P.out; unfold wrap64; omega)
  have hw2 : wrap64 ((l.length : Int) - 1) = (l.length : Int) - 1 := by (have := LN.out; unfold wrap64; omega)
  have JB := a_ (show 4 * (b + 1).toNat + c.toNat < T.length by have := HT.out; have := B0P.out; have := B1P.out; have := C0P.out; have := C4P.out; omega)
  have hq_0 : w3.cell? ⟨gt, (b + 1).toNat * 16 + c.toNat * 4, none⟩ = some (.bool (tg T (4 * (b + 1).toNat + c.toNat)).ok) := blk_tail (f := 0) BT3.out JB.out (by omega) rfl
  have hq_1 : w3.cell? ⟨gt, (b + 1).toNat * 16 + c.toNat * 4 + 1, none⟩ = some (.int .i64 (tg T (4 * (b + 1).toNat + c.toNat)).dm) := blk_tail (f := 1) BT3.out JB.out (by omega) rfl
  have hq_2 : w3.cell? ⟨gt, (b + 1).toNat * 16 + c.toNat * 4 + 2, none⟩ = some (.int .i64 (tg T (4 * (b + 1).toNat + c.toNat)).nx) := blk_tail (f := 2) BT3.out JB.out (by omega) rfl
  have hq_3 : w3.cell? ⟨gt, (b + 1).toNat * 16 + c.toNat * 4 + 3, none⟩ = some (.int .i64 (tg T (4 * (b + 1).toNat + c.toNat)).cl) := blk_tail (f := 3) BT3.out JB.out (by omega) rfl
  have i0 := eq_true (show (0 : Int) ≤ b + 1 by have := B0P.out; omega)
  have i1 := eq_true (show b + 1 < (l.length : Int) + 1 by have := B1P.out; omega)
  have i2 := eq_true (show b < (l.length : Int) from B1P.out)
  have i3 := eq_true (show (0 : Int) ≤ c from C0P.out)
  have i4 := eq_true (show c < 4 from C4P.out)
  go_upto_region 4 with ((with_reducible refine gate_dst (N := 10) rfl ?_); (try (refine gate_guard (by rfl) ?_; dsimp only)); refine box_event ?hg (N := 10) ?hd (cs := #[.bool false, .int .i64 0, .int .i64 0, .int .i64 0]) (t := 59) ?hr ?_; (case hd => rfl); (case hg => rfl); (case hr => first | (go_simp; done) | (go_simp; rfl)); intro gq hg w4 hbox hb; have n0_ := a_ (bs_ HB3.out hb); have BQ := a_ hbox; have GEgq := a_ ((by rw [hg]; exact (below_size (bv_ HB3.out)) : w.heap.size ≤ gq)); have m0_ := a_ (blk_below (kv_ BK3.out) hb); have NEBK3_gq := a_ ((by rw [hg]; exact Nat.ne_of_lt (blk_lt (kv_ BK3.out)) : gb ≠ gq)); have m1_ := a_ (blk_below (kv_ BT3.out) hb); have NEBT3_gq := a_ ((by rw [hg]; exact Nat.ne_of_lt (blk_lt (kv_ BT3.out)) : gt ≠ gq)); clear HB3 BK3 BT3; have HB3 := n0_; have BK3 := m0_; have BT3 := m1_; clear n0_ m0_ m1_; clear hb hbox hg; have hq_0 : w4.cell? ⟨gq, 0, none⟩ = some (.bool false) := (blk_cell BQ.out 0).trans rfl; have hq_1 : w4.cell? ⟨gq, 1, none⟩ = some (.int .i64 0) := (blk_cell BQ.out 1).trans rfl; have hq_2 : w4.cell? ⟨gq, 2, none⟩ = some (.int .i64 0) := (blk_cell BQ.out 2).trans rfl; have hq_3 : w4.cell? ⟨gq, 3, none⟩ = some (.int .i64 0) := (blk_cell BQ.out 3).trans rfl; have hqf_0 := blk_frozen BQ.out 0; have hqf_1 := blk_frozen BQ.out 1; have hqf_2 := blk_frozen BQ.out 2; have hqf_3 := blk_frozen BQ.out 3)
  skip
  obtain ⟨w5, hw5⟩ : ∃ w5, w5 = ((((w4.setCell ⟨gq, 0, none⟩ (.bool (tg T (4 * (b + 1).toNat + c.toNat)).ok)).setCell ⟨gq, 1, none⟩ (.int .i64 (tg T (4 * (b + 1).toNat + c.toNat)).dm)).setCell ⟨gq, 2, none⟩ (.int .i64 (tg T (4 * (b + 1).toNat + c.toNat)).nx)).setCell ⟨gq, 3, none⟩ (.int .i64 (tg T (4 * (b + 1).toNat + c.toNat)).cl)) := ⟨_, rfl⟩
  rw [← hw5]
  have BQ5 := a_ (show w5.heap[gq]? = some (.cells #[.bool (tg T (4 * (b + 1).toNat + c.toNat)).ok, .int .i64 (tg T (4 * (b + 1).toNat + c.toNat)).dm, .int .i64 (tg T (4 * (b + 1).toNat + c.toNat)).nx, .int .i64 (tg T (4 * (b + 1).toNat + c.toNat)).cl] 59 (0, 0)) by rw [hw5]; exact blk_put (cs := #[.bool (tg T (4 * (b + 1).toNat + c.toNat)).ok, .int .i64 (tg T (4 * (b + 1).toNat + c.toNat)).dm, .int .i64 (tg T (4 * (b + 1).toNat + c.toNat)).nx, .int .i64 0]) (blk_put (cs := #[.bool (tg T (4 * (b + 1).toNat + c.toNat)).ok, .int .i64 (tg T (4 * (b + 1).toNat + c.toNat)).dm, .int .i64 0, .int .i64 0]) (blk_put (cs := #[.bool (tg T (4 * (b + 1).toNat + c.toNat)).ok, .int .i64 0, .int .i64 0, .int .i64 0]) (blk_put (cs := #[.bool false, .int .i64 0, .int .i64 0, .int .i64 0]) (BQ.out) 0 _ rfl) 1 _ rfl) 2 _ rfl) 3 _ rfl)
  have BK5 := a_ (show w5.heap[gb]? = some (.cells #[.slice A l.length c1, .int .i64 wd, .int .i64 tol, .slice (some ⟨gt, 0, none⟩) (l.length + 1) (l.length + 1)] 56 (0, 0)) by rw [hw5]; exact blk_far (blk_far (blk_far (blk_far (BK3.out) (p := ⟨gq, 0, none⟩) NEBK3_gq.out _) (p := ⟨gq, 1, none⟩) NEBK3_gq.out _) (p := ⟨gq, 2, none⟩) NEBK3_gq.out _) (p := ⟨gq, 3, none⟩) NEBK3_gq.out _)
  have BT5 := a_ (show w5.heap[gt]? = some (.cells (encT T) 60 (0, 0)) by rw [hw5]; exact blk_far (blk_far (blk_far (blk_far (BT3.out) (p := ⟨gq, 0, none⟩) NEBT3_gq.out _) (p := ⟨gq, 1, none⟩) NEBT3_gq.out _) (p := ⟨gq, 2, none⟩) NEBT3_gq.out _) (p := ⟨gq, 3, none⟩) NEBT3_gq.out _)
  have HB5 := a_ (show Below w.heap.size w w5 by rw [hw5]; exact Below.setCell (Below.setCell (Below.setCell (Below.setCell (HB3.out) GEgq.out _) GEgq.out _) GEgq.out _) GEgq.out _)
  clear hw5 BQ BK3 BT3 HB3 hk_0 hk_3 hq_0 hq_1 hq_2 hq_3 hqf_0 hqf_1 hqf_2 hqf_3
  have hk_0 : w5.cell? ⟨gb, 0, none⟩ = some (.slice A l.length c1) := (blk_cell BK5.out 0).trans rfl
  have hq_0 : w5.cell? ⟨gq, 0, none⟩ = some (.bool (tg T (4 * (b + 1).toNat + c.toNat)).ok) := (blk_cell BQ5.out 0).trans rfl
  have hq_1 : w5.cell? ⟨gq, 1, none⟩ = some (.int .i64 (tg T (4 * (b + 1).toNat + c.toNat)).dm) := (blk_cell BQ5.out 1).trans rfl
  have hq_2 : w5.cell? ⟨gq, 2, none⟩ = some (.int .i64 (tg T (4 * (b + 1).toNat + c.toNat)).nx) := (blk_cell BQ5.out 2).trans rfl
  have hq_3 : w5.cell? ⟨gq, 3, none⟩ = some (.int .i64 (tg T (4 * (b + 1).toNat + c.toNat)).cl) := (blk_cell BQ5.out 3).trans rfl
  have hqf_0 := blk_frozen BQ5.out 0
  have hqf_1 := blk_frozen BQ5.out 1
  have hqf_2 := blk_frozen BQ5.out 2
  have hqf_3 := blk_frozen BQ5.out 3
  go_upto_if 55 with (fail)
  go_cut [] (fun wc => Aside0 (wc.heap[gb]? = some (.cells #[.slice A l.length c1, .int .i64 wd, .int .i64 tol, .slice (some ⟨gt, 0, none⟩) (l.length + 1) (l.length + 1)] 56 (0, 0))) ∧ Aside0 (wc.heap[gt]? = some (.cells (encT T) 60 (0, 0))) ∧ Aside0 (wc.heap[gq]? = some (.cells #[.bool (bopt.rest l T b c).ok, .int .i64 (bopt.rest l T b c).dm, .int .i64 (bopt.rest l T b c).nx, .int .i64 (bopt.rest l T b c).cl] 59 (0, 0))) ∧ Aside0 (Below w.heap.size w wc))
  case first =>
   by_cases e : b = (l.length : Int) - 1
   ·have e0 : (b == (l.length : Int) - 1) = true := beq_iff_eq.mpr e
    have er : bopt.rest l T b c = ⟨true, 0, 0, 0⟩ := by unfold bopt.rest; rw [if_pos e]
    have ER := a_ er
    clear e er
    go_wp2
    go_meet
    case rel => exact ⟨⟨blk_far (blk_far (blk_far (blk_far (BK5.out) (p := ⟨gq, 0, none⟩) NEBK3_gq.out _) (p := ⟨gq, 1, none⟩) NEBK3_gq.out _) (p := ⟨gq, 2, none⟩) NEBK3_gq.out _) (p := ⟨gq, 3, none⟩) NEBK3_gq.out _⟩, ⟨blk_far (blk_far (blk_far (blk_far (BT5.out) (p := ⟨gq, 0, none⟩) NEBT3_gq.out _) (p := ⟨gq, 1, none⟩) NEBT3_gq.out _) (p := ⟨gq, 2, none⟩) NEBT3_gq.out _) (p := ⟨gq, 3, none⟩) NEBT3_gq.out _⟩, ⟨by rw [ER.out]; exact blk_put (cs := #[.bool true, .int .i64 0, .int .i64 0, .int .i64 (tg T (4 * (b + 1).toNat + c.toNat)).cl]) (blk_put (cs := #[.bool true, .int .i64 0, .int .i64 (tg T (4 * (b + 1).toNat + c.toNat)).nx, .int .i64 (tg T (4 * (b + 1).toNat + c.toNat)).cl]) (blk_put (cs := #[.bool true, .int .i64 (tg T (4 * (b + 1).toNat + c.toNat)).dm, .int .i64 (tg T (4 * (b + 1).toNat + c.toNat)).nx, .int .i64 (tg T (4 * (b + 1).toNat + c.toNat)).cl]) (blk_put (cs := #[.bool (tg T (4 * (b + 1).toNat + c.toNat)).ok, .int .i64 (tg T (4 * (b + 1).toNat + c.toNat)).dm, .int .i64 (tg T (4 * (b + 1).toNat + c.toNat)).nx, .int .i64 (tg T (4 * (b + 1).toNat + c.toNat)).cl]) (BQ5.out) 0 _ rfl) 1 _ rfl) 2 _ rfl) 3 _ rfl⟩, ⟨Below.setCell (Below.setCell (Below.setCell (Below.setCell (HB5.out) GEgq.out _) GEgq.out _) GEgq.out _) GEgq.out _⟩⟩
   ·have e0 : (b == (l.length : Int) - 1) = false := beq_eq_false_iff_ne.mpr e
    have er : bopt.rest l T b c = (tg T (4 * (b + 1).toNat + c.toNat)) := by unfold bopt.rest; rw [if_neg e]
    have ER := a_ er
    clear e er
    go_wp2
    go_meet
    case rel => exact ⟨BK5, BT5, ⟨by rw [ER.out]; exact BQ5.out⟩, HB5⟩
  case rest =>
   clear BK5 BT5 BQ5 HB5 hk_0 hq_0 hq_1 hq_2 hq_3 hqf_0 hqf_1 hqf_2 hqf_3
   obtain ⟨BK, BT, BQ, HB⟩ := hcut
   have hq_0 : wc.cell? ⟨gq, 0, none⟩ = some (.bool (bopt.rest l T b c).ok) := (blk_cell BQ.out 0).trans rfl
   have h := H'.out
   clear H'
   by_cases ok : (bopt.rest l T b c).ok = true
   rotate_left
   ·rw [if_neg ok] at h
    obtain rfl := Option.some.inj h
    rw [Bool.eq_false_iff.mpr ok] at hq_0
    clear ok h
    go_wp2
    refine bodyPost_ret (results_none rfl _ _ _) rfl ?_
    exact ⟨rfl, BT.out, OnlyAt.below HB.out⟩
   rw [if_pos ok] at h
   rw [ok] at hq_0
   have H' := a_ h
   clear ok h
   go_wp2
   go_loopg [60] 5 (fun kq v60 w' => ∃ (i : Int) (T1 : List TL), v60 = .int .i64 i ∧ Aside0 (bopt.l kq (4 * (a + 1).toNat) d (bopt.rest l T b c).dm b c T1 i = some T') ∧ Aside0 (kq ≤ 5) ∧ Aside0 (T1.length = T.length) ∧ Aside0 (w'.heap[gb]? = some (.cells #[.slice A l.length c1, .int .i64 wd, .int .i64 tol, .slice (some ⟨gt, 0, none⟩) (l.length + 1) (l.length + 1)] 56 (0, 0))) ∧ Aside0 (w'.heap[gt]? = some (.cells (encT T1) 60 (0, 0))) ∧ Aside0 (w'.heap[gq]? = some (.cells #[.bool (bopt.rest l T b c).ok, .int .i64 (bopt.rest l T b c).dm, .int .i64 (bopt.rest l T b c).nx, .int .i64 (bopt.rest l T b c).cl] 59 (0, 0))) ∧ Aside0 (OnlyAt gt w w'))
   case atStart => exact ⟨0, T, rfl, H', ⟨Nat.le_refl _⟩, ⟨rfl⟩, BK, BT, BQ, ⟨OnlyAt.below HB.out⟩⟩
   case round =>
    clear H' BK BT BQ HB hq_0
    obtain ⟨i, T1, rfl, HA, HK1, HT1, BK, BT, BQ, OA⟩ := hrel
    cases gk with
    | zero => exact absurd HA.out (by simp [bopt.l])
    | succ k1 =>
     have h := HA.out
     clear HA
     simp only [bopt.l] at h
     by_cases j4 : i < 4
     rotate_left
     ·rw [if_neg j4] at h
      obtain rfl := Option.some.inj h
      have j4b := decide_eq_false j4
      go_wp2
      go_end0
      exact ⟨rfl, BT.out, OA.out⟩
     rw [if_pos j4] at h
     by_cases j0 : 0 ≤ i
     rotate_left
     ·rw [if_neg j0] at h; exact absurd h (by simp)
     rw [if_pos j0] at h
     obtain ⟨t, ht, h⟩ := Option.bind_eq_some_iff.mp h
     have HAP := a_ ht
     have H' := a_ h
     have J0 := a_ j0
     have J4 := a_ j4
     clear ht h
     have JA := a_ (show 4 * (a + 1).toNat + i.toNat < T1.length by have := HT1.out; have := HT.out; have := A0P.out; have := A1P.out; have := J0.out; have := J4.out; omega)
     have hw3 : wrap64 (a + 1) = a + 1 := by (have := LN.out; have := A0P.out; have := A1P.out; unfold wrap64; omega)
     have i5 := eq_true (show (0 : Int) ≤ a + 1 by have := A0P.out; omega)
     have i6 := eq_true (show a + 1 < (l.length : Int) + 1 by have := A1P.out; omega)
     have i7 := eq_true (show a < (l.length : Int) from A1P.out)
     have i8 := decide_eq_true j4
     replace j4 := eq_true j4
     replace j0 := eq_true j0
     have hk_3 : wr.cell? ⟨gb, 3, none⟩ = some (.slice (some ⟨gt, 0, none⟩) (l.length + 1) (l.length + 1)) := (blk_cell BK.out 3).trans rfl
     have hq_1 : wr.cell? ⟨gq, 1, none⟩ = some (.int .i64 (bopt.rest l T b c).dm) := (blk_cell BQ.out 1).trans rfl
     go_upto_region 11 with (fail)
     go_cut [13] (fun v13 wc => v13 = .int .i64 (wrap64 (wrap64 (d + (bopt.rest l T b c).dm) + t)) ∧ Aside0 (wc.heap[gb]? = some (.cells #[.slice A l.length c1, .int .i64 wd, .int .i64 tol, .slice (some ⟨gt, 0, none⟩) (l.length + 1) (l.length + 1)] 56 (0, 0))) ∧ Aside0 (wc.heap[gt]? = some (.cells (encT T1) 60 (0, 0))) ∧ Aside0 (wc.heap[gq]? = some (.cells #[.bool (bopt.rest l T b c).ok, .int .i64 (bopt.rest l T b c).dm, .int .i64 (bopt.rest l T b c).nx, .int .i64 (bopt.rest l T b c).cl] 59 (0, 0))) ∧ Aside0 (OnlyAt gt w wc))
     case first =>
      go_region_law (refine goes_ Try.func48 (by kernel_rfl) rfl #[.int .i64 c, .int .i64 i] (by rfl) rfl rfl (by (try simp only [List.map_toArray, List.map_cons, List.map_nil]); first | done | rfl) ?_; with_reducible refine (demerit_Apart.calls c i t _ HAP.out).mono ?_; rintro e w6 ⟨rfl, ⟨nd, rfl⟩⟩; refine ⟨_, rfl, ?_⟩)
      all_goals (try go_wp2)
      all_goals (go_meet; (case rel => exact ⟨by simp only [i64_w], ⟨by (with_reducible repeat (first | refine blk_drewN ?_ _ | refine blk_drew ?_)); exact BK.out⟩, ⟨by (with_reducible repeat (first | refine blk_drewN ?_ _ | refine blk_drew ?_)); exact BT.out⟩, ⟨by (with_reducible repeat (first | refine blk_drewN ?_ _ | refine blk_drew ?_)); exact BQ.out⟩, ⟨by (with_reducible repeat (first | refine OnlyAt.drewN ?_ _ | refine OnlyAt.drew ?_)); exact OA.out⟩⟩))
     case rest =>
      clear BK BT BQ OA hk_3 hq_1
      obtain ⟨rfl, BK, BT, BQ, OA⟩ := hcut
      have h := H'.out
      clear H'
      have hq_0 : wc.cell? ⟨gt, (a + 1).toNat * 16 + i.toNat * 4, none⟩ = some (.bool (tg T1 (4 * (a + 1).toNat + i.toNat)).ok) := blk_tail (f := 0) BT.out JA.out (by omega) rfl
      have hf_0 := blk_frozen BT.out ((a + 1).toNat * 16 + i.toNat * 4)
      have hq_1 : wc.cell? ⟨gt, (a + 1).toNat * 16 + i.toNat * 4 + 1, none⟩ = some (.int .i64 (tg T1 (4 * (a + 1).toNat + i.toNat)).dm) := blk_tail (f := 1) BT.out JA.out (by omega) rfl
      have hf_1 := blk_frozen BT.out ((a + 1).toNat * 16 + i.toNat * 4 + 1)
      have hq_2 : wc.cell? ⟨gt, (a + 1).toNat * 16 + i.toNat * 4 + 2, none⟩ = some (.int .i64 (tg T1 (4 * (a + 1).toNat + i.toNat)).nx) := blk_tail (f := 2) BT.out JA.out (by omega) rfl
      have hf_2 := blk_frozen BT.out ((a + 1).toNat * 16 + i.toNat * 4 + 2)
      have hq_3 : wc.cell? ⟨gt, (a + 1).toNat * 16 + i.toNat * 4 + 3, none⟩ = some (.int .i64 (tg T1 (4 * (a + 1).toNat + i.toNat)).cl) := blk_tail (f := 3) BT.out JA.out (by omega) rfl
      have hf_3 := blk_frozen BT.out ((a + 1).toNat * 16 + i.toNat * 4 + 3)
      by_cases o1 : (tg T1 (4 * (a + 1).toNat + i.toNat)).ok = true
      ·rw [o1] at hq_0
       by_cases o2 : (wrap64 (wrap64 (d + (bopt.rest l T b c).dm) + t)) < (tg T1 (4 * (a + 1).toNat + i.toNat)).dm
       ·have e : bopt.put T1 (4 * (a + 1).toNat + i.toNat) (wrap64 (wrap64 (d + (bopt.rest l T b c).dm) + t)) b c = T1.set (4 * (a + 1).toNat + i.toNat) ⟨true, (wrap64 (wrap64 (d + (bopt.rest l T b c).dm) + t)), b, c⟩ := by unfold bopt.put; rw [if_pos o1, if_pos o2]
        rw [e] at h
        have H' := a_ h
        have o2b := decide_eq_true o2
        clear e h o1 o2
        go_wp2
        go_roundg k1
        case measure => omega
        case rel => exact ⟨_, _, rfl, H', ⟨by have := HK1.out; omega⟩, ⟨by rw [List.length_set]; exact HT1.out⟩, ⟨blk_far (blk_far (blk_far (blk_far BK.out (p := ⟨gt, _, none⟩) (blk_ne BK.out BT.out (by decide)) _) (p := ⟨gt, _, none⟩) (blk_ne BK.out BT.out (by decide)) _) (p := ⟨gt, _, none⟩) (blk_ne BK.out BT.out (by decide)) _) (p := ⟨gt, _, none⟩) (blk_ne BK.out BT.out (by decide)) _⟩, ⟨blk_settail BT.out _ _ _ _ (by omega)⟩, ⟨blk_far (blk_far (blk_far (blk_far BQ.out (p := ⟨gt, _, none⟩) (blk_ne BQ.out BT.out (by decide)) _) (p := ⟨gt, _, none⟩) (blk_ne BQ.out BT.out (by decide)) _) (p := ⟨gt, _, none⟩) (blk_ne BQ.out BT.out (by decide)) _) (p := ⟨gt, _, none⟩) (blk_ne BQ.out BT.out (by decide)) _⟩, ⟨OnlyAt.put (OnlyAt.put (OnlyAt.put (OnlyAt.put OA.out _ _) _ _) _ _) _ _⟩⟩
       ·have e : bopt.put T1 (4 * (a + 1).toNat + i.toNat) (wrap64 (wrap64 (d + (bopt.rest l T b c).dm) + t)) b c = T1 := by unfold bopt.put; rw [if_pos o1, if_neg o2]
        rw [e] at h
        have H' := a_ h
        have o2b := decide_eq_false o2
        clear e h o1 o2
        go_wp2
        go_roundg k1
        case measure => omega
        case rel => exact ⟨_, _, rfl, H', ⟨by have := HK1.out; omega⟩, HT1, BK, BT, BQ, OA⟩
      ·have e : bopt.put T1 (4 * (a + 1).toNat + i.toNat) (wrap64 (wrap64 (d + (bopt.rest l T b c).dm) + t)) b c = T1.set (4 * (a + 1).toNat + i.toNat) ⟨true, (wrap64 (wrap64 (d + (bopt.rest l T b c).dm) + t)), b, c⟩ := by unfold bopt.put; rw [if_neg o1]
       rw [e] at h
       have H' := a_ h
       rw [Bool.eq_false_iff.mpr o1] at hq_0
       clear e h o1
       go_wp2
       go_roundg k1
       case measure => omega
       case rel => exact ⟨_, _, rfl, H', ⟨by have := HK1.out; omega⟩, ⟨by rw [List.length_set]; exact HT1.out⟩, ⟨blk_far (blk_far (blk_far (blk_far BK.out (p := ⟨gt, _, none⟩) (blk_ne BK.out BT.out (by decide)) _) (p := ⟨gt, _, none⟩) (blk_ne BK.out BT.out (by decide)) _) (p := ⟨gt, _, none⟩) (blk_ne BK.out BT.out (by decide)) _) (p := ⟨gt, _, none⟩) (blk_ne BK.out BT.out (by decide)) _⟩, ⟨blk_settail BT.out _ _ _ _ (by omega)⟩, ⟨blk_far (blk_far (blk_far (blk_far BQ.out (p := ⟨gt, _, none⟩) (blk_ne BQ.out BT.out (by decide)) _) (p := ⟨gt, _, none⟩) (blk_ne BQ.out BT.out (by decide)) _) (p := ⟨gt, _, none⟩) (blk_ne BQ.out BT.out (by decide)) _) (p := ⟨gt, _, none⟩) (blk_ne BQ.out BT.out (by decide)) _⟩, ⟨OnlyAt.put (OnlyAt.put (OnlyAt.put (OnlyAt.put OA.out _ _) _ _) _ _) _ _⟩⟩

/-! seeker.from -/
set_option maxHeartbeats 8000000 in
set_option maxRecDepth 100000 in
theorem bfrom.calls (k : Nat) (w0 w : World) (gb gt : Nat) (A : Option Addr) (c1 : Nat) (l : List S47) (T T' : List TL) (wd tol a : Int)
  (hr : Kd.C k47 w0 A l.length l) (hc : l.length ≤ c1) (hB : Below w0.heap.size w0 w) (hgt : w0.heap.size ≤ gt) (hk : w.heap[gb]? = some (.cells #[.slice A l.length c1, .int .i64 wd, .int .i64 tol, .slice (some ⟨gt, 0, none⟩) (l.length + 1) (l.length + 1)] 56 (0, 0))) (ht : w.heap[gt]? = some (.cells (encT T) 60 (0, 0))) (hT : T.length = 4 * (l.length + 1))
  (h : bfrom.f k l wd tol a T = some T') :
  Calls Try.prog 25 #[.pointer (some ⟨gb, 0, none⟩), .int .i64 a] w fun e w' => e = .returned (.tuple #[]) ∧ w'.heap[gt]? = some (.cells (encT T') 60 (0, 0)) ∧ OnlyAt gt w w' := by
 have hu22 := Try.underlying22
 have hu45 := Try.underlying45
 have hu47 := Try.underlying47
 have hu54 := Try.underlying54
 have hu56 := Try.underlying56
 have hu59 := Try.underlying59
 have hu60 := Try.underlying60
 have hu70 := Try.underlying70
 have hu73 := Try.underlying73
 have hu75 := Try.underlying75
 have HR := a_ hr
 have HC := a_ hc
 have BK := a_ hk
 have BT := a_ ht
 have HT := a_ hT
 have HW := a_ hB
 have HGT := a_ hgt
 have HB := a_ (Below.refl w.heap.size w)
 clear hr hc hk ht hT hB hgt
 obtain ⟨b0, hst, h⟩ := Option.bind_eq_some_iff.mp (show ((demerit_Start.f k l a).bind fun b => bfrom.l k l wd tol a T SM0 b) = some T' from h)
 have HST := a_ hst
 have H' := a_ h
 clear hst h
 have LN := a_ (HR.out.2.1)
 go_enter Try.func25, Try.ntmps25
 go_wp2_with (first | ((with_reducible refine gate_dst (N := 4) rfl ?_); (try (refine gate_guard (by rfl) ?_; dsimp only)); refine box_event ?hg (N := 4) ?hd (cs := #[.int .i64 0, .int .i64 0, .int .i64 0, .int .i64 0, .int .i64 0, .int .i64 0, .int .i64 0, .int .i64 0, .int .i64 0, .int .i64 0, .int .i64 0, .int .i64 0, .int .i64 0, .int .i64 0, .int .i64 0, .int .i64 0]) (t := 75) ?hr ?_; (case hd => rfl); (case hg => rfl); (case hr => first | (go_simp; done) | (go_simp; rfl)); intro gs hg w1 hbox hb; have n0_ := a_ (bs_ HB.out hb); have BS := a_ hbox; have GEgs := a_ ((by rw [hg]; exact (below_size (bv_ HB.out)) : w.heap.size ≤ gs)); have m0_ := a_ (blk_below (kv_ BK.out) hb); have NEBK_gs := a_ ((by rw [hg]; exact Nat.ne_of_lt (blk_lt (kv_ BK.out)) : gb ≠ gs)); have m1_ := a_ (blk_below (kv_ BT.out) hb); have NEBT_gs := a_ ((by rw [hg]; exact Nat.ne_of_lt (blk_lt (kv_ BT.out)) : gt ≠ gs)); clear HB BK BT; have HB := n0_; have BK := m0_; have BT := m1_; clear n0_ m0_ m1_; clear hb hbox hg; have hk_0 : w1.cell? ⟨gb, 0, none⟩ = some (.slice A l.length c1) := (blk_cell BK.out 0).trans rfl) | (go_at_call 34; refine (demerit_Start.calls k A c1 l a b0 w1 (Kd.C_below HR.out (below_then HW.out HW.out.size HB.out)) HC.out HST.out).mono ?_; rintro e w2 ⟨rfl, hb⟩; have BK2 := a_ (blk_below BK.out hb); have BT2 := a_ (blk_below BT.out hb); have BS2 := a_ (blk_below BS.out hb); have OA2 := a_ (OnlyAt.below (g := gt) (below_step HB.out hb)); clear hb))
 clear BK BT BS HB hk_0
 go_loopg [5] k (fun kq v5 w' => ∃ (b : Int) (T1 : List TL) (s : SM), v5 = .int .i64 b ∧ Aside0 (bfrom.l kq l wd tol a T1 s b = some T') ∧ Aside0 (kq ≤ k) ∧ Aside0 (T1.length = T.length) ∧ Aside0 (w'.heap[gb]? = some (.cells #[.slice A l.length c1, .int .i64 wd, .int .i64 tol, .slice (some ⟨gt, 0, none⟩) (l.length + 1) (l.length + 1)] 56 (0, 0))) ∧ Aside0 (w'.heap[gt]? = some (.cells (encT T1) 60 (0, 0))) ∧ Aside0 (w'.heap[gs]? = some (.cells s.cells 75 (0, 0))) ∧ Aside0 (OnlyAt gt w w'))
 case atStart => exact ⟨b0, T, SM0, rfl, H', ⟨Nat.le_refl _⟩, ⟨rfl⟩, BK2, BT2, BS2, OA2⟩
 case round =>
  clear H' BK2 BT2 BS2 OA2
  obtain ⟨b, T1, s, rfl, HA, HK1, HT1, BK, BT, BS, OA⟩ := hrel
  cases gk with
  | zero => exact absurd HA.out (by simp [bfrom.l])
  | succ k1 =>
   have h := HA.out
   clear HA
   simp only [bfrom.l] at h
   have hk_0 : wr.cell? ⟨gb, 0, none⟩ = some (.slice A l.length c1) := (blk_cell BK.out 0).trans rfl
   by_cases b1 : b < (l.length : Int)
   rotate_left
   ·rw [if_neg b1] at h
    obtain rfl := Option.some.inj h
    have b1b := decide_eq_false b1
    clear h b1
    go_wp2
    go_end0
    exact ⟨rfl, BT.out, OA.out⟩
   rw [if_pos b1] at h
   by_cases bp : 0 ≤ b
   rotate_left
   ·rw [if_neg bp] at h; exact absurd h (by simp)
   rw [if_pos bp] at h
   obtain ⟨T2, htry, h⟩ := Option.bind_eq_some_iff.mp h
   obtain ⟨z, hz, h⟩ := Option.bind_eq_some_iff.mp h
   have HTRY := a_ htry
   have HZ := a_ hz
   have H' := a_ h
   have HT2 := a_ (show T2.length = T.length by rw [bfrom.len htry]; exact HT1.out)
   have B1P := a_ b1
   have BPP := a_ bp
   clear htry hz h
   have b1b := decide_eq_true b1
   replace b1 := eq_true b1
   replace bp := eq_true bp
   have HWR := a_ (OnlyAt.base OA.out HW.out HW.out.size HGT.out)
   obtain ⟨hxad, hxe, hx0, hx1, hx2, hx3, hx4, hx5, hx6, hx7, hx8⟩ := at_T47 HR.out b BPP.out B1P.out
   cases hxe
   replace hx0 := (HWR.out.cell (World.block_lt_of_cell? w0 _ hx0)).trans hx0
   replace hx1 := (HWR.out.cell (World.block_lt_of_cell? w0 _ hx1)).trans hx1
   replace hx2 := (HWR.out.cell (World.block_lt_of_cell? w0 _ hx2)).trans hx2
   replace hx3 := (HWR.out.cell (World.block_lt_of_cell? w0 _ hx3)).trans hx3
   replace hx4 := (HWR.out.cell (World.block_lt_of_cell? w0 _ hx4)).trans hx4
   replace hx5 := (HWR.out.cell (World.block_lt_of_cell? w0 _ hx5)).trans hx5
   replace hx6 := (HWR.out.cell (World.block_lt_of_cell? w0 _ hx6)).trans hx6
   replace hx7 := (HWR.out.cell (World.block_lt_of_cell? w0 _ hx7)).trans hx7
   replace hx8 := (HWR.out.cell (World.block_lt_of_cell? w0 _ hx8)).trans hx8
   go_upto_region 5 with ((with_reducible refine gate_dst (N := 6) rfl ?_); (try (refine gate_guard (by rfl) ?_; dsimp only)); refine box_event ?hg (N := 6) ?hd (cs := #[.int .i64 0, .int .i64 0, .int .i64 0, .int .i64 0, .int .i64 0, .int .i64 0, .bool false, .int .i64 0, .int .i64 0]) (t := 47) ?hr ?_; (case hd => rfl); (case hg => rfl); (case hr => first | (go_simp; done) | (go_simp; rfl)); intro gx hg w3 hbox hb; have n0_ := a_ (OnlyAt.then_ OA.out hb); have BX := a_ hbox; have GEgx := a_ ((by rw [hg]; exact (OA.out.size) : w.heap.size ≤ gx)); have m0_ := a_ (blk_below (kv_ BK.out) hb); have NEBK_gx := a_ ((by rw [hg]; exact Nat.ne_of_lt (blk_lt (kv_ BK.out)) : gb ≠ gx)); have m1_ := a_ (blk_below (kv_ BT.out) hb); have NEBT_gx := a_ ((by rw [hg]; exact Nat.ne_of_lt (blk_lt (kv_ BT.out)) : gt ≠ gx)); have m2_ := a_ (blk_below (kv_ BS.out) hb); have NEBS_gx := a_ ((by rw [hg]; exact Nat.ne_of_lt (blk_lt (kv_ BS.out)) : gs ≠ gx)); clear OA BK BT BS; have OA := n0_; have BK := m0_; have BT := m1_; have BS := m2_; clear n0_ m0_ m1_ m2_; clear hb hbox hg; have hz_0 : w3.cell? ⟨gx, 0, none⟩ = some (.int .i64 0) := (blk_cell BX.out 0).trans rfl; have hz_1 : w3.cell? ⟨gx, 1, none⟩ = some (.int .i64 0) := (blk_cell BX.out 1).trans rfl; have hz_2 : w3.cell? ⟨gx, 2, none⟩ = some (.int .i64 0) := (blk_cell BX.out 2).trans rfl; have hz_3 : w3.cell? ⟨gx, 3, none⟩ = some (.int .i64 0) := (blk_cell BX.out 3).trans rfl; have hz_4 : w3.cell? ⟨gx, 4, none⟩ = some (.int .i64 0) := (blk_cell BX.out 4).trans rfl; have hz_5 : w3.cell? ⟨gx, 5, none⟩ = some (.int .i64 0) := (blk_cell BX.out 5).trans rfl; have hz_6 : w3.cell? ⟨gx, 6, none⟩ = some (.bool false) := (blk_cell BX.out 6).trans rfl; have hz_7 : w3.cell? ⟨gx, 7, none⟩ = some (.int .i64 0) := (blk_cell BX.out 7).trans rfl; have hz_8 : w3.cell? ⟨gx, 8, none⟩ = some (.int .i64 0) := (blk_cell BX.out 8).trans rfl; have hzf_0 := blk_frozen BX.out 0; have hzf_1 := blk_frozen BX.out 1; have hzf_2 := blk_frozen BX.out 2; have hzf_3 := blk_frozen BX.out 3; have hzf_4 := blk_frozen BX.out 4; have hzf_5 := blk_frozen BX.out 5; have hzf_6 := blk_frozen BX.out 6; have hzf_7 := blk_frozen BX.out 7; have hzf_8 := blk_frozen BX.out 8)
   obtain ⟨w4, hw4⟩ : ∃ w4, w4 = (((((((((w3.setCell ⟨gx, 0, none⟩ (.int .i64 (rd_T47 l b).f0)).setCell ⟨gx, 1, none⟩ (.int .i64 (rd_T47 l b).f1.f0)).setCell ⟨gx, 2, none⟩ (.int .i64 (rd_T47 l b).f1.f1)).setCell ⟨gx, 3, none⟩ (.int .i64 (rd_T47 l b).f1.f2)).setCell ⟨gx, 4, none⟩ (.int .i64 (rd_T47 l b).f1.f3)).setCell ⟨gx, 5, none⟩ (.int .i64 (rd_T47 l b).f2)).setCell ⟨gx, 6, none⟩ (.bool (rd_T47 l b).f3)).setCell ⟨gx, 7, none⟩ (.int .i64 (rd_T47 l b).f4)).setCell ⟨gx, 8, none⟩ (.int .i64 (rd_T47 l b).f5)) := ⟨_, rfl⟩
   rw [← hw4]
   have BX4 := a_ (show w4.heap[gx]? = some (.cells #[.int .i64 (rd_T47 l b).f0, .int .i64 (rd_T47 l b).f1.f0, .int .i64 (rd_T47 l b).f1.f1, .int .i64 (rd_T47 l b).f1.f2, .int .i64 (rd_T47 l b).f1.f3, .int .i64 (rd_T47 l b).f2, .bool (rd_T47 l b).f3, .int .i64 (rd_T47 l b).f4, .int .i64 (rd_T47 l b).f5] 47 (0, 0)) by rw [hw4]; exact blk_put (cs := #[.int .i64 (rd_T47 l b).f0, .int .i64 (rd_T47 l b).f1.f0, .int .i64 (rd_T47 l b).f1.f1, .int .i64 (rd_T47 l b).f1.f2, .int .i64 (rd_T47 l b).f1.f3, .int .i64 (rd_T47 l b).f2, .bool (rd_T47 l b).f3, .int .i64 (rd_T47 l b).f4, .int .i64 0]) (blk_put (cs := #[.int .i64 (rd_T47 l b).f0, .int .i64 (rd_T47 l b).f1.f0, .int .i64 (rd_T47 l b).f1.f1, .int .i64 (rd_T47 l b).f1.f2, .int .i64 (rd_T47 l b).f1.f3, .int .i64 (rd_T47 l b).f2, .bool (rd_T47 l b).f3, .int .i64 0, .int .i64 0]) (blk_put (cs := #[.int .i64 (rd_T47 l b).f0, .int .i64 (rd_T47 l b).f1.f0, .int .i64 (rd_T47 l b).f1.f1, .int .i64 (rd_T47 l b).f1.f2, .int .i64 (rd_T47 l b).f1.f3, .int .i64 (rd_T47 l b).f2, .bool false, .int .i64 0, .int .i64 0]) (blk_put (cs := #[.int .i64 (rd_T47 l b).f0, .int .i64 (rd_T47 l b).f1.f0, .int .i64 (rd_T47 l b).f1.f1, .int .i64 (rd_T47 l b).f1.f2, .int .i64 (rd_T47 l b).f1.f3, .int .i64 0, .bool false, .int .i64 0, .int .i64 0]) (blk_put (cs := #[.int .i64 (rd_T47 l b).f0, .int .i64 (rd_T47 l b).f1.f0, .int .i64 (rd_T47 l b).f1.f1, .int .i64 (rd_T47 l b).f1.f2, .int .i64 0, .int .i64 0, .bool false, .int .i64 0, .int .i64 0]) (blk_put (cs := #[.int .i64 (rd_T47 l b).f0, .int .i64 (rd_T47 l b).f1.f0, .int .i64 (rd_T47 l b).f1.f1, .int .i64 0, .int .i64 0, .int .i64 0, .bool false, .int .i64 0, .int .i64 0]) (blk_put (cs := #[.int .i64 (rd_T47 l b).f0, .int .i64 (rd_T47 l b).f1.f0, .int .i64 0, .int .i64 0, .int .i64 0, .int .i64 0, .bool false, .int .i64 0, .int .i64 0]) (blk_put (cs := #[.int .i64 (rd_T47 l b).f0, .int .i64 0, .int .i64 0, .int .i64 0, .int .i64 0, .int .i64 0, .bool false, .int .i64 0, .int .i64 0]) (blk_put (cs := #[.int .i64 0, .int .i64 0, .int .i64 0, .int .i64 0, .int .i64 0, .int .i64 0, .bool false, .int .i64 0, .int .i64 0]) (BX.out) 0 _ rfl) 1 _ rfl) 2 _ rfl) 3 _ rfl) 4 _ rfl) 5 _ rfl) 6 _ rfl) 7 _ rfl) 8 _ rfl)
   have BK4 := a_ (show w4.heap[gb]? = some (.cells #[.slice (some hxad) l.length c1, .int .i64 wd, .int .i64 tol, .slice (some ⟨gt, 0, none⟩) (l.length + 1) (l.length + 1)] 56 (0, 0)) by rw [hw4]; exact blk_far (blk_far (blk_far (blk_far (blk_far (blk_far (blk_far (blk_far (blk_far (BK.out) (p := ⟨gx, 0, none⟩) NEBK_gx.out _) (p := ⟨gx, 1, none⟩) NEBK_gx.out _) (p := ⟨gx, 2, none⟩) NEBK_gx.out _) (p := ⟨gx, 3, none⟩) NEBK_gx.out _) (p := ⟨gx, 4, none⟩) NEBK_gx.out _) (p := ⟨gx, 5, none⟩) NEBK_gx.out _) (p := ⟨gx, 6, none⟩) NEBK_gx.out _) (p := ⟨gx, 7, none⟩) NEBK_gx.out _) (p := ⟨gx, 8, none⟩) NEBK_gx.out _)
   have BT4 := a_ (show w4.heap[gt]? = some (.cells (encT T1) 60 (0, 0)) by rw [hw4]; exact blk_far (blk_far (blk_far (blk_far (blk_far (blk_far (blk_far (blk_far (blk_far (BT.out) (p := ⟨gx, 0, none⟩) NEBT_gx.out _) (p := ⟨gx, 1, none⟩) NEBT_gx.out _) (p := ⟨gx, 2, none⟩) NEBT_gx.out _) (p := ⟨gx, 3, none⟩) NEBT_gx.out _) (p := ⟨gx, 4, none⟩) NEBT_gx.out _) (p := ⟨gx, 5, none⟩) NEBT_gx.out _) (p := ⟨gx, 6, none⟩) NEBT_gx.out _) (p := ⟨gx, 7, none⟩) NEBT_gx.out _) (p := ⟨gx, 8, none⟩) NEBT_gx.out _)
   have BS4 := a_ (show w4.heap[gs]? = some (.cells s.cells 75 (0, 0)) by rw [hw4]; exact blk_far (blk_far (blk_far (blk_far (blk_far (blk_far (blk_far (blk_far (blk_far (BS.out) (p := ⟨gx, 0, none⟩) NEBS_gx.out _) (p := ⟨gx, 1, none⟩) NEBS_gx.out _) (p := ⟨gx, 2, none⟩) NEBS_gx.out _) (p := ⟨gx, 3, none⟩) NEBS_gx.out _) (p := ⟨gx, 4, none⟩) NEBS_gx.out _) (p := ⟨gx, 5, none⟩) NEBS_gx.out _) (p := ⟨gx, 6, none⟩) NEBS_gx.out _) (p := ⟨gx, 7, none⟩) NEBS_gx.out _) (p := ⟨gx, 8, none⟩) NEBS_gx.out _)
   have OA4 := a_ (show OnlyAt gt w w4 by rw [hw4]; exact OnlyAt.aside (OnlyAt.aside (OnlyAt.aside (OnlyAt.aside (OnlyAt.aside (OnlyAt.aside (OnlyAt.aside (OnlyAt.aside (OnlyAt.aside (OA.out) GEgx.out _ _) GEgx.out _ _) GEgx.out _ _) GEgx.out _ _) GEgx.out _ _) GEgx.out _ _) GEgx.out _ _) GEgx.out _ _) GEgx.out _ _)
   clear hw4 BX BK BT BS OA HWR hk_0 hx0 hx1 hx2 hx3 hx4 hx5 hx6 hx7 hx8 hz_0 hzf_0 hz_1 hzf_1 hz_2 hzf_2 hz_3 hzf_3 hz_4 hzf_4 hz_5 hzf_5 hz_6 hzf_6 hz_7 hzf_7 hz_8 hzf_8
   have BX := BX4
   have BK := BK4
   have BT := BT4
   have BS := BS4
   have OA := OA4
   clear BX4 BK4 BT4 BS4 OA4
   obtain ⟨t, hl1, htry⟩ := Option.bind_eq_some_iff.mp (show ((demerit_Legal.f k1 l b).bind fun t => if t = true then (if b > a then ((bset.f k1 s (rd_T47 l b) wd).bind fun y => if y.2.2.2.2 = true then (if y.2.2.2.1 ≤ mn tol 10000 then bopt.f l T1 a b y.1 y.2.1 y.2.2.1 y.2.2.2.1 else some T1) else some T1) else some T1) else some T1) = some T2 from HTRY.out)
   have HLE := a_ hl1
   have HTR := a_ htry
   clear hl1 htry HTRY
   obtain ⟨q, hq⟩ : ∃ q : Bool, (t && decide (a < b)) = q := ⟨_, rfl⟩
   have HQ := a_ hq
   clear hq
   go_cut [41] (fun v41 wc => v41 = .bool q ∧ Aside0 (wc.heap[gb]? = some (.cells #[.slice (some hxad) l.length c1, .int .i64 wd, .int .i64 tol, .slice (some ⟨gt, 0, none⟩) (l.length + 1) (l.length + 1)] 56 (0, 0))) ∧ Aside0 (wc.heap[gt]? = some (.cells (encT T1) 60 (0, 0))) ∧ Aside0 (wc.heap[gs]? = some (.cells s.cells 75 (0, 0))) ∧ Aside0 (wc.heap[gx]? = some (.cells #[.int .i64 (rd_T47 l b).f0, .int .i64 (rd_T47 l b).f1.f0, .int .i64 (rd_T47 l b).f1.f1, .int .i64 (rd_T47 l b).f1.f2, .int .i64 (rd_T47 l b).f1.f3, .int .i64 (rd_T47 l b).f2, .bool (rd_T47 l b).f3, .int .i64 (rd_T47 l b).f4, .int .i64 (rd_T47 l b).f5] 47 (0, 0))) ∧ Aside0 (OnlyAt gt w wc))
   case first =>
    have HW4 := a_ (OnlyAt.base OA.out HW.out HW.out.size HGT.out)
    have hk_0 : w4.cell? ⟨gb, 0, none⟩ = some (.slice (some hxad) l.length c1) := (blk_cell BK.out 0).trans rfl
    cases t with
    | false =>
     obtain rfl : q = false := HQ.out.symm
     go_wp2_with (go_at_call 24; refine (demerit_Legal.calls k1 (some hxad) c1 l b false w4 (Kd.C_below HR.out HW4.out) HC.out HLE.out).mono ?_; rintro e w5 ⟨rfl, ⟨nd, rfl⟩⟩)
     go_meet
     case rel => exact ⟨rfl, ⟨kv_ BK.out⟩, ⟨kv_ BT.out⟩, ⟨kv_ BS.out⟩, ⟨kv_ BX.out⟩, ⟨by (with_reducible repeat (first | refine OnlyAt.drewN ?_ _ | refine OnlyAt.drew ?_ | refine OnlyAt.alloc ?_ _)); exact OA.out⟩⟩
    | true =>
     by_cases ab : a < b
     ·obtain rfl : q = true := by rw [← HQ.out, decide_eq_true ab]; rfl
      have abb := decide_eq_true ab
      clear ab
      go_wp2_with (go_at_call 24; refine (demerit_Legal.calls k1 (some hxad) c1 l b true w4 (Kd.C_below HR.out HW4.out) HC.out HLE.out).mono ?_; rintro e w5 ⟨rfl, ⟨nd, rfl⟩⟩)
      go_meet
      case rel => exact ⟨rfl, ⟨kv_ BK.out⟩, ⟨kv_ BT.out⟩, ⟨kv_ BS.out⟩, ⟨kv_ BX.out⟩, ⟨by (with_reducible repeat (first | refine OnlyAt.drewN ?_ _ | refine OnlyAt.drew ?_ | refine OnlyAt.alloc ?_ _)); exact OA.out⟩⟩
     ·obtain rfl : q = false := by rw [← HQ.out, decide_eq_false ab]; rfl
      have abb := decide_eq_false ab
      clear ab
      go_wp2_with (go_at_call 24; refine (demerit_Legal.calls k1 (some hxad) c1 l b true w4 (Kd.C_below HR.out HW4.out) HC.out HLE.out).mono ?_; rintro e w5 ⟨rfl, ⟨nd, rfl⟩⟩)
      go_meet
      case rel => exact ⟨rfl, ⟨kv_ BK.out⟩, ⟨kv_ BT.out⟩, ⟨kv_ BS.out⟩, ⟨kv_ BX.out⟩, ⟨by (with_reducible repeat (first | refine OnlyAt.drewN ?_ _ | refine OnlyAt.drew ?_ | refine OnlyAt.alloc ?_ _)); exact OA.out⟩⟩
   case rest =>
    clear BK BT BS BX OA
    obtain ⟨rfl, BK, BT, BS, BX, OA⟩ := hcut
    go_upto_if 41 with (fail)
    go_cut [] (fun wc => Aside0 (wc.heap[gb]? = some (.cells #[.slice (some hxad) l.length c1, .int .i64 wd, .int .i64 tol, .slice (some ⟨gt, 0, none⟩) (l.length + 1) (l.length + 1)] 56 (0, 0))) ∧ Aside0 (wc.heap[gt]? = some (.cells (encT T2) 60 (0, 0))) ∧ Aside0 (wc.heap[gs]? = some (.cells s.cells 75 (0, 0))) ∧ Aside0 (wc.heap[gx]? = some (.cells #[.int .i64 (rd_T47 l b).f0, .int .i64 (rd_T47 l b).f1.f0, .int .i64 (rd_T47 l b).f1.f1, .int .i64 (rd_T47 l b).f1.f2, .int .i64 (rd_T47 l b).f1.f3, .int .i64 (rd_T47 l b).f2, .bool (rd_T47 l b).f3, .int .i64 (rd_T47 l b).f4, .int .i64 (rd_T47 l b).f5] 47 (0, 0))) ∧ Aside0 (OnlyAt gt w wc))
    case first =>
     have htry := HTR.out
     clear HTR
     cases q with
     | false =>
      have e : T2 = T1 := by
       cases t with
       | false => exact (Option.some.inj htry).symm
       | true =>
        have q1 : ¬ a < b := of_decide_eq_false (by have := HQ.out; simpa using this)
        rw [if_pos rfl, if_neg (show ¬ b > a from q1)] at htry; exact (Option.some.inj htry).symm
      subst e
      clear htry
      go_wp2
      go_meet
      case rel => exact ⟨BK, BT, BS, BX, OA⟩
     | true =>
      obtain ⟨rfl, c2⟩ : t = true ∧ a < b := by have := HQ.out; simpa using this
      rw [if_pos rfl, if_pos (show b > a from c2)] at htry
      obtain ⟨⟨y1, y2, y3, y4, y5⟩, hset, htry⟩ := Option.bind_eq_some_iff.mp htry
      dsimp only at htry
      have HSET := a_ hset
      have HTR := a_ htry
      clear hset htry c2
      have hk_1 : wc.cell? ⟨gb, 1, none⟩ = some (.int .i64 wd) := (blk_cell BK.out 1).trans rfl
      have hx_0 : wc.cell? ⟨gx, 0, none⟩ = some (.int .i64 (rd_T47 l b).f0) := (blk_cell BX.out 0).trans rfl
      have hx_1 : wc.cell? ⟨gx, 1, none⟩ = some (.int .i64 (rd_T47 l b).f1.f0) := (blk_cell BX.out 1).trans rfl
      have hx_2 : wc.cell? ⟨gx, 2, none⟩ = some (.int .i64 (rd_T47 l b).f1.f1) := (blk_cell BX.out 2).trans rfl
      have hx_3 : wc.cell? ⟨gx, 3, none⟩ = some (.int .i64 (rd_T47 l b).f1.f2) := (blk_cell BX.out 3).trans rfl
      have hx_4 : wc.cell? ⟨gx, 4, none⟩ = some (.int .i64 (rd_T47 l b).f1.f3) := (blk_cell BX.out 4).trans rfl
      have hx_5 : wc.cell? ⟨gx, 5, none⟩ = some (.int .i64 (rd_T47 l b).f2) := (blk_cell BX.out 5).trans rfl
      have hx_6 : wc.cell? ⟨gx, 6, none⟩ = some (.bool (rd_T47 l b).f3) := (blk_cell BX.out 6).trans rfl
      have hx_7 : wc.cell? ⟨gx, 7, none⟩ = some (.int .i64 (rd_T47 l b).f4) := (blk_cell BX.out 7).trans rfl
      have hx_8 : wc.cell? ⟨gx, 8, none⟩ = some (.int .i64 (rd_T47 l b).f5) := (blk_cell BX.out 8).trans rfl
      go_upto_region 6 with (fail)
      go_cut [7, 8] (fun v7 v8 wc => ∃ gy, v7 = .pointer (some ⟨gy, 0, none⟩) ∧ v8 = .bool y5 ∧ Aside0 (wc.heap[gy]? = some (.cells #[.int .i64 y1, .int .i64 y2, .int .i64 y3, .int .i64 y4] 70 (0, 0))) ∧ Aside0 (wc.heap[gb]? = some (.cells #[.slice (some hxad) l.length c1, .int .i64 wd, .int .i64 tol, .slice (some ⟨gt, 0, none⟩) (l.length + 1) (l.length + 1)] 56 (0, 0))) ∧ Aside0 (wc.heap[gt]? = some (.cells (encT T1) 60 (0, 0))) ∧ Aside0 (wc.heap[gs]? = some (.cells s.cells 75 (0, 0))) ∧ Aside0 (wc.heap[gx]? = some (.cells #[.int .i64 (rd_T47 l b).f0, .int .i64 (rd_T47 l b).f1.f0, .int .i64 (rd_T47 l b).f1.f1, .int .i64 (rd_T47 l b).f1.f2, .int .i64 (rd_T47 l b).f1.f3, .int .i64 (rd_T47 l b).f2, .bool (rd_T47 l b).f3, .int .i64 (rd_T47 l b).f4, .int .i64 (rd_T47 l b).f5] 47 (0, 0))) ∧ Aside0 (OnlyAt gt w wc))
      case first =>
       have nBK := a_ (blk_drew BK.out)
       have nBT := a_ (blk_drew BT.out)
       have nBS := a_ (blk_drew BS.out)
       have nBX := a_ (blk_drew BX.out)
       have nOA := a_ (OnlyAt.drew OA.out)
       clear BK BT BS BX OA hk_1 hx_0 hx_1 hx_2 hx_3 hx_4 hx_5 hx_6 hx_7 hx_8
       have BK := nBK
       have BT := nBT
       have BS := nBS
       have BX := nBX
       have OA := nOA
       clear nBK nBT nBS nBX nOA
       refine start_ (n := 12) (S := fun w' => w'.cell? ⟨gx, 0, none⟩ = some (.int .i64 (rd_T47 l b).f0) ∧ w'.cell? ⟨gx, 1, none⟩ = some (.int .i64 (rd_T47 l b).f1.f0) ∧ w'.cell? ⟨gx, 2, none⟩ = some (.int .i64 (rd_T47 l b).f1.f1) ∧ w'.cell? ⟨gx, 3, none⟩ = some (.int .i64 (rd_T47 l b).f1.f2) ∧ w'.cell? ⟨gx, 4, none⟩ = some (.int .i64 (rd_T47 l b).f1.f3) ∧ w'.cell? ⟨gx, 5, none⟩ = some (.int .i64 (rd_T47 l b).f2) ∧ w'.cell? ⟨gx, 6, none⟩ = some (.bool (rd_T47 l b).f3) ∧ w'.cell? ⟨gx, 7, none⟩ = some (.int .i64 (rd_T47 l b).f4) ∧ w'.cell? ⟨gx, 8, none⟩ = some (.int .i64 (rd_T47 l b).f5) ∧ w'.cell? ⟨gb, 1, none⟩ = some (.int .i64 wd)) (ds := []) #[false, false, false, false, false, false, false, false, false, false, false, false] (by kernel_rfl) rfl rfl ⟨(blk_cell BX.out 0).trans rfl, (blk_cell BX.out 1).trans rfl, (blk_cell BX.out 2).trans rfl, (blk_cell BX.out 3).trans rfl, (blk_cell BX.out 4).trans rfl, (blk_cell BX.out 5).trans rfl, (blk_cell BX.out 6).trans rfl, (blk_cell BX.out 7).trans rfl, (blk_cell BX.out 8).trans rfl, (blk_cell BK.out 1).trans rfl⟩ (fun hHeld => ?_)
       generalize wc.drew = w5 at BK BT BS BX OA hHeld ⊢
       refine take_ (i := 0) (N := some 43) (v := ?_) (a' := ?_) #[true, false, false, false, false, false, false, false, false, false, false, false] rfl rfl (by kernel_rfl) (fun _ _ _ h => h) (Or.inl ⟨by rfl, ?_⟩) hHeld ?_ ?_
       rotate_left
       ·rintro w' ⟨s0, s1, s2, s3, s4, s5, s6, s7, s8, s9⟩
        go_simp
        with_reducible rfl
       rotate_left
       ·simp only [Act.put, List.setIfInBounds_toArray, List.set_cons_zero, List.set_cons_succ, i64_w, i32_w]
        rfl
       refine pure_ (i := 1) (N := some 44) (v := ?_) (a' := ?_) #[true, true, false, false, false, false, false, false, false, false, false, false] rfl rfl (by kernel_rfl) (fun _ _ _ h => h) (Or.inl ⟨by rfl, ?_⟩) ?_ ?_
       rotate_left
       ·intro w'
        go_simp
        with_reducible rfl
       rotate_left
       ·simp only [Act.put, List.setIfInBounds_toArray, List.set_cons_zero, List.set_cons_succ, i64_w, i32_w]
        rfl
       refine pure_ (i := 2) (N := some 45) (v := ?_) (a' := ?_) #[true, true, true, false, false, false, false, false, false, false, false, false] rfl rfl (by kernel_rfl) (fun _ _ _ h => h) (Or.inl ⟨by rfl, ?_⟩) ?_ ?_
       rotate_left
       ·intro w'
        go_simp
        with_reducible rfl
       rotate_left
       ·simp only [Act.put, List.setIfInBounds_toArray, List.set_cons_zero, List.set_cons_succ, i64_w, i32_w]
        rfl
       refine pure_ (i := 3) (N := some 46) (v := ?_) (a' := ?_) #[true, true, true, true, false, false, false, false, false, false, false, false] rfl rfl (by kernel_rfl) (fun _ _ _ h => h) (Or.inl ⟨by rfl, ?_⟩) ?_ ?_
       rotate_left
       ·intro w'
        go_simp
        with_reducible rfl
       rotate_left
       ·simp only [Act.put, List.setIfInBounds_toArray, List.set_cons_zero, List.set_cons_succ, i64_w, i32_w]
        rfl
       refine take_ (i := 4) (N := some 47) (v := ?_) (a' := ?_) #[true, true, true, true, true, false, false, false, false, false, false, false] rfl rfl (by kernel_rfl) (fun _ _ _ h => h) (Or.inl ⟨by rfl, ?_⟩) hHeld ?_ ?_
       rotate_left
       ·rintro w' ⟨s0, s1, s2, s3, s4, s5, s6, s7, s8, s9⟩
        go_simp
        with_reducible rfl
       rotate_left
       ·simp only [Act.put, List.setIfInBounds_toArray, List.set_cons_zero, List.set_cons_succ, i64_w, i32_w]
        rfl
       refine two_ (i := 5) (j := 9) (Ni := some 48) (Nj := some 7) #[true, true, true, true, true, true, false, false, false, false, false, false] #[true, true, true, true, true, false, false, false, false, true, false, false] rfl rfl rfl rfl (by kernel_rfl) (by decide) (by decide) (fun K hK => ?_) (fun K hK => ?_)
       ·refine goes_ Try.func35 (by kernel_rfl) rfl #[.pointer (some ⟨gs, 0, none⟩), .agg #[.int .i64 (rd_T47 l b).f0, .int .i64 (rd_T47 l b).f1.f0, .int .i64 (rd_T47 l b).f1.f1, .int .i64 (rd_T47 l b).f1.f2, .int .i64 (rd_T47 l b).f1.f3, .int .i64 (rd_T47 l b).f2, .bool (rd_T47 l b).f3, .int .i64 (rd_T47 l b).f4, .int .i64 (rd_T47 l b).f5], .int .i64 wd] (by rfl) rfl rfl (by (try simp only [List.map_toArray, List.map_cons, List.map_nil]); first | done | rfl) ?_
        refine (bset.calls k1 _ gs s (rd_T47 l b) wd y1 y2 y3 y4 y5 BS.out HSET.out).mono ?_
        rintro e w6 ⟨rfl, hb⟩
        refine ⟨_, rfl, ?_⟩
        have nBK := a_ (blk_below (kv_ BK.out) hb); have nBT := a_ (blk_below (kv_ BT.out) hb); have nBS := a_ (blk_below (kv_ BS.out) hb); have nBX := a_ (blk_below (kv_ BX.out) hb); have nOA := a_ (OnlyAt.then_ (by (with_reducible repeat (first | refine OnlyAt.drewN ?_ _ | refine OnlyAt.drew ?_ | refine OnlyAt.alloc ?_ _)); exact OA.out) hb); clear BK BT BS BX OA; have BK := nBK; have BT := nBT; have BS := nBS; have BX := nBX; have OA := nOA; clear nBK nBT nBS nBX nOA
        clear hb
        refine hK.out _ _ ⟨(blk_cell BX.out 0).trans rfl, (blk_cell BX.out 1).trans rfl, (blk_cell BX.out 2).trans rfl, (blk_cell BX.out 3).trans rfl, (blk_cell BX.out 4).trans rfl, (blk_cell BX.out 5).trans rfl, (blk_cell BX.out 6).trans rfl, (blk_cell BX.out 7).trans rfl, (blk_cell BX.out 8).trans rfl, (blk_cell BK.out 1).trans rfl⟩ (fun hHeld => ?_)
        clear hK K
        refine norm_ (a' := ?_) ?_ ?_
        rotate_left
        ·show Act.put _ (some 48) _ = _
         simp only [Act.put, List.setIfInBounds_toArray, List.set_cons_zero, List.set_cons_succ, i64_w, i32_w]
         rfl
        refine pure_ (i := 6) (N := some 42) (v := ?_) (a' := ?_) #[true, true, true, true, true, true, true, false, false, false, false, false] rfl rfl (by kernel_rfl) (fun _ _ _ h => h) (Or.inl ⟨by rfl, ?_⟩) ?_ ?_
        rotate_left
        ·intro w'
         go_simp
         with_reducible rfl
        rotate_left
        ·simp only [Act.put, List.setIfInBounds_toArray, List.set_cons_zero, List.set_cons_succ, i64_w, i32_w]
         rfl
        refine pure_ (i := 7) (N := some 49) (v := ?_) (a' := ?_) #[true, true, true, true, true, true, true, true, false, false, false, false] rfl rfl (by kernel_rfl) (fun _ _ _ h => h) (Or.inl ⟨by rfl, ?_⟩) ?_ ?_
        rotate_left
        ·intro w'
         go_simp
         with_reducible rfl
        rotate_left
        ·simp only [Act.put, List.setIfInBounds_toArray, List.set_cons_zero, List.set_cons_succ, i64_w, i32_w]
         rfl
        refine pure_ (i := 8) (N := some 50) (v := ?_) (a' := ?_) #[true, true, true, true, true, true, true, true, true, false, false, false] rfl rfl (by kernel_rfl) (fun _ _ _ h => h) (Or.inl ⟨by rfl, ?_⟩) ?_ ?_
        rotate_left
        ·intro w'
         go_simp
         with_reducible rfl
        rotate_left
        ·simp only [Act.put, List.setIfInBounds_toArray, List.set_cons_zero, List.set_cons_succ, i64_w, i32_w]
         rfl
        refine one_ (i := 9) (N := some 7) #[true, true, true, true, true, true, true, true, true, true, false, false] rfl rfl (by kernel_rfl) (by decide) (fun K hK => ?_)
        refine box_step ?hg (N := 7) ?hd (cs := #[.int .i64 0, .int .i64 0, .int .i64 0, .int .i64 0]) (t := 70) ?hr ?_; (case hd => rfl); (case hg => rfl); (case hr => first | (go_simp; done) | (go_simp; rfl))
        intro gy hg w7 hbox hb
        have GY := a_ (show w.heap.size ≤ gy by rw [hg]; exact OA.out.size)
        have BY := a_ hbox
        have nBK := a_ (blk_below (kv_ BK.out) hb); have nBT := a_ (blk_below (kv_ BT.out) hb); have nBS := a_ (blk_below (kv_ BS.out) hb); have nBX := a_ (blk_below (kv_ BX.out) hb); have nOA := a_ (OnlyAt.then_ (by (with_reducible repeat (first | refine OnlyAt.drewN ?_ _ | refine OnlyAt.drew ?_ | refine OnlyAt.alloc ?_ _)); exact OA.out) hb); clear BK BT BS BX OA; have BK := nBK; have BT := nBT; have BS := nBS; have BX := nBX; have OA := nOA; clear nBK nBT nBS nBX nOA
        clear hg hbox hb
        refine hK.out _ _ ⟨(blk_cell BX.out 0).trans rfl, (blk_cell BX.out 1).trans rfl, (blk_cell BX.out 2).trans rfl, (blk_cell BX.out 3).trans rfl, (blk_cell BX.out 4).trans rfl, (blk_cell BX.out 5).trans rfl, (blk_cell BX.out 6).trans rfl, (blk_cell BX.out 7).trans rfl, (blk_cell BX.out 8).trans rfl, (blk_cell BK.out 1).trans rfl⟩ (fun hHeld => ?_)
        clear hK K
        refine norm_ (a' := ?_) ?_ ?_
        rotate_left
        ·show Act.put _ (some 7) _ = _
         simp only [Act.put, List.setIfInBounds_toArray, List.set_cons_zero, List.set_cons_succ, i64_w, i32_w]
         rfl
        generalize w7 = w8 at BK BT BS BX BY OA hHeld ⊢
        refine one_ (i := 10) (N := none) #[true, true, true, true, true, true, true, true, true, true, true, false] rfl rfl (by kernel_rfl) (by decide) (fun K hK => ?_)
        have hy_0 : w8.cell? ⟨gy, 0, none⟩ = some (.int .i64 0) := (blk_cell BY.out 0).trans rfl
        have hyf_0 := blk_frozen BY.out 0
        have hy_1 : w8.cell? ⟨gy, 1, none⟩ = some (.int .i64 0) := (blk_cell BY.out 1).trans rfl
        have hyf_1 := blk_frozen BY.out 1
        have hy_2 : w8.cell? ⟨gy, 2, none⟩ = some (.int .i64 0) := (blk_cell BY.out 2).trans rfl
        have hyf_2 := blk_frozen BY.out 2
        have hy_3 : w8.cell? ⟨gy, 3, none⟩ = some (.int .i64 0) := (blk_cell BY.out 3).trans rfl
        have hyf_3 := blk_frozen BY.out 3
        refine skip_ (w1 := ?_) (by rfl) rfl ?_ ?_
        rotate_left
        ·go_simp
         rfl
        obtain ⟨w9, hw9⟩ : ∃ w9, w9 = ((((w8.setCell ⟨gy, 0, none⟩ (.int .i64 y1)).setCell ⟨gy, 1, none⟩ (.int .i64 y2)).setCell ⟨gy, 2, none⟩ (.int .i64 y3)).setCell ⟨gy, 3, none⟩ (.int .i64 y4)) := ⟨_, rfl⟩
        rw [← hw9]
        have nBY := a_ (show w9.heap[gy]? = some (.cells #[.int .i64 y1, .int .i64 y2, .int .i64 y3, .int .i64 y4] 70 (0, 0)) by rw [hw9]; exact blk_put (cs := #[.int .i64 y1, .int .i64 y2, .int .i64 y3, .int .i64 0]) (blk_put (cs := #[.int .i64 y1, .int .i64 y2, .int .i64 0, .int .i64 0]) (blk_put (cs := #[.int .i64 y1, .int .i64 0, .int .i64 0, .int .i64 0]) (blk_put (cs := #[.int .i64 0, .int .i64 0, .int .i64 0, .int .i64 0]) (BY.out) 0 _ rfl) 1 _ rfl) 2 _ rfl) 3 _ rfl)
        have nBK := a_ (show w9.heap[gb]? = some (.cells #[.slice (some hxad) l.length c1, .int .i64 wd, .int .i64 tol, .slice (some ⟨gt, 0, none⟩) (l.length + 1) (l.length + 1)] 56 (0, 0)) by rw [hw9]; exact blk_far (blk_far (blk_far (blk_far (BK.out) (p := ⟨gy, 0, none⟩) (blk_ne BK.out BY.out (by decide)) _) (p := ⟨gy, 1, none⟩) (blk_ne BK.out BY.out (by decide)) _) (p := ⟨gy, 2, none⟩) (blk_ne BK.out BY.out (by decide)) _) (p := ⟨gy, 3, none⟩) (blk_ne BK.out BY.out (by decide)) _)
        have nBT := a_ (show w9.heap[gt]? = some (.cells (encT T1) 60 (0, 0)) by rw [hw9]; exact blk_far (blk_far (blk_far (blk_far (BT.out) (p := ⟨gy, 0, none⟩) (blk_ne BT.out BY.out (by decide)) _) (p := ⟨gy, 1, none⟩) (blk_ne BT.out BY.out (by decide)) _) (p := ⟨gy, 2, none⟩) (blk_ne BT.out BY.out (by decide)) _) (p := ⟨gy, 3, none⟩) (blk_ne BT.out BY.out (by decide)) _)
        have nBS := a_ (show w9.heap[gs]? = some (.cells s.cells 75 (0, 0)) by rw [hw9]; exact blk_far (blk_far (blk_far (blk_far (BS.out) (p := ⟨gy, 0, none⟩) (blk_ne BS.out BY.out (by decide)) _) (p := ⟨gy, 1, none⟩) (blk_ne BS.out BY.out (by decide)) _) (p := ⟨gy, 2, none⟩) (blk_ne BS.out BY.out (by decide)) _) (p := ⟨gy, 3, none⟩) (blk_ne BS.out BY.out (by decide)) _)
        have nBX := a_ (show w9.heap[gx]? = some (.cells #[.int .i64 (rd_T47 l b).f0, .int .i64 (rd_T47 l b).f1.f0, .int .i64 (rd_T47 l b).f1.f1, .int .i64 (rd_T47 l b).f1.f2, .int .i64 (rd_T47 l b).f1.f3, .int .i64 (rd_T47 l b).f2, .bool (rd_T47 l b).f3, .int .i64 (rd_T47 l b).f4, .int .i64 (rd_T47 l b).f5] 47 (0, 0)) by rw [hw9]; exact blk_far (blk_far (blk_far (blk_far (BX.out) (p := ⟨gy, 0, none⟩) (blk_ne BX.out BY.out (by decide)) _) (p := ⟨gy, 1, none⟩) (blk_ne BX.out BY.out (by decide)) _) (p := ⟨gy, 2, none⟩) (blk_ne BX.out BY.out (by decide)) _) (p := ⟨gy, 3, none⟩) (blk_ne BX.out BY.out (by decide)) _)
        have nOA := a_ (show OnlyAt gt w w9 by rw [hw9]; exact OnlyAt.aside (OnlyAt.aside (OnlyAt.aside (OnlyAt.aside (OA.out) GY.out _ _) GY.out _ _) GY.out _ _) GY.out _ _)
        clear hw9 BY BK BT BS BX OA hy_0 hyf_0 hy_1 hyf_1 hy_2 hyf_2 hy_3 hyf_3
        have BY := nBY
        have BK := nBK
        have BT := nBT
        have BS := nBS
        have BX := nBX
        have OA := nOA
        clear nBY nBK nBT nBS nBX nOA
        refine hK.out _ _ ⟨(blk_cell BX.out 0).trans rfl, (blk_cell BX.out 1).trans rfl, (blk_cell BX.out 2).trans rfl, (blk_cell BX.out 3).trans rfl, (blk_cell BX.out 4).trans rfl, (blk_cell BX.out 5).trans rfl, (blk_cell BX.out 6).trans rfl, (blk_cell BX.out 7).trans rfl, (blk_cell BX.out 8).trans rfl, (blk_cell BK.out 1).trans rfl⟩ (fun hHeld => ?_)
        clear hK K
        refine pure_ (i := 11) (N := some 8) (v := ?_) (a' := ?_) #[true, true, true, true, true, true, true, true, true, true, true, true] rfl rfl (by kernel_rfl) (fun _ _ _ h => h) (Or.inl ⟨by rfl, ?_⟩) ?_ ?_
        rotate_left
        ·intro w'
         go_simp
         with_reducible rfl
        rotate_left
        ·simp only [Act.put, List.setIfInBounds_toArray, List.set_cons_zero, List.set_cons_succ, i64_w, i32_w]
         rfl
        refine done_ (by kernel_rfl) ?_
        (try go_wp2)
        go_meet
        case rel => exact ⟨gy, rfl, rfl, BY, BK, BT, BS, BX, OA⟩
       ·refine box_step ?hg (N := 7) ?hd (cs := #[.int .i64 0, .int .i64 0, .int .i64 0, .int .i64 0]) (t := 70) ?hr ?_; (case hd => rfl); (case hg => rfl); (case hr => first | (go_simp; done) | (go_simp; rfl))
        intro gy hg w7 hbox hb
        have GY := a_ (show w.heap.size ≤ gy by rw [hg]; exact OA.out.size)
        have BY := a_ hbox
        have nBK := a_ (blk_below (kv_ BK.out) hb); have nBT := a_ (blk_below (kv_ BT.out) hb); have nBS := a_ (blk_below (kv_ BS.out) hb); have nBX := a_ (blk_below (kv_ BX.out) hb); have nOA := a_ (OnlyAt.then_ (by (with_reducible repeat (first | refine OnlyAt.drewN ?_ _ | refine OnlyAt.drew ?_ | refine OnlyAt.alloc ?_ _)); exact OA.out) hb); clear BK BT BS BX OA; have BK := nBK; have BT := nBT; have BS := nBS; have BX := nBX; have OA := nOA; clear nBK nBT nBS nBX nOA
        clear hg hbox hb
        refine hK.out _ _ ⟨(blk_cell BX.out 0).trans rfl, (blk_cell BX.out 1).trans rfl, (blk_cell BX.out 2).trans rfl, (blk_cell BX.out 3).trans rfl, (blk_cell BX.out 4).trans rfl, (blk_cell BX.out 5).trans rfl, (blk_cell BX.out 6).trans rfl, (blk_cell BX.out 7).trans rfl, (blk_cell BX.out 8).trans rfl, (blk_cell BK.out 1).trans rfl⟩ (fun hHeld => ?_)
        clear hK K
        refine norm_ (a' := ?_) ?_ ?_
        rotate_left
        ·show Act.put _ (some 7) _ = _
         simp only [Act.put, List.setIfInBounds_toArray, List.set_cons_zero, List.set_cons_succ, i64_w, i32_w]
         rfl
        refine one_ (i := 5) (N := some 48) #[true, true, true, true, true, true, false, false, false, true, false, false] rfl rfl (by kernel_rfl) (by decide) (fun K hK => ?_)
        refine goes_ Try.func35 (by kernel_rfl) rfl #[.pointer (some ⟨gs, 0, none⟩), .agg #[.int .i64 (rd_T47 l b).f0, .int .i64 (rd_T47 l b).f1.f0, .int .i64 (rd_T47 l b).f1.f1, .int .i64 (rd_T47 l b).f1.f2, .int .i64 (rd_T47 l b).f1.f3, .int .i64 (rd_T47 l b).f2, .bool (rd_T47 l b).f3, .int .i64 (rd_T47 l b).f4, .int .i64 (rd_T47 l b).f5], .int .i64 wd] (by rfl) rfl rfl (by (try simp only [List.map_toArray, List.map_cons, List.map_nil]); first | done | rfl) ?_
        refine (bset.calls k1 _ gs s (rd_T47 l b) wd y1 y2 y3 y4 y5 BS.out HSET.out).mono ?_
        rintro e w6 ⟨rfl, hb⟩
        refine ⟨_, rfl, ?_⟩
        have nBK := a_ (blk_below (kv_ BK.out) hb); have nBT := a_ (blk_below (kv_ BT.out) hb); have nBS := a_ (blk_below (kv_ BS.out) hb); have nBX := a_ (blk_below (kv_ BX.out) hb); have nOA := a_ (OnlyAt.then_ (by (with_reducible repeat (first | refine OnlyAt.drewN ?_ _ | refine OnlyAt.drew ?_ | refine OnlyAt.alloc ?_ _)); exact OA.out) hb); have nBY := a_ (blk_below (kv_ BY.out) hb); clear BK BT BS BX OA BY; have BK := nBK; have BT := nBT; have BS := nBS; have BX := nBX; have OA := nOA; have BY := nBY; clear nBK nBT nBS nBX nOA nBY
        clear hb
        refine hK.out _ _ ⟨(blk_cell BX.out 0).trans rfl, (blk_cell BX.out 1).trans rfl, (blk_cell BX.out 2).trans rfl, (blk_cell BX.out 3).trans rfl, (blk_cell BX.out 4).trans rfl, (blk_cell BX.out 5).trans rfl, (blk_cell BX.out 6).trans rfl, (blk_cell BX.out 7).trans rfl, (blk_cell BX.out 8).trans rfl, (blk_cell BK.out 1).trans rfl⟩ (fun hHeld => ?_)
        clear hK K
        refine norm_ (a' := ?_) ?_ ?_
        rotate_left
        ·show Act.put _ (some 48) _ = _
         simp only [Act.put, List.setIfInBounds_toArray, List.set_cons_zero, List.set_cons_succ, i64_w, i32_w]
         rfl
        refine pure_ (i := 6) (N := some 42) (v := ?_) (a' := ?_) #[true, true, true, true, true, true, true, false, false, true, false, false] rfl rfl (by kernel_rfl) (fun _ _ _ h => h) (Or.inl ⟨by rfl, ?_⟩) ?_ ?_
        rotate_left
        ·intro w'
         go_simp
         with_reducible rfl
        rotate_left
        ·simp only [Act.put, List.setIfInBounds_toArray, List.set_cons_zero, List.set_cons_succ, i64_w, i32_w]
         rfl
        refine pure_ (i := 7) (N := some 49) (v := ?_) (a' := ?_) #[true, true, true, true, true, true, true, true, false, true, false, false] rfl rfl (by kernel_rfl) (fun _ _ _ h => h) (Or.inl ⟨by rfl, ?_⟩) ?_ ?_
        rotate_left
        ·intro w'
         go_simp
         with_reducible rfl
        rotate_left
        ·simp only [Act.put, List.setIfInBounds_toArray, List.set_cons_zero, List.set_cons_succ, i64_w, i32_w]
         rfl
        refine pure_ (i := 8) (N := some 50) (v := ?_) (a' := ?_) #[true, true, true, true, true, true, true, true, true, true, false, false] rfl rfl (by kernel_rfl) (fun _ _ _ h => h) (Or.inl ⟨by rfl, ?_⟩) ?_ ?_
        rotate_left
        ·intro w'
         go_simp
         with_reducible rfl
        rotate_left
        ·simp only [Act.put, List.setIfInBounds_toArray, List.set_cons_zero, List.set_cons_succ, i64_w, i32_w]
         rfl
        generalize w6 = w8 at BK BT BS BX BY OA hHeld ⊢
        refine one_ (i := 10) (N := none) #[true, true, true, true, true, true, true, true, true, true, true, false] rfl rfl (by kernel_rfl) (by decide) (fun K hK => ?_)
        have hy_0 : w8.cell? ⟨gy, 0, none⟩ = some (.int .i64 0) := (blk_cell BY.out 0).trans rfl
        have hyf_0 := blk_frozen BY.out 0
        have hy_1 : w8.cell? ⟨gy, 1, none⟩ = some (.int .i64 0) := (blk_cell BY.out 1).trans rfl
        have hyf_1 := blk_frozen BY.out 1
        have hy_2 : w8.cell? ⟨gy, 2, none⟩ = some (.int .i64 0) := (blk_cell BY.out 2).trans rfl
        have hyf_2 := blk_frozen BY.out 2
        have hy_3 : w8.cell? ⟨gy, 3, none⟩ = some (.int .i64 0) := (blk_cell BY.out 3).trans rfl
        have hyf_3 := blk_frozen BY.out 3
        refine skip_ (w1 := ?_) (by rfl) rfl ?_ ?_
        rotate_left
        ·go_simp
         rfl
        obtain ⟨w9, hw9⟩ : ∃ w9, w9 = ((((w8.setCell ⟨gy, 0, none⟩ (.int .i64 y1)).setCell ⟨gy, 1, none⟩ (.int .i64 y2)).setCell ⟨gy, 2, none⟩ (.int .i64 y3)).setCell ⟨gy, 3, none⟩ (.int .i64 y4)) := ⟨_, rfl⟩
        rw [← hw9]
        have nBY := a_ (show w9.heap[gy]? = some (.cells #[.int .i64 y1, .int .i64 y2, .int .i64 y3, .int .i64 y4] 70 (0, 0)) by rw [hw9]; exact blk_put (cs := #[.int .i64 y1, .int .i64 y2, .int .i64 y3, .int .i64 0]) (blk_put (cs := #[.int .i64 y1, .int .i64 y2, .int .i64 0, .int .i64 0]) (blk_put (cs := #[.int .i64 y1, .int .i64 0, .int .i64 0, .int .i64 0]) (blk_put (cs := #[.int .i64 0, .int .i64 0, .int .i64 0, .int .i64 0]) (BY.out) 0 _ rfl) 1 _ rfl) 2 _ rfl) 3 _ rfl)
        have nBK := a_ (show w9.heap[gb]? = some (.cells #[.slice (some hxad) l.length c1, .int .i64 wd, .int .i64 tol, .slice (some ⟨gt, 0, none⟩) (l.length + 1) (l.length + 1)] 56 (0, 0)) by rw [hw9]; exact blk_far (blk_far (blk_far (blk_far (BK.out) (p := ⟨gy, 0, none⟩) (blk_ne BK.out BY.out (by decide)) _) (p := ⟨gy, 1, none⟩) (blk_ne BK.out BY.out (by decide)) _) (p := ⟨gy, 2, none⟩) (blk_ne BK.out BY.out (by decide)) _) (p := ⟨gy, 3, none⟩) (blk_ne BK.out BY.out (by decide)) _)
        have nBT := a_ (show w9.heap[gt]? = some (.cells (encT T1) 60 (0, 0)) by rw [hw9]; exact blk_far (blk_far (blk_far (blk_far (BT.out) (p := ⟨gy, 0, none⟩) (blk_ne BT.out BY.out (by decide)) _) (p := ⟨gy, 1, none⟩) (blk_ne BT.out BY.out (by decide)) _) (p := ⟨gy, 2, none⟩) (blk_ne BT.out BY.out (by decide)) _) (p := ⟨gy, 3, none⟩) (blk_ne BT.out BY.out (by decide)) _)
        have nBS := a_ (show w9.heap[gs]? = some (.cells s.cells 75 (0, 0)) by rw [hw9]; exact blk_far (blk_far (blk_far (blk_far (BS.out) (p := ⟨gy, 0, none⟩) (blk_ne BS.out BY.out (by decide)) _) (p := ⟨gy, 1, none⟩) (blk_ne BS.out BY.out (by decide)) _) (p := ⟨gy, 2, none⟩) (blk_ne BS.out BY.out (by decide)) _) (p := ⟨gy, 3, none⟩) (blk_ne BS.out BY.out (by decide)) _)
        have nBX := a_ (show w9.heap[gx]? = some (.cells #[.int .i64 (rd_T47 l b).f0, .int .i64 (rd_T47 l b).f1.f0, .int .i64 (rd_T47 l b).f1.f1, .int .i64 (rd_T47 l b).f1.f2, .int .i64 (rd_T47 l b).f1.f3, .int .i64 (rd_T47 l b).f2, .bool (rd_T47 l b).f3, .int .i64 (rd_T47 l b).f4, .int .i64 (rd_T47 l b).f5] 47 (0, 0)) by rw [hw9]; exact blk_far (blk_far (blk_far (blk_far (BX.out) (p := ⟨gy, 0, none⟩) (blk_ne BX.out BY.out (by decide)) _) (p := ⟨gy, 1, none⟩) (blk_ne BX.out BY.out (by decide)) _) (p := ⟨gy, 2, none⟩) (blk_ne BX.out BY.out (by decide)) _) (p := ⟨gy, 3, none⟩) (blk_ne BX.out BY.out (by decide)) _)
        have nOA := a_ (show OnlyAt gt w w9 by rw [hw9]; exact OnlyAt.aside (OnlyAt.aside (OnlyAt.aside (OnlyAt.aside (OA.out) GY.out _ _) GY.out _ _) GY.out _ _) GY.out _ _)
        clear hw9 BY BK BT BS BX OA hy_0 hyf_0 hy_1 hyf_1 hy_2 hyf_2 hy_3 hyf_3
        have BY := nBY
        have BK := nBK
        have BT := nBT
        have BS := nBS
        have BX := nBX
        have OA := nOA
        clear nBY nBK nBT nBS nBX nOA
        refine hK.out _ _ ⟨(blk_cell BX.out 0).trans rfl, (blk_cell BX.out 1).trans rfl, (blk_cell BX.out 2).trans rfl, (blk_cell BX.out 3).trans rfl, (blk_cell BX.out 4).trans rfl, (blk_cell BX.out 5).trans rfl, (blk_cell BX.out 6).trans rfl, (blk_cell BX.out 7).trans rfl, (blk_cell BX.out 8).trans rfl, (blk_cell BK.out 1).trans rfl⟩ (fun hHeld => ?_)
        clear hK K
        refine pure_ (i := 11) (N := some 8) (v := ?_) (a' := ?_) #[true, true, true, true, true, true, true, true, true, true, true, true] rfl rfl (by kernel_rfl) (fun _ _ _ h => h) (Or.inl ⟨by rfl, ?_⟩) ?_ ?_
        rotate_left
        ·intro w'
         go_simp
         with_reducible rfl
        rotate_left
        ·simp only [Act.put, List.setIfInBounds_toArray, List.set_cons_zero, List.set_cons_succ, i64_w, i32_w]
         rfl
        refine done_ (by kernel_rfl) ?_
        (try go_wp2)
        go_meet
        case rel => exact ⟨gy, rfl, rfl, BY, BK, BT, BS, BX, OA⟩
      case rest =>
       clear BK BT BS BX OA hk_1 hx_0 hx_1 hx_2 hx_3 hx_4 hx_5 hx_6 hx_7 hx_8
       obtain ⟨gy, rfl, rfl, BY, BK, BT, BS, BX, OA⟩ := hcut
       have htry := HTR.out
       clear HTR
       go_upto_region 7 with (fail)
       cases y5 with
       | false =>
        rw [if_neg (by decide)] at htry
        obtain rfl := Option.some.inj htry
        clear htry
        refine still_start 10 (by kernel_rfl) (by kernel_rfl) ?_
        simp only [List.take_succ_cons, List.take_zero, List.drop_succ_cons, List.drop_zero]
        refine still_on (by rfl) (fun K hK => ?_)
        go_simp
        refine hK _ ?_
        clear hK K
        refine still_on (by rfl) (fun K hK => ?_)
        go_simp
        refine hK _ ?_
        clear hK K
        refine still_off (by rfl) (a' := ?_) ?_ ?_
        rotate_left
        ·simp only [Act.put, List.setIfInBounds_toArray, List.set_cons_zero, List.set_cons_succ]; rfl
        refine still_off (by rfl) (a' := ?_) ?_ ?_
        rotate_left
        ·simp only [Act.put, List.setIfInBounds_toArray, List.set_cons_zero, List.set_cons_succ]; rfl
        refine still_off (by rfl) (a' := ?_) ?_ ?_
        rotate_left
        ·simp only [Act.put, List.setIfInBounds_toArray, List.set_cons_zero, List.set_cons_succ]; rfl
        refine still_off (by rfl) (a' := ?_) ?_ ?_
        rotate_left
        ·simp only [Act.put, List.setIfInBounds_toArray, List.set_cons_zero, List.set_cons_succ]; rfl
        refine still_off (by rfl) (a' := ?_) ?_ ?_
        rotate_left
        ·simp only [Act.put, List.setIfInBounds_toArray, List.set_cons_zero, List.set_cons_succ]; rfl
        refine still_off (by rfl) (a' := ?_) ?_ ?_
        rotate_left
        ·simp only [Act.put, List.setIfInBounds_toArray, List.set_cons_zero, List.set_cons_succ]; rfl
        refine still_off (by rfl) (a' := ?_) ?_ ?_
        rotate_left
        ·simp only [Act.put, List.setIfInBounds_toArray, List.set_cons_zero, List.set_cons_succ]; rfl
        refine still_off (by rfl) (a' := ?_) ?_ ?_
        rotate_left
        ·simp only [Act.put, List.setIfInBounds_toArray, List.set_cons_zero, List.set_cons_succ]; rfl
        refine still_nil ?_
        change wpList _ _ _ _ _ wc.drew
        (try go_wp2)
        go_meet
        case rel => exact ⟨⟨kv_ BK.out⟩, ⟨kv_ BT.out⟩, ⟨kv_ BS.out⟩, ⟨kv_ BX.out⟩, ⟨by (with_reducible repeat (first | refine OnlyAt.drewN ?_ _ | refine OnlyAt.drew ?_ | refine OnlyAt.alloc ?_ _)); exact OA.out⟩⟩
       | true =>
        rw [if_pos rfl] at htry
        obtain ⟨jm, hjm⟩ : ∃ j_ : Int, (mn tol 10000) = j_ := ⟨_, rfl⟩
        rw [hjm] at htry
        have hjm_ : (if 10000 < tol then 10000 else tol) = jm := hjm
        have hk_2 : wc.cell? ⟨gb, 2, none⟩ = some (.int .i64 tol) := (blk_cell BK.out 2).trans rfl
        have hy_3 : wc.cell? ⟨gy, 3, none⟩ = some (.int .i64 y4) := (blk_cell BY.out 3).trans rfl
        by_cases ym : y4 ≤ jm
        rotate_left
        ·rw [if_neg ym] at htry
         obtain rfl := Option.some.inj htry
         clear htry
         have ymb := decide_eq_false ym
         clear ym
         refine still_start 10 (by kernel_rfl) (by kernel_rfl) ?_
         simp only [List.take_succ_cons, List.take_zero, List.drop_succ_cons, List.drop_zero]
         refine still_on (by rfl) (fun K hK => ?_)
         go_simp
         refine hK _ ?_
         clear hK K
         refine still_on (by rfl) (fun K hK => ?_)
         go_simp
         refine hK _ ?_
         clear hK K
         refine still_on (by rfl) (fun K hK => ?_)
         go_simp
         refine hK _ ?_
         clear hK K
         refine still_on (by rfl) (fun K hK => ?_)
         go_simp
         refine hK _ ?_
         clear hK K
         refine still_on (by rfl) (fun K hK => ?_)
         go_simp
         refine hK _ ?_
         clear hK K
         refine still_on (by rfl) (fun K hK => ?_)
         go_simp
         refine hK _ ?_
         clear hK K
         refine still_on (by rfl) (fun K hK => ?_)
         go_simp
         refine hK _ ?_
         clear hK K
         refine still_on (by rfl) (fun K hK => ?_)
         go_simp
         refine hK _ ?_
         clear hK K
         refine still_on (by rfl) (fun K hK => ?_)
         go_simp
         refine hK _ ?_
         clear hK K
         refine still_on (by rfl) (fun K hK => ?_)
         go_simp
         refine hK _ ?_
         clear hK K
         refine still_nil ?_
         change wpList _ _ _ _ _ wc.drew
         (try go_wp2)
         go_meet
         case rel => exact ⟨⟨kv_ BK.out⟩, ⟨kv_ BT.out⟩, ⟨kv_ BS.out⟩, ⟨kv_ BX.out⟩, ⟨by (with_reducible repeat (first | refine OnlyAt.drewN ?_ _ | refine OnlyAt.drew ?_ | refine OnlyAt.alloc ?_ _)); exact OA.out⟩⟩
        rw [if_pos ym] at htry
        have HTR := a_ htry
        have ymb := decide_eq_true ym
        clear ym htry
        refine still_start 10 (by kernel_rfl) (by kernel_rfl) ?_
        simp only [List.take_succ_cons, List.take_zero, List.drop_succ_cons, List.drop_zero]
        refine still_on (by rfl) (fun K hK => ?_)
        go_simp
        refine hK _ ?_
        clear hK K
        refine still_on (by rfl) (fun K hK => ?_)
        go_simp
        refine hK _ ?_
        clear hK K
        refine still_on (by rfl) (fun K hK => ?_)
        go_simp
        refine hK _ ?_
        clear hK K
        refine still_on (by rfl) (fun K hK => ?_)
        go_simp
        refine hK _ ?_
        clear hK K
        refine still_on (by rfl) (fun K hK => ?_)
        go_simp
        refine hK _ ?_
        clear hK K
        refine still_on (by rfl) (fun K hK => ?_)
        go_simp
        refine hK _ ?_
        clear hK K
        refine still_on (by rfl) (fun K hK => ?_)
        go_simp
        refine hK _ ?_
        clear hK K
        refine still_on (by rfl) (fun K hK => ?_)
        go_simp
        refine hK _ ?_
        clear hK K
        refine still_on (by rfl) (fun K hK => ?_)
        go_simp
        refine hK _ ?_
        clear hK K
        refine still_on (by rfl) (fun K hK => ?_)
        go_simp
        refine hK _ ?_
        clear hK K
        refine still_nil ?_
        change wpList _ _ _ _ _ wc.drew
        (try simp only [List.drop_succ_cons, List.drop_zero])
        generalize hwd : wc.drew = w5
        have nBK := a_ (show w5.heap[gb]? = some (.cells #[.slice (some hxad) l.length c1, .int .i64 wd, .int .i64 tol, .slice (some ⟨gt, 0, none⟩) (l.length + 1) (l.length + 1)] 56 (0, 0)) by rw [← hwd]; exact blk_drew BK.out)
        have nBT := a_ (show w5.heap[gt]? = some (.cells (encT T1) 60 (0, 0)) by rw [← hwd]; exact blk_drew BT.out)
        have nBS := a_ (show w5.heap[gs]? = some (.cells s.cells 75 (0, 0)) by rw [← hwd]; exact blk_drew BS.out)
        have nBX := a_ (show w5.heap[gx]? = some (.cells #[.int .i64 (rd_T47 l b).f0, .int .i64 (rd_T47 l b).f1.f0, .int .i64 (rd_T47 l b).f1.f1, .int .i64 (rd_T47 l b).f1.f2, .int .i64 (rd_T47 l b).f1.f3, .int .i64 (rd_T47 l b).f2, .bool (rd_T47 l b).f3, .int .i64 (rd_T47 l b).f4, .int .i64 (rd_T47 l b).f5] 47 (0, 0)) by rw [← hwd]; exact blk_drew BX.out)
        have nBY := a_ (show w5.heap[gy]? = some (.cells #[.int .i64 y1, .int .i64 y2, .int .i64 y3, .int .i64 y4] 70 (0, 0)) by rw [← hwd]; exact blk_drew BY.out)
        have nOA := a_ (show OnlyAt gt w w5 by rw [← hwd]; exact OnlyAt.drew OA.out)
        clear hwd BK BT BS BX BY OA hk_2 hy_3
        have BK := nBK
        have BT := nBT
        have BS := nBS
        have BX := nBX
        have BY := nBY
        have OA := nOA
        clear nBK nBT nBS nBX nBY nOA
        have HW5 := a_ (OnlyAt.base OA.out HW.out HW.out.size HGT.out)
        have hy_0 : w5.cell? ⟨gy, 0, none⟩ = some (.int .i64 y1) := (blk_cell BY.out 0).trans rfl
        have hy_1 : w5.cell? ⟨gy, 1, none⟩ = some (.int .i64 y2) := (blk_cell BY.out 1).trans rfl
        have hy_2 : w5.cell? ⟨gy, 2, none⟩ = some (.int .i64 y3) := (blk_cell BY.out 2).trans rfl
        have hy_3 : w5.cell? ⟨gy, 3, none⟩ = some (.int .i64 y4) := (blk_cell BY.out 3).trans rfl
        go_wp2_with (go_at_call 36; refine (bopt.calls w0 w5 gb gt (some hxad) c1 l T1 T2 wd tol a b y1 y2 y3 y4 HR.out HC.out HW5.out BK.out BT.out (HT1.out.trans HT.out) HTR.out).mono ?_; rintro e w6 ⟨rfl, hb, ho⟩; have nBK := a_ (blk_only BK.out (blk_ne BK.out BT.out (by decide)) ho); have nBS := a_ (blk_only BS.out (blk_ne BS.out BT.out (by decide)) ho); have nBX := a_ (blk_only BX.out (blk_ne BX.out BT.out (by decide)) ho); have nOA := a_ (OA.out.trans ho); have nBT := a_ hb; clear hb ho)
        go_meet
        case rel => exact ⟨nBK, nBT, nBS, nBX, nOA⟩
    case rest =>
     clear BK BT BS BX OA HTR
     obtain ⟨BK, BT, BS, BX, OA⟩ := hcut
     have h := H'.out
     clear H'
     have hx_0 : wc.cell? ⟨gx, 0, none⟩ = some (.int .i64 (rd_T47 l b).f0) := (blk_cell BX.out 0).trans rfl
     have hx_1 : wc.cell? ⟨gx, 1, none⟩ = some (.int .i64 (rd_T47 l b).f1.f0) := (blk_cell BX.out 1).trans rfl
     have hx_2 : wc.cell? ⟨gx, 2, none⟩ = some (.int .i64 (rd_T47 l b).f1.f1) := (blk_cell BX.out 2).trans rfl
     have hx_3 : wc.cell? ⟨gx, 3, none⟩ = some (.int .i64 (rd_T47 l b).f1.f2) := (blk_cell BX.out 3).trans rfl
     have hx_4 : wc.cell? ⟨gx, 4, none⟩ = some (.int .i64 (rd_T47 l b).f1.f3) := (blk_cell BX.out 4).trans rfl
     have hx_5 : wc.cell? ⟨gx, 5, none⟩ = some (.int .i64 (rd_T47 l b).f2) := (blk_cell BX.out 5).trans rfl
     have hx_6 : wc.cell? ⟨gx, 6, none⟩ = some (.bool (rd_T47 l b).f3) := (blk_cell BX.out 6).trans rfl
     have hx_7 : wc.cell? ⟨gx, 7, none⟩ = some (.int .i64 (rd_T47 l b).f4) := (blk_cell BX.out 7).trans rfl
     have hx_8 : wc.cell? ⟨gx, 8, none⟩ = some (.int .i64 (rd_T47 l b).f5) := (blk_cell BX.out 8).trans rfl
     go_upto_if 68 with (go_at_call 37; refine (demerit_Forced.calls _ _ _ _ _ _ _ _ _ z wc HZ.out).mono ?_; rintro e w6 ⟨rfl, hb⟩; have nBK := a_ (blk_below (kv_ BK.out) hb); have nBT := a_ (blk_below (kv_ BT.out) hb); have nBS := a_ (blk_below (kv_ BS.out) hb); have nBX := a_ (blk_below (kv_ BX.out) hb); have nOA := a_ (OnlyAt.then_ (by (with_reducible repeat (first | refine OnlyAt.drewN ?_ _ | refine OnlyAt.drew ?_ | refine OnlyAt.alloc ?_ _)); exact OA.out) hb); clear BK BT BS BX OA; have BK := nBK; have BT := nBT; have BS := nBS; have BX := nBX; have OA := nOA; clear nBK nBT nBS nBX nOA; clear hb)
     clear hx_0 hx_1 hx_2 hx_3 hx_4 hx_5 hx_6 hx_7 hx_8
     cases z with
     | true =>
      rw [if_pos rfl] at h
      obtain rfl := Option.some.inj h
      clear h
      go_wp2
      refine bodyPost_ret (results_none rfl _ _ _) rfl ?_
      exact ⟨rfl, BT.out, OA.out⟩
     | false =>
      rw [if_neg (by decide)] at h
      obtain ⟨s1, hs1, h⟩ := Option.bind_eq_some_iff.mp h
      have HS1 := a_ hs1
      have H' := a_ h
      clear hs1 h
      have hx_0 : w6.cell? ⟨gx, 0, none⟩ = some (.int .i64 (rd_T47 l b).f0) := (blk_cell BX.out 0).trans rfl
      go_upto_if 71 with (fail)
      go_cut [] (fun wc => Aside0 (wc.heap[gb]? = some (.cells #[.slice (some hxad) l.length c1, .int .i64 wd, .int .i64 tol, .slice (some ⟨gt, 0, none⟩) (l.length + 1) (l.length + 1)] 56 (0, 0))) ∧ Aside0 (wc.heap[gt]? = some (.cells (encT T2) 60 (0, 0))) ∧ Aside0 (wc.heap[gs]? = some (.cells s1.cells 75 (0, 0))) ∧ Aside0 (OnlyAt gt w wc))
      case first =>
       have hs1 := HS1.out
       unfold bfrom.add at hs1
       by_cases x2 : (rd_T47 l b).f0 = 2
       ·rw [if_pos x2] at hs1
        obtain rfl := Option.some.inj hs1
        have x2a : ((rd_T47 l b).f0 == 2) = true := beq_iff_eq.mpr x2
        have x2b : ((rd_T47 l b).f0 != 2) = false := bne_eq_false_iff_eq.mpr x2
        clear x2 hs1
        go_wp2
        go_meet
        case rel => exact ⟨BK, BT, BS, OA⟩
       ·rw [if_neg x2] at hs1
        have HAD := a_ hs1
        have x2a : ((rd_T47 l b).f0 == 2) = false := beq_eq_false_iff_ne.mpr x2
        have x2b : ((rd_T47 l b).f0 != 2) = true := bne_iff_ne.mpr x2
        clear hs1
        have hx_1 : w6.cell? ⟨gx, 1, none⟩ = some (.int .i64 (rd_T47 l b).f1.f0) := (blk_cell BX.out 1).trans rfl
        have hx_2 : w6.cell? ⟨gx, 2, none⟩ = some (.int .i64 (rd_T47 l b).f1.f1) := (blk_cell BX.out 2).trans rfl
        have hx_3 : w6.cell? ⟨gx, 3, none⟩ = some (.int .i64 (rd_T47 l b).f1.f2) := (blk_cell BX.out 3).trans rfl
        have hx_4 : w6.cell? ⟨gx, 4, none⟩ = some (.int .i64 (rd_T47 l b).f1.f3) := (blk_cell BX.out 4).trans rfl
        go_wp2_with (go_at_call 38; refine (badd.calls w6 gs s s1 (rd_T47 l b).f1 BS.out HAD.out).mono ?_; rintro e w7 ⟨rfl, hb, ho⟩; have nBK := a_ (blk_only BK.out (blk_ne BK.out BS.out (by decide)) ho); have nBT := a_ (blk_only BT.out (blk_ne BT.out BS.out (by decide)) ho); have nOA := a_ (OnlyAt.far OA.out ho GEgs.out); have nBS := a_ hb; clear hb ho)
        go_meet
        case rel => exact ⟨nBK, nBT, nBS, nOA⟩
      case rest =>
       clear BK BT BS BX OA hx_0
       obtain ⟨BK, BT, BS, OA⟩ := hcut
       have h := H'.out
       clear H'
       have hs_0 : wc.cell? ⟨gs, 0, none⟩ = some (.int .i64 s1.W) := (blk_cell BS.out 0).trans rfl
       have hs_2 : wc.cell? ⟨gs, 2, none⟩ = some (.int .i64 s1.H) := (blk_cell BS.out 2).trans rfl
       have hk_1 : wc.cell? ⟨gb, 1, none⟩ = some (.int .i64 wd) := (blk_cell BK.out 1).trans rfl
       obtain ⟨dv, hdv⟩ : ∃ v_ : Int, wrap64 (s1.W - s1.H) = v_ := ⟨_, rfl⟩
       rw [hdv] at h
       have hdv2 : IntKind.i64.wrap (s1.W - s1.H) = dv := (i64_w _).trans hdv
       go_upto_region 12 with (fail)
       by_cases dw : dv > wd
       ·rw [if_pos dw] at h
        obtain rfl := Option.some.inj h
        clear h
        have dwb : decide (wd < dv) = true := decide_eq_true dw
        clear dw
        refine still_start 13 (by kernel_rfl) (by kernel_rfl) ?_
        simp only [List.take_succ_cons, List.take_zero, List.drop_succ_cons, List.drop_zero]
        refine still_on (by rfl) (fun K hK => ?_)
        go_simp
        refine hK _ ?_
        clear hK K
        refine still_on (by rfl) (fun K hK => ?_)
        go_simp
        refine hK _ ?_
        clear hK K
        refine still_on (by rfl) (fun K hK => ?_)
        go_simp
        refine hK _ ?_
        clear hK K
        refine still_on (by rfl) (fun K hK => ?_)
        go_simp
        refine hK _ ?_
        clear hK K
        refine still_on (by rfl) (fun K hK => ?_)
        go_simp
        refine hK _ ?_
        clear hK K
        refine still_on (by rfl) (fun K hK => ?_)
        go_simp
        refine hK _ ?_
        clear hK K
        refine still_on (by rfl) (fun K hK => ?_)
        go_simp
        refine hK _ ?_
        clear hK K
        refine still_on (by rfl) (fun K hK => ?_)
        go_simp
        refine hK _ ?_
        clear hK K
        refine still_on (by rfl) (fun K hK => ?_)
        go_simp
        refine hK _ ?_
        clear hK K
        refine still_on (by rfl) (fun K hK => ?_)
        go_simp
        refine hK _ ?_
        clear hK K
        refine still_on (by rfl) (fun K hK => ?_)
        go_simp
        refine hK _ ?_
        clear hK K
        refine still_on (by rfl) (fun K hK => ?_)
        go_simp
        refine hK _ ?_
        clear hK K
        refine still_on (by rfl) (fun K hK => ?_)
        go_simp
        refine hK _ ?_
        clear hK K
        refine still_nil ?_
        change wpList _ _ _ _ _ wc.drew
        go_wp2
        refine bodyPost_ret (results_none rfl _ _ _) rfl ?_
        exact ⟨rfl, by (with_reducible repeat (first | refine blk_drewN ?_ _ | refine blk_drew ?_ | refine blk_alloc ?_ _)); exact BT.out, by (with_reducible repeat (first | refine OnlyAt.drewN ?_ _ | refine OnlyAt.drew ?_ | refine OnlyAt.alloc ?_ _)); exact OA.out⟩
       ·rw [if_neg dw] at h
        have H' := a_ h
        clear h
        have dwb : decide (wd < dv) = false := decide_eq_false dw
        clear dw
        refine still_start 13 (by kernel_rfl) (by kernel_rfl) ?_
        simp only [List.take_succ_cons, List.take_zero, List.drop_succ_cons, List.drop_zero]
        refine still_on (by rfl) (fun K hK => ?_)
        go_simp
        refine hK _ ?_
        clear hK K
        refine still_on (by rfl) (fun K hK => ?_)
        go_simp
        refine hK _ ?_
        clear hK K
        refine still_on (by rfl) (fun K hK => ?_)
        go_simp
        refine hK _ ?_
        clear hK K
        refine still_on (by rfl) (fun K hK => ?_)
        go_simp
        refine hK _ ?_
        clear hK K
        refine still_on (by rfl) (fun K hK => ?_)
        go_simp
        refine hK _ ?_
        clear hK K
        refine still_on (by rfl) (fun K hK => ?_)
        go_simp
        refine hK _ ?_
        clear hK K
        refine still_on (by rfl) (fun K hK => ?_)
        go_simp
        refine hK _ ?_
        clear hK K
        refine still_on (by rfl) (fun K hK => ?_)
        go_simp
        refine hK _ ?_
        clear hK K
        refine still_on (by rfl) (fun K hK => ?_)
        go_simp
        refine hK _ ?_
        clear hK K
        refine still_on (by rfl) (fun K hK => ?_)
        go_simp
        refine hK _ ?_
        clear hK K
        refine still_on (by rfl) (fun K hK => ?_)
        go_simp
        refine hK _ ?_
        clear hK K
        refine still_on (by rfl) (fun K hK => ?_)
        go_simp
        refine hK _ ?_
        clear hK K
        refine still_on (by rfl) (fun K hK => ?_)
        go_simp
        refine hK _ ?_
        clear hK K
        refine still_nil ?_
        change wpList _ _ _ _ _ wc.drew
        go_wp2
        go_roundg k1
        case measure => omega
        case rel => exact ⟨_, T2, s1, rfl, H', ⟨by have := HK1.out; omega⟩, HT2, ⟨kv_ BK.out⟩, ⟨kv_ BT.out⟩, ⟨kv_ BS.out⟩, ⟨by (with_reducible repeat (first | refine OnlyAt.drewN ?_ _ | refine OnlyAt.drew ?_ | refine OnlyAt.alloc ?_ _)); exact OA.out⟩⟩

/-! Best -/
set_option maxHeartbeats 8000000 in
set_option maxRecDepth 100000 in
theorem breaker_Best.calls (k : Nat) (A0 : Option Addr) (c0 : Nat) (l0 : List (S47)) (a1 : Int) (a2 : Int) (r1 : List Int) (r2 : Int) (r3 : Bool) (w : World) (hr0 : Kd.C k47 w A0 l0.length l0) (hc0 : l0.length ≤ c0) (h : breaker_Best.f k l0 a1 a2 = some (r1, r2, r3)) :
  Calls Try.prog 9 #[.slice A0 l0.length c0, .int .i64 a1, .int .i64 a2] w fun e w' => ∃ v0_ : Value, e = .returned (.tuple #[v0_, .int .i64 r2, .bool r3]) ∧ Kd.R (Kd.int .i64) 3 w' w.heap.size (fun _ => True) v0_ r1 ∧ Below w.heap.size w w' := by
 have hu22 := Try.underlying22
 have hu24 := Try.underlying24
 have hu54 := Try.underlying54
 have hu56 := Try.underlying56
 have hu59 := Try.underlying59
 have hu60 := Try.underlying60
 have HR := a_ hr0
 have HC := a_ hc0
 have HB := a_ (Below.refl w.heap.size w)
 have LN := a_ hr0.2.1
 clear hr0 hc0
 unfold breaker_Best.f at h
 obtain ⟨t, hm, h⟩ := Option.bind_eq_some_iff.mp h
 have HM := a_ hm
 clear hm
 cases t with
 | false =>
  rw [if_neg (by decide)] at h
  simp only [Option.some.injEq, Prod.mk.injEq] at h
  obtain ⟨rfl, rfl, rfl⟩ := h
  go_enter Try.func9, Try.ntmps9
  go_wp2_with (go_at_call 23; refine (item_May.calls k A0 c0 l0 false w HR.out HC.out HM.out).mono ?_; rintro e w1 ⟨rfl, hb⟩; have nHB := a_ (below_step HB.out hb); clear hb HB; have HB := nHB; clear nHB)
  go_ret3
  exact ⟨_, rfl, Kd.R_nil _ _ _ _ _, HB.out⟩
 | true =>
  rw [if_pos rfl] at h
  by_cases ln : l0.length ≤ 100000
  rotate_left
  ·rw [if_neg ln] at h; exact absurd h (by simp)
  rw [if_pos ln] at h
  obtain ⟨TF, hl0, h⟩ := Option.bind_eq_some_iff.mp h
  have HL := a_ hl0
  have H' := a_ h
  have LN2 := a_ ln
  clear ln hl0 h
  have hw1 : wrap64 ((l0.length : Int) + 1) = (l0.length : Int) + 1 := by (have := LN2.out; unfold wrap64; omega)
  have hw1' : IntKind.i64.wrap ((l0.length : Int) + 1) = (l0.length : Int) + 1 := (i64_w _).trans hw1
  have hw2 : wrap64 ((l0.length : Int) - 1) = (l0.length : Int) - 1 := by (have := LN2.out; unfold wrap64; omega)
  have hmk : ∀ W : World, (Instr.makeSlice 54 (.int .i64 ((l0.length : Int) + 1)) (.int .i64 ((l0.length : Int) + 1))).run Try.prog W = .ok (.slice (some ⟨W.heap.size, 0, none⟩) (l0.length + 1) (l0.length + 1)) (W.alloc (.cells (encT (List.replicate (4 * (l0.length + 1)) TL0)) 60)) := by (have := LN2.out; exact tails_made l0.length (by omega))
  go_enter Try.func9, Try.ntmps9
  go_wp2_with (first | (go_at_call 23; refine (item_May.calls k A0 c0 l0 true w HR.out HC.out HM.out).mono ?_; rintro e w1 ⟨rfl, hb⟩; have nHB := a_ (below_step HB.out hb); clear hb HB; have HB := nHB; clear nHB) | ((with_reducible refine gate_dst (N := 25) rfl ?_); refine make_event ?hg (n := l0.length + 1) (cs := encT (List.replicate (4 * (l0.length + 1)) TL0)) (t := 60) ?hr ?_; (case hg => rfl); (case hr => first | (go_simp; done) | (go_simp; rfl)); intro gt hg w2 hbox hb; have GT := a_ (show w.heap.size ≤ gt by rw [hg]; exact (below_size (bv_ HB.out))); have BT := a_ hbox; have nHB := a_ (bs_ HB.out hb); clear hb hbox hg HB; have HB := nHB; clear nHB) | ((with_reducible refine gate_dst (N := 27) rfl ?_); (try (refine gate_guard (by rfl) ?_; dsimp only)); refine box_event ?hg (N := 27) ?hd (cs := #[.slice A0 l0.length c0, .int .i64 a1, .int .i64 a2, .slice (some ⟨gt, 0, none⟩) (l0.length + 1) (l0.length + 1)]) (t := 56) ?hr ?_; (case hd => rfl); (case hg => rfl); (case hr => first | (go_simp; done) | (go_simp; rfl)); intro gb hg w3 hbox hb; have n0_ := a_ (bs_ HB.out hb); have BK := a_ hbox; have GEgb := a_ ((by rw [hg]; exact (below_size (bv_ HB.out)) : w.heap.size ≤ gb)); have m0_ := a_ (blk_below (kv_ BT.out) hb); have NEBT_gb := a_ ((by rw [hg]; exact Nat.ne_of_lt (blk_lt (kv_ BT.out)) : gt ≠ gb)); clear HB BT; have HB := n0_; have BT := m0_; clear n0_ m0_; clear hb hbox hg))
  rw [hw2]
  go_loopg [10] k (fun kq v10 w' => ∃ (a : Int) (T1 : List TL), v10 = .int .i64 a ∧ Aside0 (breaker_Best.l0 kq l0 a1 a2 T1 a = some TF) ∧ Aside0 (kq ≤ k) ∧ Aside0 (T1.length = 4 * (l0.length + 1)) ∧ Aside0 (w'.heap[gb]? = some (.cells #[.slice A0 l0.length c0, .int .i64 a1, .int .i64 a2, .slice (some ⟨gt, 0, none⟩) (l0.length + 1) (l0.length + 1)] 56 (0, 0))) ∧ Aside0 (w'.heap[gt]? = some (.cells (encT T1) 60 (0, 0))) ∧ Aside0 (Below w.heap.size w w'))
  case atStart => exact ⟨_, _, rfl, HL, ⟨Nat.le_refl _⟩, ⟨List.length_replicate ..⟩, BK, BT, HB⟩
  case round =>
   clear HL BK BT HB
   obtain ⟨a, T1, rfl, HA, HK1, HT1, BK, BT, HB⟩ := hrel
   cases gk with
   | zero => exact absurd HA.out (by simp [breaker_Best.l0])
   | succ k1 =>
    have h := HA.out
    clear HA
    simp only [breaker_Best.l0] at h
    by_cases a0 : a ≥ -1
    ·rw [if_pos a0] at h
     by_cases al : a < (l0.length : Int)
     rotate_left
     ·rw [if_neg al] at h; exact absurd h (by simp)
     rw [if_pos al] at h
     obtain ⟨t, ht, h⟩ := Option.bind_eq_some_iff.mp h
     obtain ⟨T2, h2, h⟩ := Option.bind_eq_some_iff.mp h
     have HT := a_ ht
     have H2 := a_ h2
     have HA := a_ h
     have A0P := a_ a0
     have ALP := a_ al
     clear ht h2 h al
     have a0b : decide (-1 ≤ a) = true := decide_eq_true a0
     clear a0
     go_upto_region 7 with (fail)
     go_cut [41] (fun v41 wc => v41 = .bool t ∧ Aside0 (wc.heap[gb]? = some (.cells #[.slice A0 l0.length c0, .int .i64 a1, .int .i64 a2, .slice (some ⟨gt, 0, none⟩) (l0.length + 1) (l0.length + 1)] 56 (0, 0))) ∧ Aside0 (wc.heap[gt]? = some (.cells (encT T1) 60 (0, 0))) ∧ Aside0 (Below w.heap.size w wc))
     case first =>
      have ht := HT.out
      clear HT
      unfold breaker_Best.t at ht
      by_cases am : a = -1
      ·rw [if_pos am] at ht
       obtain rfl := Option.some.inj ht
       have am0 : (a == -1) = true := beq_iff_eq.mpr am
       clear am ht
       go_wp2
       go_meet
       case rel => exact ⟨rfl, ⟨kv_ BK.out⟩, ⟨kv_ BT.out⟩, ⟨bv_ HB.out⟩⟩
      ·rw [if_neg am] at ht
       have HT := a_ ht
       have am0 : (a == -1) = false := beq_eq_false_iff_ne.mpr am
       clear am ht
       go_wp2_with (go_at_call 24; refine (demerit_Legal.calls k1 A0 c0 l0 a t _ (Kd.C_below HR.out HB.out) HC.out HT.out).mono ?_; rintro e w5 ⟨rfl, ⟨nd, rfl⟩⟩)
       go_meet
       case rel => exact ⟨rfl, ⟨kv_ BK.out⟩, ⟨kv_ BT.out⟩, ⟨bv_ HB.out⟩⟩
     case rest =>
      clear BK BT HB
      obtain ⟨rfl, BK, BT, HB⟩ := hcut
      have h2 := H2.out
      clear H2
      cases t with
      | false =>
       rw [if_neg (by decide)] at h2
       obtain rfl := Option.some.inj h2
       clear h2
       have HT2 := HT1
       go_wp2
       go_roundg k1
       case measure => omega
       case rel => exact ⟨_, _, rfl, HA, ⟨by have := HK1.out; omega⟩, HT2, BK, BT, HB⟩
      | true =>
       rw [if_pos rfl] at h2
       have HT2 := a_ (show T2.length = 4 * (l0.length + 1) by rw [bfrom.len_f h2]; exact HT1.out)
       have H2 := a_ h2
       clear h2
       go_wp2_with (go_at_call 25; refine (bfrom.calls k1 w wc gb gt A0 c0 l0 T1 T2 a1 a2 a HR.out HC.out HB.out GT.out BK.out BT.out HT1.out H2.out).mono ?_; rintro e w6 ⟨rfl, hb, ho⟩; have nBK := a_ (blk_only BK.out (blk_ne BK.out BT.out (by decide)) ho); have nHB := a_ (OnlyAt.base ho HB.out HB.out.size GT.out); have nBT := a_ hb; clear hb ho BK BT HB; have BK := nBK; have BT := nBT; have HB := nHB; clear nBK nBT nHB)
       go_roundg k1
       case measure => omega
       case rel => exact ⟨_, _, rfl, HA, ⟨by have := HK1.out; omega⟩, HT2, BK, BT, HB⟩
    ·rw [if_neg a0] at h
     obtain rfl := Option.some.inj h
     have a0b : decide (-1 ≤ a) = false := decide_eq_false a0
     clear a0 h
     have h := H'.out
     clear H'
     have hk_3 : wr.cell? ⟨gb, 3, none⟩ = some (.slice (some ⟨gt, 0, none⟩) (l0.length + 1) (l0.length + 1)) := (blk_cell BK.out 3).trans rfl
     have J2 := a_ (show 2 < T1.length by rw [HT1.out]; omega)
     have hq_0 : wr.cell? ⟨gt, 8, none⟩ = some (.bool (tg T1 2).ok) := blk_tail (j := 2) (f := 0) BT.out J2.out (by omega) rfl
     have hq_1 : wr.cell? ⟨gt, 9, none⟩ = some (.int .i64 (tg T1 2).dm) := blk_tail (j := 2) (f := 1) BT.out J2.out (by omega) rfl
     have hq_2 : wr.cell? ⟨gt, 10, none⟩ = some (.int .i64 (tg T1 2).nx) := blk_tail (j := 2) (f := 2) BT.out J2.out (by omega) rfl
     have hq_3 : wr.cell? ⟨gt, 11, none⟩ = some (.int .i64 (tg T1 2).cl) := blk_tail (j := 2) (f := 3) BT.out J2.out (by omega) rfl
     have ir1 : (0 < (l0.length : Int) + 1) = True := eq_true (by omega)
     have ir2 : (0 < l0.length + 1) = True := eq_true (by omega)
     go_upto_region 12 with ((with_reducible refine gate_dst (N := 14) rfl ?_); (try (refine gate_guard (by rfl) ?_; dsimp only)); refine box_event ?hg (N := 14) ?hd (cs := #[.bool false, .int .i64 0, .int .i64 0, .int .i64 0]) (t := 59) ?hr ?_; (case hd => rfl); (case hg => rfl); (case hr => first | (go_simp; done) | (go_simp; rfl)); intro g4 hg w4 hbox hb; have n0_ := a_ (bs_ HB.out hb); have B4 := a_ hbox; have GEg4 := a_ ((by rw [hg]; exact (below_size (bv_ HB.out)) : w.heap.size ≤ g4)); have m0_ := a_ (blk_below (kv_ BK.out) hb); have NEBK_g4 := a_ ((by rw [hg]; exact Nat.ne_of_lt (blk_lt (kv_ BK.out)) : gb ≠ g4)); have m1_ := a_ (blk_below (kv_ BT.out) hb); have NEBT_g4 := a_ ((by rw [hg]; exact Nat.ne_of_lt (blk_lt (kv_ BT.out)) : gt ≠ g4)); clear HB BK BT; have HB := n0_; have BK := m0_; have BT := m1_; clear n0_ m0_ m1_; clear hb hbox hg; have h4_0 : w4.cell? ⟨g4, 0, none⟩ = some (.bool false) := (blk_cell B4.out 0).trans rfl; have h4_1 : w4.cell? ⟨g4, 1, none⟩ = some (.int .i64 0) := (blk_cell B4.out 1).trans rfl; have h4_2 : w4.cell? ⟨g4, 2, none⟩ = some (.int .i64 0) := (blk_cell B4.out 2).trans rfl; have h4_3 : w4.cell? ⟨g4, 3, none⟩ = some (.int .i64 0) := (blk_cell B4.out 3).trans rfl; have h4f_0 := blk_frozen B4.out 0; have h4f_1 := blk_frozen B4.out 1; have h4f_2 := blk_frozen B4.out 2; have h4f_3 := blk_frozen B4.out 3)
     obtain ⟨w5, hw5⟩ : ∃ w5, w5 = ((((w4.setCell ⟨g4, 0, none⟩ (.bool (tg T1 2).ok)).setCell ⟨g4, 1, none⟩ (.int .i64 (tg T1 2).dm)).setCell ⟨g4, 2, none⟩ (.int .i64 (tg T1 2).nx)).setCell ⟨g4, 3, none⟩ (.int .i64 (tg T1 2).cl)) := ⟨_, rfl⟩
     rw [← hw5]
     have nB4 := a_ (show w5.heap[g4]? = some (.cells #[.bool (tg T1 2).ok, .int .i64 (tg T1 2).dm, .int .i64 (tg T1 2).nx, .int .i64 (tg T1 2).cl] 59 (0, 0)) by rw [hw5]; exact blk_put (cs := #[.bool (tg T1 2).ok, .int .i64 (tg T1 2).dm, .int .i64 (tg T1 2).nx, .int .i64 0]) (blk_put (cs := #[.bool (tg T1 2).ok, .int .i64 (tg T1 2).dm, .int .i64 0, .int .i64 0]) (blk_put (cs := #[.bool (tg T1 2).ok, .int .i64 0, .int .i64 0, .int .i64 0]) (blk_put (cs := #[.bool false, .int .i64 0, .int .i64 0, .int .i64 0]) (B4.out) 0 _ rfl) 1 _ rfl) 2 _ rfl) 3 _ rfl)
     have nBK := a_ (show w5.heap[gb]? = some (.cells #[.slice A0 l0.length c0, .int .i64 a1, .int .i64 a2, .slice (some ⟨gt, 0, none⟩) (l0.length + 1) (l0.length + 1)] 56 (0, 0)) by rw [hw5]; exact blk_far (blk_far (blk_far (blk_far (BK.out) (p := ⟨g4, 0, none⟩) NEBK_g4.out _) (p := ⟨g4, 1, none⟩) NEBK_g4.out _) (p := ⟨g4, 2, none⟩) NEBK_g4.out _) (p := ⟨g4, 3, none⟩) NEBK_g4.out _)
     have nBT := a_ (show w5.heap[gt]? = some (.cells (encT T1) 60 (0, 0)) by rw [hw5]; exact blk_far (blk_far (blk_far (blk_far (BT.out) (p := ⟨g4, 0, none⟩) NEBT_g4.out _) (p := ⟨g4, 1, none⟩) NEBT_g4.out _) (p := ⟨g4, 2, none⟩) NEBT_g4.out _) (p := ⟨g4, 3, none⟩) NEBT_g4.out _)
     have nHB := a_ (show Below w.heap.size w w5 by rw [hw5]; exact Below.setCell (Below.setCell (Below.setCell (Below.setCell (HB.out) GEg4.out _) GEg4.out _) GEg4.out _) GEg4.out _)
     clear hw5 hk_3 hq_0 hq_1 hq_2 hq_3 h4_0 h4f_0 h4_1 h4f_1 h4_2 h4f_2 h4_3 h4f_3
     clear B4 BK BT HB
     have B4 := nB4
     have BK := nBK
     have BT := nBT
     have HB := nHB
     clear nB4 nBK nBT nHB
     have h4_0 : w5.cell? ⟨g4, 0, none⟩ = some (.bool (tg T1 2).ok) := (blk_cell B4.out 0).trans rfl
     by_cases ok : (tg T1 2).ok = true
     rotate_left
     ·rw [if_neg ok] at h
      simp only [Option.some.injEq, Prod.mk.injEq] at h
      obtain ⟨rfl, rfl, rfl⟩ := h
      rw [Bool.eq_false_iff.mpr ok] at h4_0
      go_wp2
      go_ret3
      exact ⟨_, rfl, Kd.R_nil _ _ _ _ _, HB.out⟩
     rw [if_pos ok] at h
     obtain ⟨out, hout, h⟩ := Option.bind_eq_some_iff.mp h
     simp only [Option.some.injEq, Prod.mk.injEq] at h
     obtain ⟨rfl, rfl, rfl⟩ := h
     have HO1 := a_ hout
     rw [ok] at h4_0
     clear hout
     go_wp2
     go_loopg [11, 12, 13] k (fun kq v11 v12 v13 w' => ∃ (o : List Int) (a c : Int), v12 = .int .i64 a ∧ v13 = .int .i64 c ∧ Aside0 (breaker_Best.l1 kq l0 T1 o a c = some out) ∧ Aside0 (kq ≤ k) ∧ Aside0 (Kd.R (Kd.int .i64) 3 w' w.heap.size (fun _ => True) v11 o) ∧ Aside0 (w'.heap[gb]? = some (.cells #[.slice A0 l0.length c0, .int .i64 a1, .int .i64 a2, .slice (some ⟨gt, 0, none⟩) (l0.length + 1) (l0.length + 1)] 56 (0, 0))) ∧ Aside0 (w'.heap[gt]? = some (.cells (encT T1) 60 (0, 0))) ∧ Aside0 (w'.heap[g4]? = some (.cells #[.bool (tg T1 2).ok, .int .i64 (tg T1 2).dm, .int .i64 (tg T1 2).nx, .int .i64 (tg T1 2).cl] 59 (0, 0))) ∧ Aside0 (Below w.heap.size w w'))
     case atStart => exact ⟨[], _, _, rfl, rfl, HO1, ⟨Nat.le_refl _⟩, ⟨Kd.R_nil _ _ _ _ _⟩, BK, BT, B4, HB⟩
     case round =>
      clear HO1 BK BT B4 HB h4_0 HK1 ok
      skip
      obtain ⟨o, a, c, rfl, rfl, HA, HK1, HO, BK, BT, B4, HB⟩ := hrel
      cases gk with
      | zero => exact absurd HA.out (by simp [breaker_Best.l1])
      | succ k2 =>
       have h := HA.out
       clear HA
       simp only [breaker_Best.l1] at h
       by_cases an : a < (l0.length : Int) - 1
       ·rw [if_pos an] at h
        by_cases a1_ : -1 ≤ a
        rotate_left
        ·rw [if_neg a1_] at h; exact absurd h (by simp)
        rw [if_pos a1_] at h
        by_cases c0_ : 0 ≤ c
        rotate_left
        ·rw [if_neg c0_] at h; exact absurd h (by simp)
        rw [if_pos c0_] at h
        by_cases c4_ : c < 4
        rotate_left
        ·rw [if_neg c4_] at h; exact absurd h (by simp)
        rw [if_pos c4_] at h
        by_cases lo : o.length < 1954687338268
        rotate_left
        ·rw [if_neg lo] at h; exact absurd h (by simp)
        rw [if_pos lo] at h
        have HA := a_ h
        have LO := a_ lo
        have JA := a_ (show 4 * (a + 1).toNat + c.toNat < T1.length by rw [HT1.out]; omega)
        have hw3 : wrap64 (a + 1) = a + 1 := by (have := LN2.out; unfold wrap64; omega)
        have i0 := eq_true (show (0 : Int) ≤ a + 1 by omega)
        have i1 := eq_true (show a + 1 < (l0.length : Int) + 1 by omega)
        have i2 := eq_true (show a < (l0.length : Int) by omega)
        have anb : decide (a < (l0.length : Int) - 1) = true := decide_eq_true an
        replace c0_ := eq_true c0_
        replace c4_ := eq_true c4_
        clear h lo an a1_
        have hk_3 : wr.cell? ⟨gb, 3, none⟩ = some (.slice (some ⟨gt, 0, none⟩) (l0.length + 1) (l0.length + 1)) := (blk_cell BK.out 3).trans rfl
        have hq_0 : wr.cell? ⟨gt, (a + 1).toNat * 16 + c.toNat * 4, none⟩ = some (.bool (tg T1 (4 * (a + 1).toNat + c.toNat)).ok) := blk_tail (f := 0) BT.out JA.out (by omega) rfl
        have hq_1 : wr.cell? ⟨gt, (a + 1).toNat * 16 + c.toNat * 4 + 1, none⟩ = some (.int .i64 (tg T1 (4 * (a + 1).toNat + c.toNat)).dm) := blk_tail (f := 1) BT.out JA.out (by omega) rfl
        have hq_2 : wr.cell? ⟨gt, (a + 1).toNat * 16 + c.toNat * 4 + 2, none⟩ = some (.int .i64 (tg T1 (4 * (a + 1).toNat + c.toNat)).nx) := blk_tail (f := 2) BT.out JA.out (by omega) rfl
        have hq_3 : wr.cell? ⟨gt, (a + 1).toNat * 16 + c.toNat * 4 + 3, none⟩ = some (.int .i64 (tg T1 (4 * (a + 1).toNat + c.toNat)).cl) := blk_tail (f := 3) BT.out JA.out (by omega) rfl
        go_upto_region 16 with ((with_reducible refine gate_dst (N := 15) rfl ?_); (try (refine gate_guard (by rfl) ?_; dsimp only)); refine box_event ?hg (N := 15) ?hd (cs := #[.bool false, .int .i64 0, .int .i64 0, .int .i64 0]) (t := 59) ?hr ?_; (case hd => rfl); (case hg => rfl); (case hr => first | (go_simp; done) | (go_simp; rfl)); intro g5 hg w6 hbox hb; have n0_ := a_ (bs_ HB.out hb); have B5 := a_ hbox; have GEg5 := a_ ((by rw [hg]; exact (below_size (bv_ HB.out)) : w.heap.size ≤ g5)); have m0_ := a_ (blk_below (kv_ BK.out) hb); have NEBK_g5 := a_ ((by rw [hg]; exact Nat.ne_of_lt (blk_lt (kv_ BK.out)) : gb ≠ g5)); have m1_ := a_ (blk_below (kv_ BT.out) hb); have NEBT_g5 := a_ ((by rw [hg]; exact Nat.ne_of_lt (blk_lt (kv_ BT.out)) : gt ≠ g5)); have m2_ := a_ (blk_below (kv_ B4.out) hb); have NEB4_g5 := a_ ((by rw [hg]; exact Nat.ne_of_lt (blk_lt (kv_ B4.out)) : g4 ≠ g5)); clear HB BK BT B4; have HB := n0_; have BK := m0_; have BT := m1_; have B4 := m2_; clear n0_ m0_ m1_ m2_; have nHO := a_ (Kd.R_below (rv_ HO.out) hb); clear HO; have HO := nHO; clear nHO; clear hb hbox hg; skip; have h5_0 : w6.cell? ⟨g5, 0, none⟩ = some (.bool false) := (blk_cell B5.out 0).trans rfl; have h5_1 : w6.cell? ⟨g5, 1, none⟩ = some (.int .i64 0) := (blk_cell B5.out 1).trans rfl; have h5_2 : w6.cell? ⟨g5, 2, none⟩ = some (.int .i64 0) := (blk_cell B5.out 2).trans rfl; have h5_3 : w6.cell? ⟨g5, 3, none⟩ = some (.int .i64 0) := (blk_cell B5.out 3).trans rfl; have h5f_0 := blk_frozen B5.out 0; have h5f_1 := blk_frozen B5.out 1; have h5f_2 := blk_frozen B5.out 2; have h5f_3 := blk_frozen B5.out 3)
        obtain ⟨w7, hw7⟩ : ∃ w7, w7 = ((((w6.setCell ⟨g5, 0, none⟩ (.bool (tg T1 (4 * (a + 1).toNat + c.toNat)).ok)).setCell ⟨g5, 1, none⟩ (.int .i64 (tg T1 (4 * (a + 1).toNat + c.toNat)).dm)).setCell ⟨g5, 2, none⟩ (.int .i64 (tg T1 (4 * (a + 1).toNat + c.toNat)).nx)).setCell ⟨g5, 3, none⟩ (.int .i64 (tg T1 (4 * (a + 1).toNat + c.toNat)).cl)) := ⟨_, rfl⟩
        rw [← hw7]
        have nB5 := a_ (show w7.heap[g5]? = some (.cells #[.bool (tg T1 (4 * (a + 1).toNat + c.toNat)).ok, .int .i64 (tg T1 (4 * (a + 1).toNat + c.toNat)).dm, .int .i64 (tg T1 (4 * (a + 1).toNat + c.toNat)).nx, .int .i64 (tg T1 (4 * (a + 1).toNat + c.toNat)).cl] 59 (0, 0)) by rw [hw7]; exact blk_put (cs := #[.bool (tg T1 (4 * (a + 1).toNat + c.toNat)).ok, .int .i64 (tg T1 (4 * (a + 1).toNat + c.toNat)).dm, .int .i64 (tg T1 (4 * (a + 1).toNat + c.toNat)).nx, .int .i64 0]) (blk_put (cs := #[.bool (tg T1 (4 * (a + 1).toNat + c.toNat)).ok, .int .i64 (tg T1 (4 * (a + 1).toNat + c.toNat)).dm, .int .i64 0, .int .i64 0]) (blk_put (cs := #[.bool (tg T1 (4 * (a + 1).toNat + c.toNat)).ok, .int .i64 0, .int .i64 0, .int .i64 0]) (blk_put (cs := #[.bool false, .int .i64 0, .int .i64 0, .int .i64 0]) (B5.out) 0 _ rfl) 1 _ rfl) 2 _ rfl) 3 _ rfl)
        have nBK := a_ (show w7.heap[gb]? = some (.cells #[.slice A0 l0.length c0, .int .i64 a1, .int .i64 a2, .slice (some ⟨gt, 0, none⟩) (l0.length + 1) (l0.length + 1)] 56 (0, 0)) by rw [hw7]; exact blk_far (blk_far (blk_far (blk_far (BK.out) (p := ⟨g5, 0, none⟩) NEBK_g5.out _) (p := ⟨g5, 1, none⟩) NEBK_g5.out _) (p := ⟨g5, 2, none⟩) NEBK_g5.out _) (p := ⟨g5, 3, none⟩) NEBK_g5.out _)
        have nBT := a_ (show w7.heap[gt]? = some (.cells (encT T1) 60 (0, 0)) by rw [hw7]; exact blk_far (blk_far (blk_far (blk_far (BT.out) (p := ⟨g5, 0, none⟩) NEBT_g5.out _) (p := ⟨g5, 1, none⟩) NEBT_g5.out _) (p := ⟨g5, 2, none⟩) NEBT_g5.out _) (p := ⟨g5, 3, none⟩) NEBT_g5.out _)
        have nB4 := a_ (show w7.heap[g4]? = some (.cells #[.bool (tg T1 2).ok, .int .i64 (tg T1 2).dm, .int .i64 (tg T1 2).nx, .int .i64 (tg T1 2).cl] 59 (0, 0)) by rw [hw7]; exact blk_far (blk_far (blk_far (blk_far (B4.out) (p := ⟨g5, 0, none⟩) NEB4_g5.out _) (p := ⟨g5, 1, none⟩) NEB4_g5.out _) (p := ⟨g5, 2, none⟩) NEB4_g5.out _) (p := ⟨g5, 3, none⟩) NEB4_g5.out _)
        have nHB := a_ (show Below w.heap.size w w7 by rw [hw7]; exact Below.setCell (Below.setCell (Below.setCell (Below.setCell (HB.out) GEg5.out _) GEg5.out _) GEg5.out _) GEg5.out _)
        have nHO := a_ (show Kd.R (Kd.int .i64) 3 w7 w.heap.size (fun _ => True) u11 o by rw [hw7]; exact Kd.R_set (Kd.R_set (Kd.R_set (Kd.R_set (HO.out) (B5.out) (by decide) 0 _) (blk_put (cs' := #[.bool (tg T1 (4 * (a + 1).toNat + c.toNat)).ok, .int .i64 0, .int .i64 0, .int .i64 0]) (cs := #[.bool false, .int .i64 0, .int .i64 0, .int .i64 0]) (B5.out) 0 _ rfl) (by decide) 1 _) (blk_put (cs' := #[.bool (tg T1 (4 * (a + 1).toNat + c.toNat)).ok, .int .i64 (tg T1 (4 * (a + 1).toNat + c.toNat)).dm, .int .i64 0, .int .i64 0]) (cs := #[.bool (tg T1 (4 * (a + 1).toNat + c.toNat)).ok, .int .i64 0, .int .i64 0, .int .i64 0]) (blk_put (cs' := #[.bool (tg T1 (4 * (a + 1).toNat + c.toNat)).ok, .int .i64 0, .int .i64 0, .int .i64 0]) (cs := #[.bool false, .int .i64 0, .int .i64 0, .int .i64 0]) (B5.out) 0 _ rfl) 1 _ rfl) (by decide) 2 _) (blk_put (cs' := #[.bool (tg T1 (4 * (a + 1).toNat + c.toNat)).ok, .int .i64 (tg T1 (4 * (a + 1).toNat + c.toNat)).dm, .int .i64 (tg T1 (4 * (a + 1).toNat + c.toNat)).nx, .int .i64 0]) (cs := #[.bool (tg T1 (4 * (a + 1).toNat + c.toNat)).ok, .int .i64 (tg T1 (4 * (a + 1).toNat + c.toNat)).dm, .int .i64 0, .int .i64 0]) (blk_put (cs' := #[.bool (tg T1 (4 * (a + 1).toNat + c.toNat)).ok, .int .i64 (tg T1 (4 * (a + 1).toNat + c.toNat)).dm, .int .i64 0, .int .i64 0]) (cs := #[.bool (tg T1 (4 * (a + 1).toNat + c.toNat)).ok, .int .i64 0, .int .i64 0, .int .i64 0]) (blk_put (cs' := #[.bool (tg T1 (4 * (a + 1).toNat + c.toNat)).ok, .int .i64 0, .int .i64 0, .int .i64 0]) (cs := #[.bool false, .int .i64 0, .int .i64 0, .int .i64 0]) (B5.out) 0 _ rfl) 1 _ rfl) 2 _ rfl) (by decide) 3 _)
        clear hw7 hk_3 hq_0 hq_1 hq_2 hq_3 h5_0 h5f_0 h5_1 h5f_1 h5_2 h5f_2 h5_3 h5f_3
        clear B5 BK BT B4 HB HO
        have B5 := nB5
        have BK := nBK
        have BT := nBT
        have B4 := nB4
        have HB := nHB
        have HO := nHO
        clear nB5 nBK nBT nB4 nHB nHO
        have nB5 := a_ (blk_drew B5.out)
        have nBK := a_ (blk_drew BK.out)
        have nBT := a_ (blk_drew BT.out)
        have nB4 := a_ (blk_drew B4.out)
        have nHB := a_ (below_drew1 HB.out)
        have nHO := a_ (show Kd.R (Kd.int .i64) 3 w7.drew w.heap.size (fun _ => True) u11 o from Kd.R_drew HO.out)
        clear B5 BK BT B4 HB HO
        have B5 := nB5
        have BK := nBK
        have BT := nBT
        have B4 := nB4
        have HB := nHB
        have HO := nHO
        clear nB5 nBK nBT nB4 nHB nHO
        refine start_ (n := 6) (S := fun w' => w'.cell? ⟨g5, 2, none⟩ = some (.int .i64 (tg T1 (4 * (a + 1).toNat + c.toNat)).nx) ∧ w'.cell? ⟨g5, 3, none⟩ = some (.int .i64 (tg T1 (4 * (a + 1).toNat + c.toNat)).cl)) (ds := []) #[false, false, false, false, false, false] (by kernel_rfl) rfl rfl ⟨(blk_cell B5.out 2).trans rfl, (blk_cell B5.out 3).trans rfl⟩ (fun hHeld => ?_)
        generalize w7.drew = w8 at B5 BK BT B4 HB HO hHeld ⊢
        refine pure_ (i := 0) (N := some 70) (v := ?_) (a' := ?_) #[true, false, false, false, false, false] rfl rfl (by kernel_rfl) (fun _ _ _ h => h) (Or.inl ⟨by rfl, ?_⟩) ?_ ?_
        rotate_left
        ·intro w'
         go_simp
         with_reducible rfl
        rotate_left
        ·simp only [Act.put, List.setIfInBounds_toArray, List.set_cons_zero, List.set_cons_succ, i64_w, i32_w]
         rfl
        refine take_ (i := 1) (N := some 71) (v := ?_) (a' := ?_) #[true, true, false, false, false, false] rfl rfl (by kernel_rfl) (fun _ _ _ h => h) (Or.inl ⟨by rfl, ?_⟩) hHeld ?_ ?_
        rotate_left
        ·rintro w' ⟨s0, s1⟩
         go_simp
         with_reducible rfl
        rotate_left
        ·simp only [Act.put, List.setIfInBounds_toArray, List.set_cons_zero, List.set_cons_succ, i64_w, i32_w]
         rfl
        refine pure_ (i := 2) (N := some 72) (v := ?_) (a' := ?_) #[true, true, true, false, false, false] rfl rfl (by kernel_rfl) (fun _ _ _ h => h) (Or.inl ⟨by rfl, ?_⟩) ?_ ?_
        rotate_left
        ·intro w'
         go_simp
         with_reducible rfl
        rotate_left
        ·simp only [Act.put, List.setIfInBounds_toArray, List.set_cons_zero, List.set_cons_succ, i64_w, i32_w]
         rfl
        refine take_ (i := 3) (N := some 73) (v := ?_) (a' := ?_) #[true, true, true, true, false, false] rfl rfl (by kernel_rfl) (fun _ _ _ h => h) (Or.inl ⟨by rfl, ?_⟩) hHeld ?_ ?_
        rotate_left
        ·rintro w' ⟨s0, s1⟩
         go_simp
         with_reducible rfl
        rotate_left
        ·simp only [Act.put, List.setIfInBounds_toArray, List.set_cons_zero, List.set_cons_succ, i64_w, i32_w]
         rfl
        refine pure_ (i := 4) (N := some 12) (v := ?_) (a' := ?_) #[true, true, true, true, true, false] rfl rfl (by kernel_rfl) (fun _ _ _ h => h) (Or.inl ⟨by rfl, ?_⟩) ?_ ?_
        rotate_left
        ·intro w'
         go_simp
         with_reducible rfl
        rotate_left
        ·simp only [Act.put, List.setIfInBounds_toArray, List.set_cons_zero, List.set_cons_succ, i64_w, i32_w]
         rfl
        refine pure_ (i := 5) (N := some 13) (v := ?_) (a' := ?_) #[true, true, true, true, true, true] rfl rfl (by kernel_rfl) (fun _ _ _ h => h) (Or.inl ⟨by rfl, ?_⟩) ?_ ?_
        rotate_left
        ·intro w'
         go_simp
         with_reducible rfl
        rotate_left
        ·simp only [Act.put, List.setIfInBounds_toArray, List.set_cons_zero, List.set_cons_succ, i64_w, i32_w]
         rfl
        refine done_ (by kernel_rfl) ?_
        go_wp2_with ((with_reducible refine gate_builtin (b := .append) (xs := #[.tmp 74, .tmp 76]) rfl ?_); (try (refine gate_guard (by rfl) ?_; dsimp only)); at_builtin; refine Kd.R_append (Kd.int .i64) (w0 := w) w.heap.size rfl (.tmp 74) (.tmp 76) 24 3 (.int .i64 0) 8 rfl Try.underlying24 info3 rfl (by decide) (by omega) u11 o (tg T1 (4 * (a + 1).toNat + c.toNat)).nx [.int .i64 (tg T1 (4 * (a + 1).toNat + c.toNat)).nx] (fun _ => True) (fun _ => False) rfl rfl ?aP (fun _ hk => hk.elim) ?aF ?aO ?aB ?aS ?aL ?_; (case aP => exact rfl); (case aB => exact (bv_ HB.out)); (case aF => exact (fun _ _ => trivial)); (case aO => exact (rv_ HO.out)); (case aS => exact (below_size (bv_ HB.out))); (case aL => have := LO.out; omega); intro v9 w9 ho hb hg hat; have nBK := a_ (blk_grown (g := gb) (kv_ BK.out) hg (Kd.R_ne HO.out BK.out (by decide))); have nBT := a_ (blk_grown (g := gt) (kv_ BT.out) hg (Kd.R_ne HO.out BT.out (by decide))); have nB4 := a_ (blk_grown (g := g4) (kv_ B4.out) hg (Kd.R_ne HO.out B4.out (by decide))); have nHB := a_ hb; have nHO := a_ ho; clear ho hb hg hat)
        go_roundg k2
        case measure => omega
        case rel => exact ⟨_, _, _, rfl, rfl, HA, ⟨by have := HK1.out; omega⟩, nHO, nBK, nBT, nB4, nHB⟩
       ·rw [if_neg an] at h
        obtain rfl := Option.some.inj h
        have anb : decide (a < (l0.length : Int) - 1) = false := decide_eq_false an
        clear an h
        go_upto_region 18 with (fail)
        have nB4 := a_ (blk_drew B4.out)
        have nHB := a_ (below_drew1 HB.out)
        have nHO := a_ (Kd.R_drew HO.out)
        clear B4 HB HO
        have B4 := nB4
        have HB := nHB
        have HO := nHO
        clear nB4 nHB nHO
        refine start_ (n := 6) (S := fun w' => w'.cell? ⟨g4, 1, none⟩ = some (.int .i64 (tg T1 2).dm) ∧ w'.cell? ⟨g4, 2, none⟩ = some (.int .i64 (tg T1 2).nx)) (ds := []) #[false, false, false, false, false, false] (by kernel_rfl) rfl rfl ⟨(blk_cell B4.out 1).trans rfl, (blk_cell B4.out 2).trans rfl⟩ (fun hHeld => ?_)
        generalize wr.drew = w8 at B4 HB HO hHeld ⊢
        refine pure_ (i := 0) (N := some 78) (v := ?_) (a' := ?_) #[true, false, false, false, false, false] rfl rfl (by kernel_rfl) (fun _ _ _ h => h) (Or.inl ⟨by rfl, ?_⟩) ?_ ?_
        rotate_left
        ·intro w'
         go_simp
         with_reducible rfl
        rotate_left
        ·simp only [Act.put, List.setIfInBounds_toArray, List.set_cons_zero, List.set_cons_succ, i64_w, i32_w]
         rfl
        refine pure_ (i := 1) (N := some 79) (v := ?_) (a' := ?_) #[true, true, false, false, false, false] rfl rfl (by kernel_rfl) (fun _ _ _ h => h) (Or.inl ⟨by rfl, ?_⟩) ?_ ?_
        rotate_left
        ·intro w'
         go_simp
         with_reducible rfl
        rotate_left
        ·simp only [Act.put, List.setIfInBounds_toArray, List.set_cons_zero, List.set_cons_succ, i64_w, i32_w]
         rfl
        refine take_ (i := 2) (N := some 80) (v := ?_) (a' := ?_) #[true, true, true, false, false, false] rfl rfl (by kernel_rfl) (fun _ _ _ h => h) (Or.inl ⟨by rfl, ?_⟩) hHeld ?_ ?_
        rotate_left
        ·rintro w' ⟨s0, s1⟩
         go_simp
         with_reducible rfl
        rotate_left
        ·simp only [Act.put, List.setIfInBounds_toArray, List.set_cons_zero, List.set_cons_succ, i64_w, i32_w]
         rfl
        refine pure_ (i := 3) (N := some 6) (v := ?_) (a' := ?_) #[true, true, true, true, false, false] rfl rfl (by kernel_rfl) (fun _ _ _ h => h) (Or.inl ⟨by rfl, ?_⟩) ?_ ?_
        rotate_left
        ·intro w'
         go_simp
         with_reducible rfl
        rotate_left
        ·simp only [Act.put, List.setIfInBounds_toArray, List.set_cons_zero, List.set_cons_succ, i64_w, i32_w]
         rfl
        refine pure_ (i := 4) (N := some 7) (v := ?_) (a' := ?_) #[true, true, true, true, true, false] rfl rfl (by kernel_rfl) (fun _ _ _ h => h) (Or.inl ⟨by rfl, ?_⟩) ?_ ?_
        rotate_left
        ·intro w'
         go_simp
         with_reducible rfl
        rotate_left
        ·simp only [Act.put, List.setIfInBounds_toArray, List.set_cons_zero, List.set_cons_succ, i64_w, i32_w]
         rfl
        refine pure_ (i := 5) (N := some 8) (v := ?_) (a' := ?_) #[true, true, true, true, true, true] rfl rfl (by kernel_rfl) (fun _ _ _ h => h) (Or.inl ⟨by rfl, ?_⟩) ?_ ?_
        rotate_left
        ·intro w'
         go_simp
         with_reducible rfl
        rotate_left
        ·simp only [Act.put, List.setIfInBounds_toArray, List.set_cons_zero, List.set_cons_succ, i64_w, i32_w]
         rfl
        refine done_ (by kernel_rfl) ?_
        (try go_wp2)
        go_ret3
        exact ⟨_, rfl, HO.out, HB.out⟩

end Go.Proofs.Ytnkdopihaohimaa.PBr

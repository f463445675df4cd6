/- Written by a program of this session: functions of the given program as plain Lean functions, the walks that show it, and the row of each law, for every input that its statement speaks of. -/
import Derived.Test.YtpfnfofaajpdmaaPWix0
import Derived.Test.YtpfnfofaajpdmaaPWix15
import Derived.Test.YtpfnfofaajpdmaaPWix19
namespace Go.Proofs.Ytpfnfofaajpdmaa.PWi
open Go.RowKit Go.Proofs.YtpfnfofaajpdmaaW.PrintWords Go.Proofs.YtpfnfofaajpdmaaW.PrintLast Go.Proofs.YtpfnfofaajpdmaaW.PrintMore
attribute [local go_sem] max2_int min2_int max_two min_two max_three min_three max_four min_four   -- for this text's walks alone
set_option linter.unusedVariables false
set_option linter.unusedSimpArgs false

/-! ### variorumref10_Apart: function 40 -/
def variorumref10_Apart.f (a0 : Int) (a1 : Int) : Option (Int) := if a0 > (wrap64 (a1 + 1)) then (some 10000) else (if (wrap64 (a0 + 1)) < a1 then (some 10000) else (some 0))
set_option maxHeartbeats 8000000 in
set_option maxRecDepth 100000 in
theorem variorumref10_Apart.calls (a0 : Int) (a1 : Int) (r : Int) (w : World) (h : variorumref10_Apart.f a0 a1 = some r) :
  Calls Try.prog 40 #[.int .i64 a0, .int .i64 a1] w fun e w' => e = .returned (.int .i64 r) ∧ Drawn0 w w' := by
 have H : (if a0 > (wrap64 (a1 + 1)) then (some 10000) else (if (wrap64 (a0 + 1)) < a1 then (some 10000) else (some 0))) = some r := h
 clear h
 by_cases c3 : a0 > (wrap64 (a1 + 1))
 ·rw [if_pos c3] at H
  have c3b0 : decide ((wrap64 (a1 + 1)) < a0) = true := decide_eq_true c3
  clear c3
  obtain rfl := Option.some.inj H
  go_enter Try.func40, Try.ntmps40
  go_wp2
  go_ret
  exact ⟨by first | rfl | (simp; done) | (simp [*]; done), by repeat (first | exact Drawn0.refl _ | apply Drawn0.step)⟩
 ·rw [if_neg c3] at H
  have c3b0 : decide ((wrap64 (a1 + 1)) < a0) = false := decide_eq_false c3
  clear c3
  by_cases c4 : (wrap64 (a0 + 1)) < a1
  ·rw [if_pos c4] at H
   have c4b0 : decide ((wrap64 (a0 + 1)) < a1) = true := decide_eq_true c4
   clear c4
   obtain rfl := Option.some.inj H
   go_enter Try.func40, Try.ntmps40
   go_wp2
   go_ret
   exact ⟨by first | rfl | (simp; done) | (simp [*]; done), by repeat (first | exact Drawn0.refl _ | apply Drawn0.step)⟩
  ·rw [if_neg c4] at H
   have c4b0 : decide ((wrap64 (a0 + 1)) < a1) = false := decide_eq_false c4
   clear c4
   obtain rfl := Option.some.inj H
   go_enter Try.func40, Try.ntmps40
   go_wp2
   go_ret
   exact ⟨by first | rfl | (simp; done) | (simp [*]; done), by repeat (first | exact Drawn0.refl _ | apply Drawn0.step)⟩

section
variable {P : Program} {ops : Array Oper} {Q : Exit → Act → World → Prop} {rest : List Oper} {a : Act} {o : Oper}
theorem make_event {W : World} {cs : Array Value} {t : TypeId} {n : Nat} (hgd : o.guard = none)
  (hrun : (execOp a.eval o).run P W = .ok (.value (.slice (some ⟨W.heap.size, 0, none⟩) n n)) (W.alloc (.cells cs t (0, 0))))
  (h : ∀ g, g = W.heap.size → ∀ w1, w1.heap[g]? = some (.cells cs t (0, 0)) → Below W.heap.size W w1 → wpList P ops Q rest (a.put o.dst (.slice (some ⟨g, 0, none⟩) n n)) w1) : wpList P ops Q (o :: rest) a W :=
 Kd.event_run hgd hrun (h _ rfl _ (blk_new W _) (below_alloc (Below.refl _ _) _))
end

/-! ### variorumref11_Best: by hand -/
/-- What the document's answer knows of a way to the end: is there one, its demerits, its breaks. -/
structure WL where
 ok : Bool
 dm : Int
 bs : List Int
def WL0 : WL := ⟨false, 0, []⟩
def wg (T : List WL) (i : Nat) : WL := T.getD i WL0
def rb.put (T : List WL) (j : Nat) (n : Int) (bs : List Int) : List WL := if (wg T j).ok = true then (if n < (wg T j).dm then T.set j ⟨true, n, bs⟩ else T) else T.set j ⟨true, n, bs⟩
def rb.l : Nat → Nat → Int → Int → List Int → Int → Int → List WL → Int → Option (List WL)
 | 0, _, _, _, _, _, _, _, _ => none
 | k + 1, p, d, e, bs, b, c, T, i => if i < 4 then (if 0 ≤ i then (variorumref10_Apart.f c i).bind fun t => rb.l k p d e bs b c (rb.put T (p + i.toNat) (wrap64 (wrap64 (d + t) + e)) (b :: bs)) (wrap64 (i + 1)) else none) else some T
def rb.rest (l : List S40) (T : List WL) (b c : Int) : WL := if b = (l.length : Int) - 1 then ⟨true, 0, []⟩ else wg T (4 * (b + 1).toNat + c.toNat)
def rb.opt (l : List S40) (T : List WL) (a b d c : Int) : Option (List WL) :=
 if 0 ≤ c then (if c < 4 then (if (rb.rest l T b c).ok = true then (if (rb.rest l T b c).bs.length < 1000000000 then rb.l 5 (4 * (a + 1).toNat) d (rb.rest l T b c).dm (rb.rest l T b c).bs b c T 0 else none) else some T) else none) else none
def rb.lb : Nat → List S40 → Int → Int → Int → List WL → Int → Option (List WL)
 | 0, _, _, _, _, _, _ => none
 | k + 1, l, w, tol, a, T, b => if b < (l.length : Int) then (if 0 ≤ b then (variorumref10_Cost.f k l a b w tol).bind fun x => (if x.2.2 = true then rb.opt l T a b x.1 x.2.1 else some T).bind fun T1 => rb.lb k l w tol a T1 (wrap64 (b + 1)) else none) else some T
def rb.t (k : Nat) (l : List S40) (a : Int) : Option Bool := if a ≥ 0 then variorumref10_Legal.f k l a else some true
def rb.la : Nat → List S40 → Int → Int → List WL → Int → Option (List WL)
 | 0, _, _, _, _, _ => none
 | k + 1, l, w, tol, T, a => if a ≥ -1 then (if a < (l.length : Int) then (rb.t k l a).bind fun t => (if t = true then rb.lb k l w tol a T (a + 1) else some T).bind fun T1 => rb.la k l w tol T1 (wrap64 (a - 1)) else none) else some T
def variorumref11_Best.f (k : Nat) (l : List S40) (w tol : Int) : Option (List Int × Int × Bool) := (variorumref09_May.f k l).bind fun t => if t = true then (if l.length = 0 then some ([], 0, false) else if l.length ≤ 100000 then (rb.la k l w tol (List.replicate (4 * (l.length + 1)) WL0) ((l.length : Int) - 1)).bind fun T => some ((wg T 2).bs, (wg T 2).dm, (wg T 2).ok) else none) else some ([], 0, false)
theorem rb.mono_b : ∀ k l w tol a T b, LeO (rb.lb k l w tol a T b) (rb.lb (k + 1) l w tol a T b)
 | 0 => fun _ _ _ _ _ _ r h => by simp [rb.lb] at h
 | k + 1 => by
  intro l w tol a T b
  have ih := rb.mono_b k
  unfold rb.lb
  exact LeO.ite (LeO.ite (LeO.bind (variorumref10_Cost.mono _ _ _ _ _ _) (fun _ => LeO.bind (LeO.refl _) (fun _ => ih _ _ _ _ _ _))) (LeO.refl _)) (LeO.refl _)
theorem rb.mono_t (l : List S40) (a : Int) (k : Nat) : LeO (rb.t k l a) (rb.t (k + 1) l a) := by
 unfold rb.t
 exact LeO.ite (variorumref10_Legal.mono _ _ _) (LeO.refl _)
theorem rb.mono_a : ∀ k l w tol T a, LeO (rb.la k l w tol T a) (rb.la (k + 1) l w tol T a)
 | 0 => fun _ _ _ _ _ r h => by simp [rb.la] at h
 | k + 1 => by
  intro l w tol T a
  have ih := rb.mono_a k
  unfold rb.la
  exact LeO.ite (LeO.ite (LeO.bind (rb.mono_t _ _ _) (fun _ => LeO.bind (LeO.ite (rb.mono_b _ _ _ _ _ _ _) (LeO.refl _)) (fun _ => ih _ _ _ _ _))) (LeO.refl _)) (LeO.refl _)
theorem variorumref11_Best.mono : ∀ a0 a1 a2 k, LeO (variorumref11_Best.f k a0 a1 a2) (variorumref11_Best.f (k + 1) a0 a1 a2) := by
 intro a0 a1 a2 k
 unfold variorumref11_Best.f
 exact LeO.bind (variorumref09_May.mono _ _) (fun _ => LeO.ite (LeO.ite (LeO.refl _) (LeO.ite (LeO.bind (rb.mono_a _ _ _ _ _ _) (fun _ => LeO.refl _)) (LeO.refl _))) (LeO.refl _))

/-! The document's table of ways, as it lies in one block: three cells a way, the third a row of one's own -/
structure RWT (base g : Nat) (w : World) (T : List WL) : Prop where
 h : ∃ cs : Array Value, w.heap[g]? = some (.cells cs 79 (0, 0)) ∧ cs.size = 3 * T.length ∧ ∀ j, j < T.length → ∃ v, cs[3 * j]? = some (.bool (wg T j).ok) ∧ cs[3 * j + 1]? = some (.int .i64 (wg T j).dm) ∧ cs[3 * j + 2]? = some v ∧ Kd.R (Kd.int .i64) 3 w base (fun _ => True) v (wg T j).bs
theorem RWT.get {base g : Nat} {w : World} {T : List WL} (h : RWT base g w T) {j n : Nat} (hj : j < T.length) (hn : n = 3 * j) : ∃ A c, w.cell? ⟨g, n, none⟩ = some (.bool (wg T j).ok) ∧ w.cell? ⟨g, n + 1, none⟩ = some (.int .i64 (wg T j).dm) ∧ w.cell? ⟨g, n + 2, none⟩ = some (.slice A (wg T j).bs.length c) ∧ Kd.R (Kd.int .i64) 3 w base (fun _ => True) (.slice A (wg T j).bs.length c) (wg T j).bs := by
 subst hn
 obtain ⟨cs, hb, _, hc⟩ := h.h
 obtain ⟨v, h1, h2, h3, h4⟩ := hc j hj
 obtain ⟨A, c, rfl⟩ := Kd.R_slice h4
 exact ⟨A, c, (blk_cell hb _).trans h1, (blk_cell hb _).trans h2, (blk_cell hb _).trans h3, h4⟩
theorem RWT.frozen {base g : Nat} {w : World} {T : List WL} (h : RWT base g w T) (n : Nat) : w.frozen? ⟨g, n, none⟩ = false := by
 obtain ⟨cs, hb, _⟩ := h.h
 exact blk_frozen hb n
theorem RWT.below {base g : Nat} {w w' : World} {T : List WL} (h : RWT base g w T) (hb : Below w.heap.size w w') : RWT base g w' T := by
 obtain ⟨cs, h1, h2, h3⟩ := h.h
 refine ⟨cs, blk_below h1 hb, h2, fun j hj => ?_⟩
 obtain ⟨v, a, b, c, d⟩ := h3 j hj
 exact ⟨v, a, b, c, Kd.R_below d hb⟩
theorem RWT.aside {base g : Nat} {w : World} {T : List WL} (h : RWT base g w T) {g' t : Nat} {cs' : Array Value} (hb : w.heap[g']? = some (.cells cs' t (0, 0))) (ht : t ≠ 79) (h3 : t ≠ 3) (j : Nat) (u : Value) : RWT base g (w.setCell ⟨g', j, none⟩ u) T := by
 obtain ⟨cs, h1, h2, h4⟩ := h.h
 refine ⟨cs, blk_far h1 (p := ⟨g', j, none⟩) (blk_ne h1 hb (fun e => ht e.symm)) _, h2, fun i hi => ?_⟩
 obtain ⟨v, a, b, c, d⟩ := h4 i hi
 refine ⟨v, a, b, c, Kd.R_set d hb (fun q hq => ?_) j u⟩
 simp only [Kd.int, Kd.scalar, List.mem_cons, List.not_mem_nil, or_false] at hq
 rw [hq]; exact fun e => h3 e.symm
theorem wg_set {T : List WL} {j : Nat} (h : j < T.length) (x : WL) (i : Nat) : wg (T.set j x) i = if i = j then x else wg T i := by
 unfold wg
 rw [List.getD_eq_getElem?_getD, List.getD_eq_getElem?_getD, List.getElem?_set]
 by_cases e : j = i
 ·subst e; rw [if_pos rfl, if_pos rfl, if_pos h]; rfl
 ·rw [if_neg e, if_neg (fun q => e q.symm)]
theorem RWT.put {base g : Nat} {w : World} {T : List WL} (h : RWT base g w T) {j n : Nat} (hj : j < T.length) (hn : n = 3 * j) (m : Int) {v : Value} {bs : List Int} (hv : Kd.R (Kd.int .i64) 3 w base (fun _ => True) v bs) :
  RWT base g (((w.setCell ⟨g, n, none⟩ (.bool true)).setCell ⟨g, n + 1, none⟩ (.int .i64 m)).setCell ⟨g, n + 2, none⟩ v) (T.set j ⟨true, m, bs⟩) := by
 subst hn
 obtain ⟨cs, h1, h2, h4⟩ := h.h
 have b1 := blk_set h1 (3 * j) (.bool true)
 have b2 := blk_set b1 (3 * j + 1) (.int .i64 m)
 have b3 := blk_set b2 (3 * j + 2) v
 have ty : ∀ q, q ∈ 3 :: (Kd.int .i64).E → q ≠ 79 := by
  intro q hq
  simp only [Kd.int, Kd.scalar, List.mem_cons, List.not_mem_nil, or_false] at hq
  rw [hq]; decide
 have mv : ∀ {u : Value} {xs : List Int}, Kd.R (Kd.int .i64) 3 w base (fun _ => True) u xs → Kd.R (Kd.int .i64) 3 (((w.setCell ⟨g, 3 * j, none⟩ (.bool true)).setCell ⟨g, 3 * j + 1, none⟩ (.int .i64 m)).setCell ⟨g, 3 * j + 2, none⟩ v) base (fun _ => True) u xs := fun hu => Kd.R_set (Kd.R_set (Kd.R_set hu h1 ty _ _) b1 ty _ _) b2 ty _ _
 refine ⟨_, b3, by simp only [Array.size_setIfInBounds, List.length_set]; exact h2, fun i hi => ?_⟩
 rw [List.length_set] at hi
 rw [wg_set hj]
 have hs : ∀ k, (((cs.setIfInBounds (3 * j) (.bool true)).setIfInBounds (3 * j + 1) (.int .i64 m)).setIfInBounds (3 * j + 2) v)[k]? = if k = 3 * j + 2 then (if k < cs.size then some v else none) else if k = 3 * j + 1 then (if k < cs.size then some (.int .i64 m) else none) else if k = 3 * j then (if k < cs.size then some (.bool true) else none) else cs[k]? := by
  intro k
  rw [Array.getElem?_setIfInBounds, Array.getElem?_setIfInBounds, Array.getElem?_setIfInBounds]
  simp only [Array.size_setIfInBounds, eq_comm]
  repeat' split
  all_goals first | rfl | omega
 by_cases e : i = j
 ·subst e
  rw [if_pos rfl]
  refine ⟨v, ?_, ?_, ?_, mv hv⟩
  ·rw [hs, if_neg (by omega), if_neg (by omega), if_pos rfl, if_pos (by omega)]
  ·rw [hs, if_neg (by omega), if_pos rfl, if_pos (by omega)]
  ·rw [hs, if_pos rfl, if_pos (by omega)]
 ·rw [if_neg e]
  obtain ⟨u, a, b, c, d⟩ := h4 i hi
  refine ⟨u, ?_, ?_, ?_, mv d⟩
  ·rw [hs, if_neg (by omega), if_neg (by omega), if_neg (by omega)]; exact a
  ·rw [hs, if_neg (by omega), if_neg (by omega), if_neg (by omega)]; exact b
  ·rw [hs, if_neg (by omega), if_neg (by omega), if_neg (by omega)]; exact c
theorem rb.put_len (T : List WL) (j : Nat) (n : Int) (bs : List Int) : (rb.put T j n bs).length = T.length := by
 unfold rb.put
 repeat' split
 all_goals first | rfl | exact List.length_set ..
theorem rb.len_l : ∀ (k p : Nat) (d e : Int) (bs : List Int) (b c : Int) (T : List WL) (i : Int) (T' : List WL), rb.l k p d e bs b c T i = some T' → T'.length = T.length
 | 0, _, _, _, _, _, _, _, _, _ => fun h => by simp [rb.l] at h
 | k + 1, p, d, e, bs, b, c, T, i, T' => fun h => by
  simp only [rb.l] at h
  split at h
  ·split at h
   ·obtain ⟨t, _, h⟩ := Option.bind_eq_some_iff.mp h
    rw [rb.len_l k _ _ _ _ _ _ _ _ _ h, rb.put_len]
   ·exact absurd h (by simp)
  ·rw [Option.some.inj h]
theorem rb.len_o {l : List S40} {T T' : List WL} {a b d c : Int} (h : rb.opt l T a b d c = some T') : T'.length = T.length := by
 unfold rb.opt at h
 split at h
 ·split at h
  ·split at h
   ·split at h
    ·exact rb.len_l _ _ _ _ _ _ _ _ _ _ h
    ·exact absurd h (by simp)
   ·rw [Option.some.inj h]
  ·exact absurd h (by simp)
 ·exact absurd h (by simp)
def z12 : Array Value := #[.bool false, .int .i64 0, .slice none 0 0, .bool false, .int .i64 0, .slice none 0 0, .bool false, .int .i64 0, .slice none 0 0, .bool false, .int .i64 0, .slice none 0 0]
theorem info79 : (Try.prog.info? 79).map (fun i => (i.zero, i.size, i.bytes)) = some (some (.agg z12), 12, 160) := by kernel_rfl
def ways0 (n : Nat) : Array Value := madeCells z12 ((n + 1) * 12)
theorem ways_made (n : Nat) (hn : n ≤ 100000) (W : World) : (Instr.makeSlice 74 (.int .i64 ((n : Int) + 1)) (.int .i64 ((n : Int) + 1))).run Try.prog W = .ok (.slice (some ⟨W.heap.size, 0, none⟩) (n + 1) (n + 1)) (W.alloc (.cells (ways0 n) 79)) := by
 obtain ⟨i0, hi, hzz⟩ := Option.map_eq_some_iff.1 info79
 simp only [Prod.mk.injEq] at hzz
 obtain ⟨hz0, hz1, hz2⟩ := hzz
 have hr := run_make (P := Try.prog) W 74 79 i0 (.agg z12) Try.underlying74 hi hz0 .i64 .i64 ((n + 1 : Nat) : Int) ((n + 1 : Nat) : Int) (by omega) (by omega) (by rw [hz2]; omega) (by omega)
 simp only [Int.toNat_natCast] at hr
 rw [hz1, show (Value.agg z12).cells = z12 from rfl] at hr
 rw [show ((n : Int) + 1) = ((n + 1 : Nat) : Int) by omega]
 exact hr
theorem ways_new {base g n : Nat} {w : World} (h : w.heap[g]? = some (.cells (ways0 n) 79 (0, 0))) : RWT base g w (List.replicate (4 * (n + 1)) WL0) := by
 have wn : ∀ i, wg (List.replicate (4 * (n + 1)) WL0) i = WL0 := fun i => by
  unfold wg
  rw [List.getD_eq_getElem?_getD, List.getElem?_replicate]
  split <;> rfl
 unfold ways0 at h
 refine ⟨_, h, by rw [size_madeCells, List.length_replicate]; omega, fun j hj => ?_⟩
 rw [List.length_replicate] at hj
 rw [wn]
 have hs : ∀ k, k < (n + 1) * 12 → (madeCells z12 ((n + 1) * 12))[k]? = some (z12[k % 12]!) := fun k hk => by
  rw [Array.getElem?_eq_getElem (by rw [size_madeCells]; exact hk)]
  simp [madeCells, z12]
 have m : j % 4 < 4 := Nat.mod_lt _ (by omega)
 have key : ∀ q, q < 4 → z12[3 * q]! = .bool false ∧ z12[3 * q + 1]! = .int .i64 0 ∧ z12[3 * q + 2]! = .slice none 0 0 := by
  intro q hq
  have : q = 0 ∨ q = 1 ∨ q = 2 ∨ q = 3 := by omega
  rcases this with rfl | rfl | rfl | rfl <;> exact ⟨rfl, rfl, rfl⟩
 have k2 := key (j % 4) m
 refine ⟨.slice none 0 0, ?_, ?_, ?_, Kd.R_nil _ _ _ _ _⟩
 ·rw [hs _ (by omega), show 3 * j % 12 = 3 * (j % 4) by omega, k2.1]; rfl
 ·rw [hs _ (by omega), show (3 * j + 1) % 12 = 3 * (j % 4) + 1 by omega, k2.2.1]; rfl
 ·rw [hs _ (by omega), show (3 * j + 2) % 12 = 3 * (j % 4) + 2 by omega, k2.2.2]
theorem RWT.row3 {base g : Nat} {w : World} {T : List WL} (h : RWT base g w T) {v : Value} {xs : List Int} {b2 : Nat} {ok : Nat → Prop} (hv : Kd.R (Kd.int .i64) 3 w b2 ok v xs) (n : Nat) (x y z : Value) : Kd.R (Kd.int .i64) 3 (((w.setCell ⟨g, n, none⟩ x).setCell ⟨g, n + 1, none⟩ y).setCell ⟨g, n + 2, none⟩ z) b2 ok v xs := by
 obtain ⟨cs, h1, _⟩ := h.h
 have ty : ∀ q, q ∈ 3 :: (Kd.int .i64).E → q ≠ 79 := by
  intro q hq
  simp only [Kd.int, Kd.scalar, List.mem_cons, List.not_mem_nil, or_false] at hq
  rw [hq]; decide
 exact Kd.R_set (Kd.R_set (Kd.R_set hv h1 ty _ _) (blk_set h1 n x) ty _ _) (blk_set (blk_set h1 n x) (n + 1) y) ty _ _
theorem RWT.blk3 {base g : Nat} {w : World} {T : List WL} (h : RWT base g w T) {g' t : Nat} {cs' : Array Value} (hb : w.heap[g']? = some (.cells cs' t (0, 0))) (ht : t ≠ 79) (n : Nat) (x y z : Value) : (((w.setCell ⟨g, n, none⟩ x).setCell ⟨g, n + 1, none⟩ y).setCell ⟨g, n + 2, none⟩ z).heap[g']? = some (.cells cs' t (0, 0)) := by
 obtain ⟨cs, h1, _⟩ := h.h
 have ne : g' ≠ g := blk_ne hb h1 ht
 exact blk_far (blk_far (blk_far hb (p := ⟨g, n, none⟩) ne _) (p := ⟨g, n + 1, none⟩) ne _) (p := ⟨g, n + 2, none⟩) ne _
theorem one_row (W : World) (b : Int) : Kd.R (Kd.int .i64) 3 (W.alloc (.cells #[.int .i64 b] 3)) W.heap.size (fun _ => True) (.slice (some ⟨W.heap.size, 0, none⟩) 1 1) [b] := by
 refine ⟨fun _ _ => trivial, [.int .i64 b], ?_, ?_⟩
 ·exact World.ownsRow_lit (base := W.heap.size) (e := 3) (size := 1) W #[.int .i64 b] 1 (Nat.le_refl _) (by simp [maxLen]) (by simp)
 ·exact Reps.one rfl (Reps.none _ _)

/-! the document's Best -/
set_option maxHeartbeats 8000000 in
set_option maxRecDepth 100000 in
theorem variorumref11_Best.calls (k : Nat) (A0 : Option Addr) (c0 : Nat) (l0 : List (S40)) (a1 : Int) (a2 : Int) (r1 : List Int) (r2 : Int) (r3 : Bool) (w : World) (hr0 : Kd.C k40 w A0 l0.length l0) (hc0 : l0.length ≤ c0) (h : variorumref11_Best.f k l0 a1 a2 = some (r1, r2, r3)) :
  Calls Try.prog 25 #[.slice A0 l0.length c0, .int .i64 a1, .int .i64 a2] w fun e w' => ∃ v0_ : Value, e = .returned (.tuple #[v0_, .int .i64 r2, .bool r3]) ∧ Kd.R (Kd.int .i64) 3 w' w.heap.size (fun _ => True) v0_ r1 ∧ Below w.heap.size w w' := by
 have hu22 := Try.underlying22
 have hu23 := Try.underlying23
 have hu74 := Try.underlying74
 have hu78 := Try.underlying78
 have hu79 := Try.underlying79
 have HR := a_ hr0
 have HC := a_ hc0
 have HB := a_ (Below.refl w.heap.size w)
 clear hr0 hc0
 unfold variorumref11_Best.f at h
 obtain ⟨t, hm, h⟩ := Option.bind_eq_some_iff.mp h
 have HM := a_ hm
 clear hm
 cases t with
 | false =>
  rw [if_neg (by decide)] at h
  simp only [Option.some.injEq, Prod.mk.injEq] at h
  obtain ⟨rfl, rfl, rfl⟩ := h
  go_enter Try.func25, Try.ntmps25
  go_wp2_with (go_at_call 15; refine (variorumref09_May.calls k A0 c0 l0 false w HR.out HC.out HM.out).mono ?_; rintro e w1 ⟨rfl, hb⟩; have nHB := a_ (below_step HB.out hb); clear hb HB; have HB := nHB; clear nHB)
  go_ret3
  exact ⟨_, rfl, Kd.R_nil _ _ _ _ _, HB.out⟩
 | true =>
  rw [if_pos rfl] at h
  by_cases hz : l0.length = 0
  ·rw [if_pos hz] at h
   simp only [Option.some.injEq, Prod.mk.injEq] at h
   obtain ⟨rfl, rfl, rfl⟩ := h
   have e0 : ((l0.length : Int) == 0) = true := by rw [hz]; rfl
   clear hz
   go_enter Try.func25, Try.ntmps25
   go_wp2_with (go_at_call 15; refine (variorumref09_May.calls k A0 c0 l0 true w HR.out HC.out HM.out).mono ?_; rintro e w1 ⟨rfl, hb⟩; have nHB := a_ (below_step HB.out hb); clear hb HB; have HB := nHB; clear nHB)
   go_ret3
   exact ⟨_, rfl, Kd.R_nil _ _ _ _ _, HB.out⟩
  rw [if_neg hz] at h
  have e0 : ((l0.length : Int) == 0) = false := beq_eq_false_iff_ne.mpr (by omega)
  by_cases ln : l0.length ≤ 100000
  rotate_left
  ·rw [if_neg ln] at h; exact absurd h (by simp)
  rw [if_pos ln] at h
  obtain ⟨TF, hla, h⟩ := Option.bind_eq_some_iff.mp h
  have HL := a_ hla
  have H' := a_ h
  have LN2 := a_ ln
  clear ln hla h hz
  have hw1 : wrap64 ((l0.length : Int) + 1) = (l0.length : Int) + 1 := by (have := LN2.out; unfold wrap64; omega)
  have hw2 : wrap64 ((l0.length : Int) - 1) = (l0.length : Int) - 1 := by (have := LN2.out; unfold wrap64; omega)
  have hmk : ∀ W : World, (Instr.makeSlice 74 (.int .i64 ((l0.length : Int) + 1)) (.int .i64 ((l0.length : Int) + 1))).run Try.prog W = .ok (.slice (some ⟨W.heap.size, 0, none⟩) (l0.length + 1) (l0.length + 1)) (W.alloc (.cells (ways0 l0.length) 79)) := by (have := LN2.out; exact ways_made l0.length (by omega))
  go_enter Try.func25, Try.ntmps25
  go_wp2_with (first | (go_at_call 15; refine (variorumref09_May.calls k A0 c0 l0 true w HR.out HC.out HM.out).mono ?_; rintro e w1 ⟨rfl, hb⟩; have nHB := a_ (below_step HB.out hb); clear hb HB; have HB := nHB; clear nHB) | ((with_reducible refine gate_dst (N := 33) rfl ?_); refine make_event ?hg (n := l0.length + 1) (cs := ways0 l0.length) (t := 79) ?hr ?_; (case hg => rfl); (case hr => first | (go_simp; done) | (go_simp; rfl)); intro gt hg w2 hbox hb; have GT := a_ (show w.heap.size ≤ gt by rw [hg]; exact (below_size (bv_ HB.out))); have BT := a_ (ways_new (base := w.heap.size) hbox); have nHB := a_ (bs_ HB.out hb); clear hb hbox hg HB; have HB := nHB; clear nHB))
  rw [hw2]
  clear e0 hmk
  go_loopg [11] k (fun kq v11 w' => ∃ (a : Int) (T1 : List WL), v11 = .int .i64 a ∧ Aside0 (rb.la kq l0 a1 a2 T1 a = some TF) ∧ Aside0 (kq ≤ k) ∧ Aside0 (T1.length = 4 * (l0.length + 1)) ∧ Aside0 (RWT w.heap.size gt w' T1) ∧ Aside0 (Below w.heap.size w w'))
  case atStart => exact ⟨_, _, rfl, HL, ⟨Nat.le_refl _⟩, ⟨List.length_replicate ..⟩, BT, HB⟩
  case round =>
   clear HL BT HB
   obtain ⟨a, T1, rfl, HA, HK1, HT1, BT, HB⟩ := hrel
   cases gk with
   | zero => exact absurd HA.out (by simp [rb.la])
   | succ k1 =>
    have h := HA.out
    clear HA
    simp only [rb.la] at h
    by_cases a0 : a ≥ -1
    ·rw [if_pos a0] at h
     by_cases al : a < (l0.length : Int)
     rotate_left
     ·rw [if_neg al] at h; exact absurd h (by simp)
     rw [if_pos al] at h
     obtain ⟨t, ht, h⟩ := Option.bind_eq_some_iff.mp h
     obtain ⟨T2, h2, h⟩ := Option.bind_eq_some_iff.mp h
     have HT := a_ ht
     have H2 := a_ h2
     have HA := a_ h
     have A0P := a_ a0
     have ALP := a_ al
     clear ht h2 h al
     have a0b : decide (-1 ≤ a) = true := decide_eq_true a0
     clear a0
     have hwa : wrap64 (a + 1) = a + 1 := by (have := LN2.out; have := A0P.out; have := ALP.out; unfold wrap64; omega)
     go_upto_region 8 with (fail)
     go_cut [47] (fun v47 wc => v47 = .bool (!t) ∧ Aside0 (RWT w.heap.size gt wc T1) ∧ Aside0 (Below w.heap.size w wc))
     case first =>
      have ht := HT.out
      clear HT
      unfold rb.t at ht
      by_cases am : a ≥ 0
      ·rw [if_pos am] at ht
       have HT := a_ ht
       have am0 : decide (0 ≤ a) = true := decide_eq_true am
       clear am ht
       go_wp2_with (go_at_call 32; refine (variorumref10_Legal.calls k1 A0 c0 l0 a t _ (Kd.C_below HR.out HB.out) HC.out HT.out).mono ?_; rintro e w5 ⟨rfl, ⟨nd, rfl⟩⟩)
       go_meet
       case rel => exact ⟨rfl, ⟨RWT.below BT.out (by first | exact Below.refl _ _ | exact pw_below_drewN (Below.refl _ _) _)⟩, ⟨bv_ HB.out⟩⟩
      ·rw [if_neg am] at ht
       obtain rfl := Option.some.inj ht
       have am0 : decide (0 ≤ a) = false := decide_eq_false am
       clear am ht
       go_wp2
       go_meet
       case rel => exact ⟨rfl, ⟨RWT.below BT.out (by first | exact Below.refl _ _ | exact pw_below_drewN (Below.refl _ _) _)⟩, ⟨bv_ HB.out⟩⟩
     case rest =>
      clear BT HB
      obtain ⟨rfl, BT, HB⟩ := hcut
      have h2 := H2.out
      clear H2
      cases t with
      | false =>
       rw [if_neg (by decide)] at h2
       obtain rfl := Option.some.inj h2
       clear h2
       have HT2 := HT1
       go_wp2
       go_roundg k1
       case measure => omega
       case rel => exact ⟨_, _, rfl, HA, ⟨by have := HK1.out; omega⟩, HT2, BT, HB⟩
      | true =>
       rw [if_pos rfl] at h2
       have HB2 := a_ h2
       clear h2
       go_wp2
       (try rw [hwa])
       go_loopg [12] k1 (fun kq v12 w' => ∃ (b : Int) (T3 : List WL), v12 = .int .i64 b ∧ Aside0 (rb.lb kq l0 a1 a2 a T3 b = some T2) ∧ Aside0 (kq ≤ k1) ∧ Aside0 (T3.length = 4 * (l0.length + 1)) ∧ Aside0 (RWT w.heap.size gt w' T3) ∧ Aside0 (Below w.heap.size w w'))
       case atStart => exact ⟨_, T1, rfl, HB2, ⟨Nat.le_refl _⟩, HT1, BT, HB⟩
       case round =>
        clear HB2 BT HB HT1
        obtain ⟨b, T3, rfl, HA2, HK2, HT3, BT, HB⟩ := hrel
        cases gk with
        | zero => exact absurd HA2.out (by simp [rb.lb])
        | succ k2 =>
         have h := HA2.out
         clear HA2
         simp only [rb.lb] at h
         by_cases b1 : b < (l0.length : Int)
         rotate_left
         ·rw [if_neg b1] at h
          obtain rfl := Option.some.inj h
          have b1b := decide_eq_false b1
          clear b1 h
          have HT2 := HT3
          go_wp2
          go_roundg k1
          case measure => omega
          case rel => exact ⟨_, _, rfl, HA, ⟨by have := HK1.out; omega⟩, HT2, BT, HB⟩
         rw [if_pos b1] at h
         by_cases bp : 0 ≤ b
         rotate_left
         ·rw [if_neg bp] at h; exact absurd h (by simp)
         rw [if_pos bp] at h
         obtain ⟨⟨d, c, ok⟩, hx, h⟩ := Option.bind_eq_some_iff.mp h
         obtain ⟨T4, ho, h⟩ := Option.bind_eq_some_iff.mp h
         dsimp only at ho
         have HX := a_ hx
         have HOP := a_ ho
         have HA2 := a_ h
         have B1P := a_ b1
         have BPP := a_ bp
         clear hx ho h bp
         have b1b := decide_eq_true b1
         clear b1
         go_upto_if 66 with (go_at_call 39; refine (variorumref10_Cost.calls k2 A0 c0 l0 a b a1 a2 d c ok _ (Kd.C_below HR.out HB.out) HC.out HX.out).mono ?_; rintro e w6 ⟨rfl, hb⟩; have nBT := a_ (RWT.below BT.out hb); have nHB := a_ (below_step HB.out hb); clear hb BT HB; have BT := nBT; have HB := nHB; clear nBT nHB)
         have ho := HOP.out
         clear HOP
         cases ok with
         | false =>
          rw [if_neg (by decide)] at ho
          obtain rfl := Option.some.inj ho
          clear ho
          have HT4 := HT3
          go_wp2
          go_roundg k2
          case measure => omega
          case rel => first | exact ⟨_, _, rfl, HA2, ⟨by have := HK2.out; omega⟩, HT4, BT, HB⟩ | exact ⟨_, _, rfl, HAW, ⟨by have := HK2.out; omega⟩, HT4, BT, HB⟩
         | true =>
          rw [if_pos rfl] at ho
          have HT4 := a_ (show T4.length = 4 * (l0.length + 1) by rw [rb.len_o ho]; exact HT3.out)
          unfold rb.opt at ho
          by_cases c0_ : 0 ≤ c
          rotate_left
          ·rw [if_neg c0_] at ho; exact absurd ho (by simp)
          rw [if_pos c0_] at ho
          by_cases c4_ : c < 4
          rotate_left
          ·rw [if_neg c4_] at ho; exact absurd ho (by simp)
          rw [if_pos c4_] at ho
          have HOP := a_ ho
          have C0P := a_ c0_
          have C4P := a_ c4_
          clear ho
          have hwb : wrap64 (b + 1) = b + 1 := by (have := LN2.out; have := BPP.out; have := B1P.out; unfold wrap64; omega)
          have HA3_ := a_ (show rb.lb k2 l0 a1 a2 a T4 (b + 1) = some T2 by (have q := HA2.out; rw [hwb] at q; exact q))
          have HAW := HA2
          clear HA2
          have HA2 := HA3_
          clear HA3_
          have JB := a_ (show 4 * (b + 1).toNat + c.toNat < T3.length by have := HT3.out; have := BPP.out; have := B1P.out; have := C0P.out; have := C4P.out; omega)
          have hand : bits BinOp.and IntKind.i64 c 3 = c := by (have q0 := C0P.out; have q4 := C4P.out; have q : c = 0 ∨ c = 1 ∨ c = 2 ∨ c = 3 := (by omega); clear q0 q4; rcases q with e | e | e | e <;> rw [e] <;> decide)
          replace c0_ := eq_true c0_
          replace c4_ := eq_true c4_
          have i0 := eq_true (show (0 : Int) ≤ b + 1 by have := BPP.out; omega)
          have i1 := eq_true (show b + 1 < (l0.length : Int) + 1 by have := B1P.out; omega)
          have i2 := eq_true (show b < (l0.length : Int) from B1P.out)
          obtain ⟨AJ, cJ, hj_0, hj_1, hj_2, hjr⟩ := RWT.get BT.out JB.out (n := (b + 1).toNat * 12 + c.toNat * 3) (by omega)
          have HJ := a_ hjr
          clear hjr
          go_upto_region 15 with ((with_reducible refine gate_dst (N := 16) rfl ?_); refine box_event ?hg (N := 16) ?hd (cs := #[.bool false, .int .i64 0, .slice none 0 0]) (t := 78) ?hr ?_; (case hd => rfl); (case hg => rfl); (case hr => first | (go_simp; done) | (go_simp; rfl)); intro gq hg w7 hbox hb; have GEgq := a_ ((by rw [hg]; exact (below_size (bv_ HB.out)) : w.heap.size ≤ gq)); have n0_ := a_ (bs_ HB.out hb); have BQ := a_ hbox; have nBT := a_ (RWT.below BT.out hb); have nHJ := a_ (Kd.R_below HJ.out hb); clear HB BT HJ; have HB := n0_; have BT := nBT; have HJ := nHJ; clear n0_ hb hbox hg nBT nHJ; have hq_0 : w7.cell? ⟨gq, 0, none⟩ = some (.bool false) := (blk_cell BQ.out 0).trans rfl; have hq_1 : w7.cell? ⟨gq, 1, none⟩ = some (.int .i64 0) := (blk_cell BQ.out 1).trans rfl; have hq_2 : w7.cell? ⟨gq, 2, none⟩ = some (.slice none 0 0) := (blk_cell BQ.out 2).trans rfl; have hqf_0 := blk_frozen BQ.out 0; have hqf_1 := blk_frozen BQ.out 1; have hqf_2 := blk_frozen BQ.out 2)
          clear hj_0 hj_1 hj_2
          obtain ⟨w8, hw8⟩ : ∃ w8, w8 = (((w7.setCell ⟨gq, 0, none⟩ (.bool (wg T3 (4 * (b + 1).toNat + c.toNat)).ok)).setCell ⟨gq, 1, none⟩ (.int .i64 (wg T3 (4 * (b + 1).toNat + c.toNat)).dm)).setCell ⟨gq, 2, none⟩ (.slice AJ (wg T3 (4 * (b + 1).toNat + c.toNat)).bs.length cJ)) := ⟨_, rfl⟩
          rw [← hw8]
          have nBQ := a_ (show w8.heap[gq]? = some (.cells #[.bool (wg T3 (4 * (b + 1).toNat + c.toNat)).ok, .int .i64 (wg T3 (4 * (b + 1).toNat + c.toNat)).dm, .slice AJ (wg T3 (4 * (b + 1).toNat + c.toNat)).bs.length cJ] 78 (0, 0)) by rw [hw8]; exact blk_put (cs' := #[.bool (wg T3 (4 * (b + 1).toNat + c.toNat)).ok, .int .i64 (wg T3 (4 * (b + 1).toNat + c.toNat)).dm, .slice AJ (wg T3 (4 * (b + 1).toNat + c.toNat)).bs.length cJ]) (cs := #[.bool (wg T3 (4 * (b + 1).toNat + c.toNat)).ok, .int .i64 (wg T3 (4 * (b + 1).toNat + c.toNat)).dm, .slice none 0 0]) (blk_put (cs' := #[.bool (wg T3 (4 * (b + 1).toNat + c.toNat)).ok, .int .i64 (wg T3 (4 * (b + 1).toNat + c.toNat)).dm, .slice none 0 0]) (cs := #[.bool (wg T3 (4 * (b + 1).toNat + c.toNat)).ok, .int .i64 0, .slice none 0 0]) (blk_put (cs' := #[.bool (wg T3 (4 * (b + 1).toNat + c.toNat)).ok, .int .i64 0, .slice none 0 0]) (cs := #[.bool false, .int .i64 0, .slice none 0 0]) (BQ.out) 0 _ rfl) 1 _ rfl) 2 _ rfl)
          have nHB := a_ (show Below w.heap.size w w8 by rw [hw8]; exact Below.setCell (Below.setCell (Below.setCell (HB.out) GEgq.out _) GEgq.out _) GEgq.out _)
          have nBT := a_ (show RWT w.heap.size gt w8 T3 by rw [hw8]; exact RWT.aside (RWT.aside (RWT.aside (BT.out) (BQ.out) (by decide) (by decide) 0 _) (blk_put (cs' := #[.bool (wg T3 (4 * (b + 1).toNat + c.toNat)).ok, .int .i64 0, .slice none 0 0]) (cs := #[.bool false, .int .i64 0, .slice none 0 0]) (BQ.out) 0 _ rfl) (by decide) (by decide) 1 _) (blk_put (cs' := #[.bool (wg T3 (4 * (b + 1).toNat + c.toNat)).ok, .int .i64 (wg T3 (4 * (b + 1).toNat + c.toNat)).dm, .slice none 0 0]) (cs := #[.bool (wg T3 (4 * (b + 1).toNat + c.toNat)).ok, .int .i64 0, .slice none 0 0]) (blk_put (cs' := #[.bool (wg T3 (4 * (b + 1).toNat + c.toNat)).ok, .int .i64 0, .slice none 0 0]) (cs := #[.bool false, .int .i64 0, .slice none 0 0]) (BQ.out) 0 _ rfl) 1 _ rfl) (by decide) (by decide) 2 _)
          have nHJ := a_ (show Kd.R (Kd.int .i64) 3 w8 w.heap.size (fun _ => True) (.slice AJ (wg T3 (4 * (b + 1).toNat + c.toNat)).bs.length cJ) (wg T3 (4 * (b + 1).toNat + c.toNat)).bs by rw [hw8]; exact Kd.R_set (Kd.R_set (Kd.R_set (HJ.out) (BQ.out) (by decide) 0 _) (blk_put (cs' := #[.bool (wg T3 (4 * (b + 1).toNat + c.toNat)).ok, .int .i64 0, .slice none 0 0]) (cs := #[.bool false, .int .i64 0, .slice none 0 0]) (BQ.out) 0 _ rfl) (by decide) 1 _) (blk_put (cs' := #[.bool (wg T3 (4 * (b + 1).toNat + c.toNat)).ok, .int .i64 (wg T3 (4 * (b + 1).toNat + c.toNat)).dm, .slice none 0 0]) (cs := #[.bool (wg T3 (4 * (b + 1).toNat + c.toNat)).ok, .int .i64 0, .slice none 0 0]) (blk_put (cs' := #[.bool (wg T3 (4 * (b + 1).toNat + c.toNat)).ok, .int .i64 0, .slice none 0 0]) (cs := #[.bool false, .int .i64 0, .slice none 0 0]) (BQ.out) 0 _ rfl) 1 _ rfl) (by decide) 2 _)
          clear hw8 BQ HB BT HJ
          have BQ := nBQ
          have HB := nHB
          have BT := nBT
          have HJ := nHJ
          clear nBQ nHB nBT nHJ
          clear hq_0 hqf_0 hq_1 hqf_1 hq_2 hqf_2
          have hq_0 : w8.cell? ⟨gq, 0, none⟩ = some (.bool (wg T3 (4 * (b + 1).toNat + c.toNat)).ok) := (blk_cell BQ.out 0).trans rfl
          have hq_1 : w8.cell? ⟨gq, 1, none⟩ = some (.int .i64 (wg T3 (4 * (b + 1).toNat + c.toNat)).dm) := (blk_cell BQ.out 1).trans rfl
          have hq_2 : w8.cell? ⟨gq, 2, none⟩ = some (.slice AJ (wg T3 (4 * (b + 1).toNat + c.toNat)).bs.length cJ) := (blk_cell BQ.out 2).trans rfl
          have hqf_0 := blk_frozen BQ.out 0
          have hqf_1 := blk_frozen BQ.out 1
          have hqf_2 := blk_frozen BQ.out 2
          go_upto_if 78 with (fail)
          go_cut [] (fun wc => ∃ (AR : Option Addr) (cR : Nat), Aside0 (wc.heap[gq]? = some (.cells #[.bool (rb.rest l0 T3 b c).ok, .int .i64 (rb.rest l0 T3 b c).dm, .slice AR (rb.rest l0 T3 b c).bs.length cR] 78 (0, 0))) ∧ Aside0 (Kd.R (Kd.int .i64) 3 wc w.heap.size (fun _ => True) (.slice AR (rb.rest l0 T3 b c).bs.length cR) (rb.rest l0 T3 b c).bs) ∧ Aside0 (RWT w.heap.size gt wc T3) ∧ Aside0 (Below w.heap.size w wc))
          case first =>
           by_cases e : b = (l0.length : Int) - 1
           ·have e0 : (b == (l0.length : Int) - 1) = true := beq_iff_eq.mpr e
            have er : rb.rest l0 T3 b c = ⟨true, 0, []⟩ := by unfold rb.rest; rw [if_pos e]
            have ER := a_ er
            clear e er
            go_wp2
            go_meet
            case rel => exact ⟨none, 0, ⟨by rw [ER.out]; exact blk_put (cs' := #[.bool true, .int .i64 0, .slice none 0 0]) (cs := #[.bool true, .int .i64 0, .slice AJ (wg T3 (4 * (b + 1).toNat + c.toNat)).bs.length cJ]) (blk_put (cs' := #[.bool true, .int .i64 0, .slice AJ (wg T3 (4 * (b + 1).toNat + c.toNat)).bs.length cJ]) (cs := #[.bool true, .int .i64 (wg T3 (4 * (b + 1).toNat + c.toNat)).dm, .slice AJ (wg T3 (4 * (b + 1).toNat + c.toNat)).bs.length cJ]) (blk_put (cs' := #[.bool true, .int .i64 (wg T3 (4 * (b + 1).toNat + c.toNat)).dm, .slice AJ (wg T3 (4 * (b + 1).toNat + c.toNat)).bs.length cJ]) (cs := #[.bool (wg T3 (4 * (b + 1).toNat + c.toNat)).ok, .int .i64 (wg T3 (4 * (b + 1).toNat + c.toNat)).dm, .slice AJ (wg T3 (4 * (b + 1).toNat + c.toNat)).bs.length cJ]) (BQ.out) 0 _ rfl) 1 _ rfl) 2 _ rfl⟩, ⟨by rw [ER.out]; exact Kd.R_nil _ _ _ _ _⟩, ⟨RWT.aside (RWT.aside (RWT.aside (BT.out) (BQ.out) (by decide) (by decide) 0 _) (blk_put (cs' := #[.bool true, .int .i64 (wg T3 (4 * (b + 1).toNat + c.toNat)).dm, .slice AJ (wg T3 (4 * (b + 1).toNat + c.toNat)).bs.length cJ]) (cs := #[.bool (wg T3 (4 * (b + 1).toNat + c.toNat)).ok, .int .i64 (wg T3 (4 * (b + 1).toNat + c.toNat)).dm, .slice AJ (wg T3 (4 * (b + 1).toNat + c.toNat)).bs.length cJ]) (BQ.out) 0 _ rfl) (by decide) (by decide) 1 _) (blk_put (cs' := #[.bool true, .int .i64 0, .slice AJ (wg T3 (4 * (b + 1).toNat + c.toNat)).bs.length cJ]) (cs := #[.bool true, .int .i64 (wg T3 (4 * (b + 1).toNat + c.toNat)).dm, .slice AJ (wg T3 (4 * (b + 1).toNat + c.toNat)).bs.length cJ]) (blk_put (cs' := #[.bool true, .int .i64 (wg T3 (4 * (b + 1).toNat + c.toNat)).dm, .slice AJ (wg T3 (4 * (b + 1).toNat + c.toNat)).bs.length cJ]) (cs := #[.bool (wg T3 (4 * (b + 1).toNat + c.toNat)).ok, .int .i64 (wg T3 (4 * (b + 1).toNat + c.toNat)).dm, .slice AJ (wg T3 (4 * (b + 1).toNat + c.toNat)).bs.length cJ]) (BQ.out) 0 _ rfl) 1 _ rfl) (by decide) (by decide) 2 _⟩, ⟨Below.setCell (Below.setCell (Below.setCell (HB.out) GEgq.out _) GEgq.out _) GEgq.out _⟩⟩
           ·have e0 : (b == (l0.length : Int) - 1) = false := beq_eq_false_iff_ne.mpr e
            have er : rb.rest l0 T3 b c = wg T3 (4 * (b + 1).toNat + c.toNat) := by unfold rb.rest; rw [if_neg e]
            have ER := a_ er
            clear e er
            go_wp2
            go_meet
            case rel => exact ⟨AJ, cJ, ⟨by rw [ER.out]; exact BQ.out⟩, ⟨by rw [ER.out]; exact HJ.out⟩, BT, HB⟩
          case rest =>
           clear BQ HJ BT HB hq_0 hqf_0 hq_1 hqf_1 hq_2 hqf_2
           obtain ⟨AR, cR, BQ, HRR, BT, HB⟩ := hcut
           have ho := HOP.out
           clear HOP
           have hq_0 : wc.cell? ⟨gq, 0, none⟩ = some (.bool (rb.rest l0 T3 b c).ok) := (blk_cell BQ.out 0).trans rfl
           by_cases rk : (rb.rest l0 T3 b c).ok = true
           rotate_left
           ·rw [if_neg rk] at ho
            obtain rfl := Option.some.inj ho
            rw [Bool.eq_false_iff.mpr rk] at hq_0
            clear ho rk
            go_wp2
            go_roundg k2
            case measure => omega
            case rel => first | exact ⟨_, _, rfl, HA2, ⟨by have := HK2.out; omega⟩, HT4, BT, HB⟩ | exact ⟨_, _, rfl, HAW, ⟨by have := HK2.out; omega⟩, HT4, BT, HB⟩
           rw [if_pos rk] at ho
           rw [rk] at hq_0
           clear rk
           by_cases rl : (rb.rest l0 T3 b c).bs.length < 1000000000
           rotate_left
           ·rw [if_neg rl] at ho; exact absurd ho (by simp)
           rw [if_pos rl] at ho
           have RL := a_ rl
           have HO := a_ ho
           clear rl ho
           go_wp2
           go_loopg [17] 5 (fun kq v17 w' => ∃ (i : Int) (T5 : List WL), v17 = .int .i64 i ∧ Aside0 (rb.l kq (4 * (a + 1).toNat) d (rb.rest l0 T3 b c).dm (rb.rest l0 T3 b c).bs b c T5 i = some T4) ∧ Aside0 (kq ≤ 5) ∧ Aside0 (T5.length = 4 * (l0.length + 1)) ∧ Aside0 (w'.heap[gq]? = some (.cells #[.bool (rb.rest l0 T3 b c).ok, .int .i64 (rb.rest l0 T3 b c).dm, .slice AR (rb.rest l0 T3 b c).bs.length cR] 78 (0, 0))) ∧ Aside0 (Kd.R (Kd.int .i64) 3 w' w.heap.size (fun _ => True) (.slice AR (rb.rest l0 T3 b c).bs.length cR) (rb.rest l0 T3 b c).bs) ∧ Aside0 (RWT w.heap.size gt w' T5) ∧ Aside0 (Below w.heap.size w w'))
           case atStart => exact ⟨0, T3, rfl, HO, ⟨Nat.le_refl _⟩, HT3, BQ, HRR, BT, HB⟩
           case round =>
            clear HO BQ HRR BT HB hq_0
            obtain ⟨i, T5, rfl, HA3, HK3, HT5, BQ, HRR, BT, HB⟩ := hrel
            cases gk with
            | zero => exact absurd HA3.out (by simp [rb.l])
            | succ k3 =>
             have h := HA3.out
             clear HA3
             simp only [rb.l] at h
             by_cases j4 : i < 4
             rotate_left
             ·rw [if_neg j4] at h
              obtain rfl := Option.some.inj h
              have j4b := decide_eq_false j4
              clear j4 h
              have HT4 := HT5
              go_wp2
              go_roundg k2
              case measure => omega
              case rel => first | exact ⟨_, _, rfl, HA2, ⟨by have := HK2.out; omega⟩, HT4, BT, HB⟩ | exact ⟨_, _, rfl, HAW, ⟨by have := HK2.out; omega⟩, HT4, BT, HB⟩
             rw [if_pos j4] at h
             by_cases j0 : 0 ≤ i
             rotate_left
             ·rw [if_neg j0] at h; exact absurd h (by simp)
             rw [if_pos j0] at h
             obtain ⟨t, ht, h⟩ := Option.bind_eq_some_iff.mp h
             have HAP := a_ ht
             have H5 := a_ h
             have J0 := a_ j0
             have J4 := a_ j4
             clear ht h
             have JA := a_ (show 4 * (a + 1).toNat + i.toNat < T5.length by have := HT5.out; have := A0P.out; have := ALP.out; have := J0.out; have := J4.out; omega)
             have i5 := eq_true (show (0 : Int) ≤ a + 1 by have := A0P.out; omega)
             have i6 := eq_true (show a + 1 < (l0.length : Int) + 1 by have := ALP.out; omega)
             have i7 := eq_true (show a < (l0.length : Int) from ALP.out)
             have i8 := decide_eq_true j4
             replace j4 := eq_true j4
             replace j0 := eq_true j0
             have hq_1 : wr.cell? ⟨gq, 1, none⟩ = some (.int .i64 (rb.rest l0 T3 b c).dm) := (blk_cell BQ.out 1).trans rfl
             go_upto_region 21 with (fail)
             go_cut [18] (fun v18 wc => v18 = .int .i64 (wrap64 (wrap64 (d + t) + (rb.rest l0 T3 b c).dm)) ∧ Aside0 (wc.heap[gq]? = some (.cells #[.bool (rb.rest l0 T3 b c).ok, .int .i64 (rb.rest l0 T3 b c).dm, .slice AR (rb.rest l0 T3 b c).bs.length cR] 78 (0, 0))) ∧ Aside0 (Kd.R (Kd.int .i64) 3 wc w.heap.size (fun _ => True) (.slice AR (rb.rest l0 T3 b c).bs.length cR) (rb.rest l0 T3 b c).bs) ∧ Aside0 (RWT w.heap.size gt wc T5) ∧ Aside0 (Below w.heap.size w wc))
             case first =>
              go_region_law (refine goes_ Try.func40 (by kernel_rfl) rfl #[.int .i64 c, .int .i64 i] (by rfl) rfl rfl (by (try simp only [List.map_toArray, List.map_cons, List.map_nil]); first | done | rfl) ?_; with_reducible refine (variorumref10_Apart.calls c i t _ HAP.out).mono ?_; rintro e w6 ⟨rfl, ⟨nd, rfl⟩⟩; refine ⟨_, rfl, ?_⟩)
              all_goals (try go_wp2)
              all_goals (go_meet; (case rel => exact ⟨by simp only [i64_w], ⟨kv_ BQ.out⟩, ⟨by (with_reducible repeat (first | apply Kd.R_alloc | apply Kd.R_drewN | apply Kd.R_drew)); exact HRR.out⟩, ⟨RWT.below BT.out (by repeat (first | exact Below.refl _ _ | apply pw_below_drewN | apply below_drew1))⟩, ⟨bv_ HB.out⟩⟩))
             case rest =>
              clear BQ HRR BT HB hq_1
              obtain ⟨rfl, BQ, HRR, BT, HB⟩ := hcut
              obtain ⟨AO, cO, ho_0, ho_1, ho_2, hor⟩ := RWT.get BT.out JA.out (n := ((a + 1).toNat * 12 + i.toNat * 3)) (by omega)
              have HOR := a_ hor
              clear hor
              go_upto_region 23 with ((with_reducible refine gate_dst (N := 19) rfl ?_); refine box_event ?hg (N := 19) ?hd (cs := #[.bool false, .int .i64 0, .slice none 0 0]) (t := 78) ?hr ?_; (case hd => rfl); (case hg => rfl); (case hr => first | (go_simp; done) | (go_simp; rfl)); intro g9 hg w9 hbox hb; have GEg9 := a_ ((by rw [hg]; exact (below_size (bv_ HB.out)) : w.heap.size ≤ g9)); have n0_ := a_ (bs_ HB.out hb); have NEBQ_g9 := a_ ((by rw [hg]; exact Nat.ne_of_lt (blk_lt (kv_ BQ.out)) : gq ≠ g9)); have B9 := a_ hbox; have nBT := a_ (RWT.below BT.out hb); have nBQ := a_ (blk_below (kv_ BQ.out) hb); have nHRR := a_ (Kd.R_below HRR.out hb); clear HB BT BQ HRR; have HB := n0_; have BT := nBT; have BQ := nBQ; have HRR := nHRR; clear n0_ hb hbox hg nBT nBQ nHRR; have h9_0 : w9.cell? ⟨g9, 0, none⟩ = some (.bool false) := (blk_cell B9.out 0).trans rfl; have h9_1 : w9.cell? ⟨g9, 1, none⟩ = some (.int .i64 0) := (blk_cell B9.out 1).trans rfl; have h9_2 : w9.cell? ⟨g9, 2, none⟩ = some (.slice none 0 0) := (blk_cell B9.out 2).trans rfl; have h9f_0 := blk_frozen B9.out 0; have h9f_1 := blk_frozen B9.out 1; have h9f_2 := blk_frozen B9.out 2)
              clear ho_0 ho_1 ho_2
              obtain ⟨w10, hw10⟩ : ∃ w10, w10 = (((w9.setCell ⟨g9, 0, none⟩ (.bool (wg T5 (4 * (a + 1).toNat + i.toNat)).ok)).setCell ⟨g9, 1, none⟩ (.int .i64 (wg T5 (4 * (a + 1).toNat + i.toNat)).dm)).setCell ⟨g9, 2, none⟩ (.slice AO (wg T5 (4 * (a + 1).toNat + i.toNat)).bs.length cO)) := ⟨_, rfl⟩
              rw [← hw10]
              have nB9 := a_ (show w10.heap[g9]? = some (.cells #[.bool (wg T5 (4 * (a + 1).toNat + i.toNat)).ok, .int .i64 (wg T5 (4 * (a + 1).toNat + i.toNat)).dm, .slice AO (wg T5 (4 * (a + 1).toNat + i.toNat)).bs.length cO] 78 (0, 0)) by rw [hw10]; exact blk_put (cs' := #[.bool (wg T5 (4 * (a + 1).toNat + i.toNat)).ok, .int .i64 (wg T5 (4 * (a + 1).toNat + i.toNat)).dm, .slice AO (wg T5 (4 * (a + 1).toNat + i.toNat)).bs.length cO]) (cs := #[.bool (wg T5 (4 * (a + 1).toNat + i.toNat)).ok, .int .i64 (wg T5 (4 * (a + 1).toNat + i.toNat)).dm, .slice none 0 0]) (blk_put (cs' := #[.bool (wg T5 (4 * (a + 1).toNat + i.toNat)).ok, .int .i64 (wg T5 (4 * (a + 1).toNat + i.toNat)).dm, .slice none 0 0]) (cs := #[.bool (wg T5 (4 * (a + 1).toNat + i.toNat)).ok, .int .i64 0, .slice none 0 0]) (blk_put (cs' := #[.bool (wg T5 (4 * (a + 1).toNat + i.toNat)).ok, .int .i64 0, .slice none 0 0]) (cs := #[.bool false, .int .i64 0, .slice none 0 0]) (B9.out) 0 _ rfl) 1 _ rfl) 2 _ rfl)
              have nHB := a_ (show Below w.heap.size w w10 by rw [hw10]; exact Below.setCell (Below.setCell (Below.setCell (HB.out) GEg9.out _) GEg9.out _) GEg9.out _)
              have nBT := a_ (show RWT w.heap.size gt w10 T5 by rw [hw10]; exact RWT.aside (RWT.aside (RWT.aside (BT.out) (B9.out) (by decide) (by decide) 0 _) (blk_put (cs' := #[.bool (wg T5 (4 * (a + 1).toNat + i.toNat)).ok, .int .i64 0, .slice none 0 0]) (cs := #[.bool false, .int .i64 0, .slice none 0 0]) (B9.out) 0 _ rfl) (by decide) (by decide) 1 _) (blk_put (cs' := #[.bool (wg T5 (4 * (a + 1).toNat + i.toNat)).ok, .int .i64 (wg T5 (4 * (a + 1).toNat + i.toNat)).dm, .slice none 0 0]) (cs := #[.bool (wg T5 (4 * (a + 1).toNat + i.toNat)).ok, .int .i64 0, .slice none 0 0]) (blk_put (cs' := #[.bool (wg T5 (4 * (a + 1).toNat + i.toNat)).ok, .int .i64 0, .slice none 0 0]) (cs := #[.bool false, .int .i64 0, .slice none 0 0]) (B9.out) 0 _ rfl) 1 _ rfl) (by decide) (by decide) 2 _)
              have nHRR := a_ (show Kd.R (Kd.int .i64) 3 w10 w.heap.size (fun _ => True) (.slice AR (rb.rest l0 T3 b c).bs.length cR) (rb.rest l0 T3 b c).bs by rw [hw10]; exact Kd.R_set (Kd.R_set (Kd.R_set (HRR.out) (B9.out) (by decide) 0 _) (blk_put (cs' := #[.bool (wg T5 (4 * (a + 1).toNat + i.toNat)).ok, .int .i64 0, .slice none 0 0]) (cs := #[.bool false, .int .i64 0, .slice none 0 0]) (B9.out) 0 _ rfl) (by decide) 1 _) (blk_put (cs' := #[.bool (wg T5 (4 * (a + 1).toNat + i.toNat)).ok, .int .i64 (wg T5 (4 * (a + 1).toNat + i.toNat)).dm, .slice none 0 0]) (cs := #[.bool (wg T5 (4 * (a + 1).toNat + i.toNat)).ok, .int .i64 0, .slice none 0 0]) (blk_put (cs' := #[.bool (wg T5 (4 * (a + 1).toNat + i.toNat)).ok, .int .i64 0, .slice none 0 0]) (cs := #[.bool false, .int .i64 0, .slice none 0 0]) (B9.out) 0 _ rfl) 1 _ rfl) (by decide) 2 _)
              have nBQ := a_ (show w10.heap[gq]? = some (.cells #[.bool (rb.rest l0 T3 b c).ok, .int .i64 (rb.rest l0 T3 b c).dm, .slice AR (rb.rest l0 T3 b c).bs.length cR] 78 (0, 0)) by rw [hw10]; exact blk_far (blk_far (blk_far (BQ.out) (p := ⟨g9, 0, none⟩) NEBQ_g9.out _) (p := ⟨g9, 1, none⟩) NEBQ_g9.out _) (p := ⟨g9, 2, none⟩) NEBQ_g9.out _)
              clear hw10 B9 HB BT BQ HRR
              have B9 := nB9
              have HB := nHB
              have BT := nBT
              have BQ := nBQ
              have HRR := nHRR
              clear nB9 nHB nBT nBQ nHRR
              clear HOR h9_0 h9f_0 h9_1 h9f_1 h9_2 h9f_2
              have hg_0 : w10.cell? ⟨g9, 0, none⟩ = some (.bool (wg T5 (4 * (a + 1).toNat + i.toNat)).ok) := (blk_cell B9.out 0).trans rfl
              have hg_1 : w10.cell? ⟨g9, 1, none⟩ = some (.int .i64 (wg T5 (4 * (a + 1).toNat + i.toNat)).dm) := (blk_cell B9.out 1).trans rfl
              have hq_2 : w10.cell? ⟨gq, 2, none⟩ = some (.slice AR (rb.rest l0 T3 b c).bs.length cR) := (blk_cell BQ.out 2).trans rfl
              have hq_3 : (w10.alloc (.cells #[.int .i64 b] 3)).cell? ⟨gq, 2, none⟩ = some (.slice AR (rb.rest l0 T3 b c).bs.length cR) := (blk_cell (blk_alloc BQ.out _) 2).trans rfl
              have h := H5.out
              clear H5
              by_cases o1 : (wg T5 (4 * (a + 1).toNat + i.toNat)).ok = true
              ·rw [o1] at hg_0
               by_cases o2 : (wrap64 (wrap64 (d + t) + (rb.rest l0 T3 b c).dm)) < (wg T5 (4 * (a + 1).toNat + i.toNat)).dm
               ·have e : rb.put T5 (4 * (a + 1).toNat + i.toNat) (wrap64 (wrap64 (d + t) + (rb.rest l0 T3 b c).dm)) (b :: (rb.rest l0 T3 b c).bs) = T5.set (4 * (a + 1).toNat + i.toNat) ⟨true, (wrap64 (wrap64 (d + t) + (rb.rest l0 T3 b c).dm)), b :: (rb.rest l0 T3 b c).bs⟩ := by unfold rb.put; rw [if_pos o1, if_pos o2]
                rw [e] at h
                have H5 := a_ h
                have o2b := decide_eq_true o2
                clear e h o1 o2
                go_wp2_with ((with_reducible refine gate_builtin (b := .append) (xs := #[.tmp 112, .tmp 114]) rfl ?_); (try (refine gate_guard (by rfl) ?_; dsimp only)); at_builtin; refine Kd.R_append_rows (Kd.int .i64) (w0 := w10) w10.heap.size rfl (.tmp 112) (.tmp 114) 23 3 (.int .i64 0) 8 rfl Try.underlying23 info3 rfl (by decide) (by omega) (.slice (some ⟨w10.heap.size, 0, none⟩) 1 1) [b] (rb.rest l0 T3 b c).bs AR (rb.rest l0 T3 b c).bs.length cR (fun _ => True) (fun _ => False) rfl rfl (one_row w10 b) (Kd.C_alloc (Kd.R_reads' HRR.out).2.2 _) (fun _ _ h => h) (fun _ hk => hk.elim) (fun _ _ => trivial) (below_alloc (Below.refl _ _) _) (below_size (below_alloc (Below.refl _ _) _)) ?aL ?_; (case aL => have := RL.out; simp only [List.length_singleton]; omega); intro v1 w11 ho hb hg hat; have nBT := a_ (RWT.below BT.out hb); have nBQ := a_ (blk_below BQ.out hb); have nHRR := a_ (Kd.R_below HRR.out hb); have nHV := a_ (Kd.R_lower ho HB.out.size); have nHB := a_ (below_step HB.out hb); clear ho hb hg hat; obtain ⟨A5, k5, e5⟩ := Kd.R_slice nHV.out; subst e5; obtain ⟨AS, cS, hs_0, hs_1, hs_2, hsr⟩ := RWT.get nBT.out JA.out (n := ((a + 1).toNat * 12 + i.toNat * 3)) (by omega); clear hsr; have hf_0 := RWT.frozen nBT.out ((a + 1).toNat * 12 + i.toNat * 3); have hf_1 := RWT.frozen nBT.out ((a + 1).toNat * 12 + i.toNat * 3 + 1); have hf_2 := RWT.frozen nBT.out ((a + 1).toNat * 12 + i.toNat * 3 + 2))
                go_roundg k3
                case measure => omega
                case rel => exact ⟨_, _, rfl, H5, ⟨by have := HK3.out; omega⟩, ⟨by rw [List.length_set]; exact HT5.out⟩, ⟨RWT.blk3 nBT.out nBQ.out (by decide) _ _ _ _⟩, ⟨RWT.row3 nBT.out nHRR.out _ _ _ _⟩, ⟨RWT.put nBT.out JA.out (by omega) _ nHV.out⟩, ⟨Below.setCell (Below.setCell (Below.setCell nHB.out GT.out _) GT.out _) GT.out _⟩⟩
               ·have e : rb.put T5 (4 * (a + 1).toNat + i.toNat) (wrap64 (wrap64 (d + t) + (rb.rest l0 T3 b c).dm)) (b :: (rb.rest l0 T3 b c).bs) = T5 := by unfold rb.put; rw [if_pos o1, if_neg o2]
                rw [e] at h
                have H5 := a_ h
                have o2b := decide_eq_false o2
                clear e h o1 o2
                go_wp2
                go_roundg k3
                case measure => omega
                case rel => exact ⟨_, _, rfl, H5, ⟨by have := HK3.out; omega⟩, HT5, BQ, HRR, BT, HB⟩
              ·have e : rb.put T5 (4 * (a + 1).toNat + i.toNat) (wrap64 (wrap64 (d + t) + (rb.rest l0 T3 b c).dm)) (b :: (rb.rest l0 T3 b c).bs) = T5.set (4 * (a + 1).toNat + i.toNat) ⟨true, (wrap64 (wrap64 (d + t) + (rb.rest l0 T3 b c).dm)), b :: (rb.rest l0 T3 b c).bs⟩ := by unfold rb.put; rw [if_neg o1]
               rw [e] at h
               have H5 := a_ h
               rw [Bool.eq_false_iff.mpr o1] at hg_0
               clear e h o1
               go_wp2_with ((with_reducible refine gate_builtin (b := .append) (xs := #[.tmp 112, .tmp 114]) rfl ?_); (try (refine gate_guard (by rfl) ?_; dsimp only)); at_builtin; refine Kd.R_append_rows (Kd.int .i64) (w0 := w10) w10.heap.size rfl (.tmp 112) (.tmp 114) 23 3 (.int .i64 0) 8 rfl Try.underlying23 info3 rfl (by decide) (by omega) (.slice (some ⟨w10.heap.size, 0, none⟩) 1 1) [b] (rb.rest l0 T3 b c).bs AR (rb.rest l0 T3 b c).bs.length cR (fun _ => True) (fun _ => False) rfl rfl (one_row w10 b) (Kd.C_alloc (Kd.R_reads' HRR.out).2.2 _) (fun _ _ h => h) (fun _ hk => hk.elim) (fun _ _ => trivial) (below_alloc (Below.refl _ _) _) (below_size (below_alloc (Below.refl _ _) _)) ?aL ?_; (case aL => have := RL.out; simp only [List.length_singleton]; omega); intro v1 w11 ho hb hg hat; have nBT := a_ (RWT.below BT.out hb); have nBQ := a_ (blk_below BQ.out hb); have nHRR := a_ (Kd.R_below HRR.out hb); have nHV := a_ (Kd.R_lower ho HB.out.size); have nHB := a_ (below_step HB.out hb); clear ho hb hg hat; obtain ⟨A5, k5, e5⟩ := Kd.R_slice nHV.out; subst e5; obtain ⟨AS, cS, hs_0, hs_1, hs_2, hsr⟩ := RWT.get nBT.out JA.out (n := ((a + 1).toNat * 12 + i.toNat * 3)) (by omega); clear hsr; have hf_0 := RWT.frozen nBT.out ((a + 1).toNat * 12 + i.toNat * 3); have hf_1 := RWT.frozen nBT.out ((a + 1).toNat * 12 + i.toNat * 3 + 1); have hf_2 := RWT.frozen nBT.out ((a + 1).toNat * 12 + i.toNat * 3 + 2))
               go_roundg k3
               case measure => omega
               case rel => exact ⟨_, _, rfl, H5, ⟨by have := HK3.out; omega⟩, ⟨by rw [List.length_set]; exact HT5.out⟩, ⟨RWT.blk3 nBT.out nBQ.out (by decide) _ _ _ _⟩, ⟨RWT.row3 nBT.out nHRR.out _ _ _ _⟩, ⟨RWT.put nBT.out JA.out (by omega) _ nHV.out⟩, ⟨Below.setCell (Below.setCell (Below.setCell nHB.out GT.out _) GT.out _) GT.out _⟩⟩
    ·rw [if_neg a0] at h
     obtain rfl := Option.some.inj h
     have a0b : decide (-1 ≤ a) = false := decide_eq_false a0
     clear a0 h
     have h := H'.out
     clear H'
     have J2 := a_ (show 2 < T1.length by rw [HT1.out]; omega)
     have ir1 : (0 < (l0.length : Int) + 1) = True := eq_true (by omega)
     have ir2 : (0 < l0.length + 1) = True := eq_true (by omega)
     simp only [Option.some.injEq, Prod.mk.injEq] at h
     obtain ⟨rfl, rfl, rfl⟩ := h
     obtain ⟨AF, cF, hf_0, hf_1, hf_2, hfr⟩ := RWT.get BT.out J2.out (n := 6) (by omega)
     have HF := a_ hfr
     clear hfr
     go_upto_region 27 with ((with_reducible refine gate_dst (N := 21) rfl ?_); refine box_event ?hg (N := 21) ?hd (cs := #[.bool false, .int .i64 0, .slice none 0 0]) (t := 78) ?hr ?_; (case hd => rfl); (case hg => rfl); (case hr => first | (go_simp; done) | (go_simp; rfl)); intro g7 hg w9 hbox hb; have GEg7 := a_ ((by rw [hg]; exact (below_size (bv_ HB.out)) : w.heap.size ≤ g7)); have n0_ := a_ (bs_ HB.out hb); have B7 := a_ hbox; have nHF := a_ (Kd.R_below HF.out hb); clear HB HF; have HB := n0_; have HF := nHF; clear n0_ hb hbox hg nHF; have h7_0 : w9.cell? ⟨g7, 0, none⟩ = some (.bool false) := (blk_cell B7.out 0).trans rfl; have h7_1 : w9.cell? ⟨g7, 1, none⟩ = some (.int .i64 0) := (blk_cell B7.out 1).trans rfl; have h7_2 : w9.cell? ⟨g7, 2, none⟩ = some (.slice none 0 0) := (blk_cell B7.out 2).trans rfl; have h7f_0 := blk_frozen B7.out 0; have h7f_1 := blk_frozen B7.out 1; have h7f_2 := blk_frozen B7.out 2)
     clear hf_0 hf_1 hf_2 BT
     obtain ⟨w10, hw10⟩ : ∃ w10, w10 = (((w9.setCell ⟨g7, 0, none⟩ (.bool (wg T1 2).ok)).setCell ⟨g7, 1, none⟩ (.int .i64 (wg T1 2).dm)).setCell ⟨g7, 2, none⟩ (.slice AF (wg T1 2).bs.length cF)) := ⟨_, rfl⟩
     rw [← hw10]
     have nB7 := a_ (show w10.heap[g7]? = some (.cells #[.bool (wg T1 2).ok, .int .i64 (wg T1 2).dm, .slice AF (wg T1 2).bs.length cF] 78 (0, 0)) by rw [hw10]; exact blk_put (cs' := #[.bool (wg T1 2).ok, .int .i64 (wg T1 2).dm, .slice AF (wg T1 2).bs.length cF]) (cs := #[.bool (wg T1 2).ok, .int .i64 (wg T1 2).dm, .slice none 0 0]) (blk_put (cs' := #[.bool (wg T1 2).ok, .int .i64 (wg T1 2).dm, .slice none 0 0]) (cs := #[.bool (wg T1 2).ok, .int .i64 0, .slice none 0 0]) (blk_put (cs' := #[.bool (wg T1 2).ok, .int .i64 0, .slice none 0 0]) (cs := #[.bool false, .int .i64 0, .slice none 0 0]) (B7.out) 0 _ rfl) 1 _ rfl) 2 _ rfl)
     have nHB := a_ (show Below w.heap.size w w10 by rw [hw10]; exact Below.setCell (Below.setCell (Below.setCell (HB.out) GEg7.out _) GEg7.out _) GEg7.out _)
     have nHF := a_ (show Kd.R (Kd.int .i64) 3 w10 w.heap.size (fun _ => True) (.slice AF (wg T1 2).bs.length cF) (wg T1 2).bs by rw [hw10]; exact Kd.R_set (Kd.R_set (Kd.R_set (HF.out) (B7.out) (by decide) 0 _) (blk_put (cs' := #[.bool (wg T1 2).ok, .int .i64 0, .slice none 0 0]) (cs := #[.bool false, .int .i64 0, .slice none 0 0]) (B7.out) 0 _ rfl) (by decide) 1 _) (blk_put (cs' := #[.bool (wg T1 2).ok, .int .i64 (wg T1 2).dm, .slice none 0 0]) (cs := #[.bool (wg T1 2).ok, .int .i64 0, .slice none 0 0]) (blk_put (cs' := #[.bool (wg T1 2).ok, .int .i64 0, .slice none 0 0]) (cs := #[.bool false, .int .i64 0, .slice none 0 0]) (B7.out) 0 _ rfl) 1 _ rfl) (by decide) 2 _)
     clear hw10 B7 HB HF
     have B7 := nB7
     have HB := nHB
     have HF := nHF
     clear nB7 nHB nHF
     clear h7_0 h7f_0 h7_1 h7f_1 h7_2 h7f_2
     have nB7 := a_ (blk_drew B7.out)
     have nHB := a_ (below_drew1 HB.out)
     have nHF := a_ (show Kd.R (Kd.int .i64) 3 w10.drew w.heap.size (fun _ => True) (.slice AF (wg T1 2).bs.length cF) (wg T1 2).bs from Kd.R_drew HF.out)
     clear B7 HB HF
     have B7 := nB7
     have HB := nHB
     have HF := nHF
     clear nB7 nHB nHF
     refine start_ (n := 9) (S := fun w' => w'.cell? ⟨g7, 0, none⟩ = some (.bool (wg T1 2).ok) ∧ w'.cell? ⟨g7, 1, none⟩ = some (.int .i64 (wg T1 2).dm) ∧ w'.cell? ⟨g7, 2, none⟩ = some (.slice AF (wg T1 2).bs.length cF)) (ds := []) #[false, false, false, false, false, false, false, false, false] (by kernel_rfl) rfl rfl ⟨(blk_cell B7.out 0).trans rfl, (blk_cell B7.out 1).trans rfl, (blk_cell B7.out 2).trans rfl⟩ (fun hHeld => ?_)
     generalize w10.drew = w11 at B7 HB HF hHeld ⊢
     refine pure_ (i := 0) (N := some 129) (v := ?_) (a' := ?_) #[true, false, false, false, false, false, false, false, false] rfl rfl (by kernel_rfl) (fun _ _ _ h => h) (Or.inl ⟨by rfl, ?_⟩) ?_ ?_
     rotate_left
     ·intro w'
      go_simp
      with_reducible rfl
     rotate_left
     ·simp only [Act.put, List.setIfInBounds_toArray, List.set_cons_zero, List.set_cons_succ, i64_w, i32_w]
      rfl
     refine take_ (i := 1) (N := some 130) (v := ?_) (a' := ?_) #[true, true, false, false, false, false, false, false, false] rfl rfl (by kernel_rfl) (fun _ _ _ h => h) (Or.inl ⟨by rfl, ?_⟩) hHeld ?_ ?_
     rotate_left
     ·rintro w' ⟨s0, s1, s2⟩
      go_simp
      with_reducible rfl
     rotate_left
     ·simp only [Act.put, List.setIfInBounds_toArray, List.set_cons_zero, List.set_cons_succ, i64_w, i32_w]
      rfl
     refine pure_ (i := 2) (N := some 131) (v := ?_) (a' := ?_) #[true, true, true, false, false, false, false, false, false] rfl rfl (by kernel_rfl) (fun _ _ _ h => h) (Or.inl ⟨by rfl, ?_⟩) ?_ ?_
     rotate_left
     ·intro w'
      go_simp
      with_reducible rfl
     rotate_left
     ·simp only [Act.put, List.setIfInBounds_toArray, List.set_cons_zero, List.set_cons_succ, i64_w, i32_w]
      rfl
     refine take_ (i := 3) (N := some 132) (v := ?_) (a' := ?_) #[true, true, true, true, false, false, false, false, false] rfl rfl (by kernel_rfl) (fun _ _ _ h => h) (Or.inl ⟨by rfl, ?_⟩) hHeld ?_ ?_
     rotate_left
     ·rintro w' ⟨s0, s1, s2⟩
      go_simp
      with_reducible rfl
     rotate_left
     ·simp only [Act.put, List.setIfInBounds_toArray, List.set_cons_zero, List.set_cons_succ, i64_w, i32_w]
      rfl
     refine pure_ (i := 4) (N := some 133) (v := ?_) (a' := ?_) #[true, true, true, true, true, false, false, false, false] rfl rfl (by kernel_rfl) (fun _ _ _ h => h) (Or.inl ⟨by rfl, ?_⟩) ?_ ?_
     rotate_left
     ·intro w'
      go_simp
      with_reducible rfl
     rotate_left
     ·simp only [Act.put, List.setIfInBounds_toArray, List.set_cons_zero, List.set_cons_succ, i64_w, i32_w]
      rfl
     refine take_ (i := 5) (N := some 134) (v := ?_) (a' := ?_) #[true, true, true, true, true, true, false, false, false] rfl rfl (by kernel_rfl) (fun _ _ _ h => h) (Or.inl ⟨by rfl, ?_⟩) hHeld ?_ ?_
     rotate_left
     ·rintro w' ⟨s0, s1, s2⟩
      go_simp
      with_reducible rfl
     rotate_left
     ·simp only [Act.put, List.setIfInBounds_toArray, List.set_cons_zero, List.set_cons_succ, i64_w, i32_w]
      rfl
     refine pure_ (i := 6) (N := some 6) (v := ?_) (a' := ?_) #[true, true, true, true, true, true, true, false, false] rfl rfl (by kernel_rfl) (fun _ _ _ h => h) (Or.inl ⟨by rfl, ?_⟩) ?_ ?_
     rotate_left
     ·intro w'
      go_simp
      with_reducible rfl
     rotate_left
     ·simp only [Act.put, List.setIfInBounds_toArray, List.set_cons_zero, List.set_cons_succ, i64_w, i32_w]
      rfl
     refine pure_ (i := 7) (N := some 7) (v := ?_) (a' := ?_) #[true, true, true, true, true, true, true, true, false] rfl rfl (by kernel_rfl) (fun _ _ _ h => h) (Or.inl ⟨by rfl, ?_⟩) ?_ ?_
     rotate_left
     ·intro w'
      go_simp
      with_reducible rfl
     rotate_left
     ·simp only [Act.put, List.setIfInBounds_toArray, List.set_cons_zero, List.set_cons_succ, i64_w, i32_w]
      rfl
     refine pure_ (i := 8) (N := some 8) (v := ?_) (a' := ?_) #[true, true, true, true, true, true, true, true, true] rfl rfl (by kernel_rfl) (fun _ _ _ h => h) (Or.inl ⟨by rfl, ?_⟩) ?_ ?_
     rotate_left
     ·intro w'
      go_simp
      with_reducible rfl
     rotate_left
     ·simp only [Act.put, List.setIfInBounds_toArray, List.set_cons_zero, List.set_cons_succ, i64_w, i32_w]
      rfl
     refine done_ (by kernel_rfl) ?_
     (try go_wp2)
     go_ret3
     exact ⟨_, rfl, HF.out, HB.out⟩

/-! ### variorumref11_Break: function 16 -/
def variorumref11_Break.f (k : Nat) (l0 : List (S40)) (a1 : Int) : Option (List Int × Bool × Int × Int) := (variorumref09_May.f k l0).bind fun t411 => (if t411 = true then ((variorumref11_Best.f k l0 a1 200).bind fun bt412 => (if bt412.2.2 = true then (some (bt412.1, false, 0, 0)) else ((variorumref11_Best.f k l0 a1 10000).bind fun bt417 => (if bt417.2.2 = true then (some (bt417.1, true, 0, 0)) else (some (([] : List Int), false, 110, 0)))))) else (some (([] : List Int), false, 90, 0)))
theorem variorumref11_Break.mono : ∀ a0 a1 k, LeO (variorumref11_Break.f k a0 a1) (variorumref11_Break.f (k + 1) a0 a1) := by
 intro a0 a1 k
 unfold variorumref11_Break.f
 repeat' first
   | (with_reducible exact variorumref09_May.mono _ _)
   | (with_reducible exact variorumref11_Best.mono _ _ _ _)
   | (with_reducible exact LeO.refl _)
   | (with_reducible exact LeO.none _)
   | (with_reducible refine LeO.ite ?_ ?_)
   | (with_reducible refine LeO.bind ?_ (fun _ => ?_))
   | exact variorumref09_May.mono _ _
   | exact variorumref11_Best.mono _ _ _ _
   | exact LeO.none _
   | refine LeO.ite ?_ ?_
   | refine LeO.bind ?_ (fun _ => ?_)
set_option maxHeartbeats 8000000 in
set_option maxRecDepth 100000 in
theorem variorumref11_Break.calls (k : Nat) (A0 : Option Addr) (c0 : Nat) (l0 : List (S40)) (a1 : Int) (r1 : List Int) (r2 : Bool) (r3 : Int) (r4 : Int) (w : World) (hr0 : Kd.C k40 w A0 l0.length l0) (hc0 : l0.length ≤ c0) (h : variorumref11_Break.f k l0 a1 = some (r1, r2, r3, r4)) :
  Calls Try.prog 16 #[.slice A0 l0.length c0, .int .i64 a1] w fun e w' => ∃ v0_ : Value, e = .returned (.tuple #[v0_, .bool r2, .agg #[.int .i64 r3, .int .i64 r4]]) ∧ Kd.R (Kd.int .i64) 3 w' w.heap.size (fun _ => True) v0_ r1 ∧ Below w.heap.size w w' := by
 have hu28 := Try.underlying28
 have HR0 := a_ hr0
 have HC0 := a_ hc0
 clear hr0 hc0
 have HB := a_ (Below.refl w.heap.size w)
 have H : ((variorumref09_May.f k l0).bind fun t411 => (if t411 = true then ((variorumref11_Best.f k l0 a1 200).bind fun bt412 => (if bt412.2.2 = true then (some (bt412.1, false, 0, 0)) else ((variorumref11_Best.f k l0 a1 10000).bind fun bt417 => (if bt417.2.2 = true then (some (bt417.1, true, 0, 0)) else (some (([] : List Int), false, 110, 0)))))) else (some (([] : List Int), false, 90, 0)))) = some (r1, r2, r3, r4) := h
 clear h
 replace H := Option.bind_eq_some_iff.mp H
 obtain ⟨t411, A30, H⟩ := H
 replace H : (if t411 = true then ((variorumref11_Best.f k l0 a1 200).bind fun bt412 => (if bt412.2.2 = true then (some (bt412.1, false, 0, 0)) else ((variorumref11_Best.f k l0 a1 10000).bind fun bt417 => (if bt417.2.2 = true then (some (bt417.1, true, 0, 0)) else (some (([] : List Int), false, 110, 0)))))) else (some (([] : List Int), false, 90, 0))) = some (r1, r2, r3, r4) := H
 have A3 := a_ A30
 clear A30
 by_cases c4 : t411 = true
 ·subst c4
  have H1 : ((variorumref11_Best.f k l0 a1 200).bind fun bt412 => (if bt412.2.2 = true then (some (bt412.1, false, 0, 0)) else ((variorumref11_Best.f k l0 a1 10000).bind fun bt417 => (if bt417.2.2 = true then (some (bt417.1, true, 0, 0)) else (some (([] : List Int), false, 110, 0)))))) = some (r1, r2, r3, r4) := by rw [if_pos rfl] at H; exact H
  clear H
  have H := H1
  clear H1
  replace H := Option.bind_eq_some_iff.mp H
  obtain ⟨⟨t412, t413, t414⟩, A50, H⟩ := H
  replace H : (if t414 = true then (some (t412, false, 0, 0)) else ((variorumref11_Best.f k l0 a1 10000).bind fun bt417 => (if bt417.2.2 = true then (some (bt417.1, true, 0, 0)) else (some (([] : List Int), false, 110, 0))))) = some (r1, r2, r3, r4) := H
  have A5 := a_ A50
  clear A50
  by_cases c6 : t414 = true
  ·subst c6
   have H1 : (some (t412, false, 0, 0)) = some (r1, r2, r3, r4) := by rw [if_pos rfl] at H; exact H
   clear H
   have H := H1
   clear H1
   simp only [Option.some.injEq, Prod.mk.injEq] at H
   obtain ⟨rfl, rfl, rfl, rfl⟩ := H
   go_enter Try.func16, Try.ntmps16
   go_wp2_with (first | ((with_reducible refine gate_dst (N := 6) rfl ?_); refine box_event ?hg (N := 6) ?hd (cs := #[.int .i64 0, .int .i64 0]) (t := 28) ?hr ?_; (case hd => rfl); (case hg => rfl); (case hr => first | (go_simp; done) | (go_simp; rfl)); intro gb410 hg w7 hbox hb; have n0_ := a_ (bs_ HB.out hb); have n1_ := a_ (hbox); have n2_ := a_ ((by rw [hg]; exact (below_size (bv_ HB.out)) : w.heap.size ≤ gb410)); have n3_ := a_ ((by rw [hg]; exact (below_size (bv_ HB.out)) : w.heap.size ≤ gb410)); clear HB; have HB := n0_; have BK410 := n1_; have GW410 := n2_; have GE410 := n3_; clear n0_ n1_ n2_ n3_; clear hb hbox hg) | ((with_reducible refine gate_callee (f := 15) rfl ?_); refine gl_ (some 14) Try.func15 (by kernel_rfl) #[.slice A0 l0.length c0] ?_; (with_reducible refine (variorumref09_May.calls k _ _ l0 true _ ?side1 ?side2 A3.out).mono ?_); (case side1 => exact cw_ HR0.out HB.out); (case side2 => exact HC0.out); rintro e w8 ⟨rfl, hb⟩; refine ⟨_, rfl, ?_⟩; have n0_ := a_ (kb_ BK410.out hb); have n1_ := a_ (below_step (bS1_ HB.out GE410.out) hb); clear BK410; clear HB; have BK410 := n0_; have HB := n1_; clear n0_ n1_; (try clear hb); (try clear hb2); (try clear hk); (try clear hi)) | ((with_reducible refine gate_callee (f := 25) rfl ?_); refine gl_ (some 20) Try.func25 (by kernel_rfl) #[.slice A0 l0.length c0, .int .i64 a1, .int .i64 200] ?_; (with_reducible refine (variorumref11_Best.calls k _ _ l0 a1 200 t412 t413 true _ ?side1 ?side2 A5.out).mono ?_); (case side1 => exact cw_ HR0.out HB.out); (case side2 => exact HC0.out); rintro e w9 ⟨v415, rfl, ho0, hb⟩; refine ⟨_, rfl, ?_⟩; have n0_ := a_ (Kd.R_lower ho0 (below_size (bS1_ HB.out GE410.out))); have n1_ := a_ (kb_ BK410.out hb); have n2_ := a_ (below_step (bS1_ HB.out GE410.out) hb); clear BK410; clear HB; have HO416 := n0_; have BK410 := n1_; have HB := n2_; clear n0_ n1_ n2_; (try clear hb); (try clear hb2); (try clear hk); (try clear hi); (try clear ho0); obtain ⟨⟨Z10_0, Y10_0⟩, Z10_1, Y10_1⟩ := cs2_ BK410.out))
   refine bodyPost_ret (results_list (rs := [.tmp 4, .tmp 5, .cell 6 28]) rfl (by simp) (.tmp (.tmp (.cell gb410 28 #[.int .i64 0, .int .i64 0] (0, 0) _ rfl (kp0_ BK410.out) Try.underlying28 rfl (by kernel_rfl) .nil)))) rfl ?_
   exact ⟨_, by first | rfl | (simp [errW_none, errW_some] <;> rfl) | (simp [*, errW_none, errW_some] <;> rfl), by (with_reducible repeat (first | apply Kd.R_alloc | apply Kd.R_drewN | apply Kd.R_drew)); exact Kd.R_mono (Kd.R_far (p := ⟨gb410, 1, none⟩) (Kd.R_far (p := ⟨gb410, 0, none⟩) (Kd.R_types HO416.out BK410.out (by decide)) (fun _ hk => hk.2) (.int .i64 0)) (fun _ hk => hk.2) (.int .i64 0)) (fun _ hk => trivial), bS1_ HB.out GE410.out⟩
  ·replace c6 := Bool.eq_false_iff.mpr c6
   subst c6
   have H1 : ((variorumref11_Best.f k l0 a1 10000).bind fun bt417 => (if bt417.2.2 = true then (some (bt417.1, true, 0, 0)) else (some (([] : List Int), false, 110, 0)))) = some (r1, r2, r3, r4) := by rw [if_neg (show ¬ (false = true) by decide)] at H; exact H
   clear H
   have H := H1
   clear H1
   replace H := Option.bind_eq_some_iff.mp H
   obtain ⟨⟨t417, t418, t419⟩, A110, H⟩ := H
   replace H : (if t419 = true then (some (t417, true, 0, 0)) else (some (([] : List Int), false, 110, 0))) = some (r1, r2, r3, r4) := H
   have A11 := a_ A110
   clear A110
   by_cases c12 : t419 = true
   ·subst c12
    have H1 : (some (t417, true, 0, 0)) = some (r1, r2, r3, r4) := by rw [if_pos rfl] at H; exact H
    clear H
    have H := H1
    clear H1
    simp only [Option.some.injEq, Prod.mk.injEq] at H
    obtain ⟨rfl, rfl, rfl, rfl⟩ := H
    go_enter Try.func16, Try.ntmps16
    go_wp2_with (first | ((with_reducible refine gate_dst (N := 6) rfl ?_); refine box_event ?hg (N := 6) ?hd (cs := #[.int .i64 0, .int .i64 0]) (t := 28) ?hr ?_; (case hd => rfl); (case hg => rfl); (case hr => first | (go_simp; done) | (go_simp; rfl)); intro gb410 hg w13 hbox hb; have n0_ := a_ (bs_ HB.out hb); have n1_ := a_ (hbox); have n2_ := a_ ((by rw [hg]; exact (below_size (bv_ HB.out)) : w.heap.size ≤ gb410)); have n3_ := a_ ((by rw [hg]; exact (below_size (bv_ HB.out)) : w.heap.size ≤ gb410)); clear HB; have HB := n0_; have BK410 := n1_; have GW410 := n2_; have GE410 := n3_; clear n0_ n1_ n2_ n3_; clear hb hbox hg) | ((with_reducible refine gate_callee (f := 15) rfl ?_); refine gl_ (some 14) Try.func15 (by kernel_rfl) #[.slice A0 l0.length c0] ?_; (with_reducible refine (variorumref09_May.calls k _ _ l0 true _ ?side1 ?side2 A3.out).mono ?_); (case side1 => exact cw_ HR0.out HB.out); (case side2 => exact HC0.out); rintro e w14 ⟨rfl, hb⟩; refine ⟨_, rfl, ?_⟩; have n0_ := a_ (kb_ BK410.out hb); have n1_ := a_ (below_step (bS1_ HB.out GE410.out) hb); clear BK410; clear HB; have BK410 := n0_; have HB := n1_; clear n0_ n1_; (try clear hb); (try clear hb2); (try clear hk); (try clear hi)) | ((with_reducible refine gate_callee (f := 25) rfl ?_); refine gl_ (some 20) Try.func25 (by kernel_rfl) #[.slice A0 l0.length c0, .int .i64 a1, .int .i64 200] ?_; (with_reducible refine (variorumref11_Best.calls k _ _ l0 a1 200 t412 t413 false _ ?side1 ?side2 A5.out).mono ?_); (case side1 => exact cw_ HR0.out HB.out); (case side2 => exact HC0.out); rintro e w15 ⟨v415, rfl, ho0, hb⟩; refine ⟨_, rfl, ?_⟩; have n0_ := a_ (Kd.R_lower ho0 (below_size (bS1_ HB.out GE410.out))); have n1_ := a_ (kb_ BK410.out hb); have n2_ := a_ (below_step (bS1_ HB.out GE410.out) hb); clear BK410; clear HB; have HO416 := n0_; have BK410 := n1_; have HB := n2_; clear n0_ n1_ n2_; (try clear hb); (try clear hb2); (try clear hk); (try clear hi); (try clear ho0)) | ((with_reducible refine gate_callee (f := 25) rfl ?_); refine gl_ (some 30) Try.func25 (by kernel_rfl) #[.slice A0 l0.length c0, .int .i64 a1, .int .i64 10000] ?_; (with_reducible refine (variorumref11_Best.calls k _ _ l0 a1 10000 t417 t418 true _ ?side1 ?side2 A11.out).mono ?_); (case side1 => exact cw_ HR0.out HB.out); (case side2 => exact HC0.out); rintro e w16 ⟨v420, rfl, ho0, hb⟩; refine ⟨_, rfl, ?_⟩; have n0_ := a_ (Kd.R_elder' (rv_ HO416.out) (Kd.R_base ho0) hb); have n1_ := a_ (Kd.R_lower (Kd.R_new' ho0 (Kd.R_lt (rv_ HO416.out))) (below_size (bS1_ HB.out GE410.out))); have n2_ := a_ (kb_ BK410.out hb); have n3_ := a_ (below_step (bS1_ HB.out GE410.out) hb); clear HO416; clear BK410; clear HB; have HO416 := n0_; have HO421 := n1_; have BK410 := n2_; have HB := n3_; clear n0_ n1_ n2_ n3_; (try clear hb); (try clear hb2); (try clear hk); (try clear hi); (try clear ho0); obtain ⟨⟨Z17_0, Y17_0⟩, Z17_1, Y17_1⟩ := cs2_ BK410.out))
    refine bodyPost_ret (results_list (rs := [.tmp 4, .tmp 5, .cell 6 28]) rfl (by simp) (.tmp (.tmp (.cell gb410 28 #[.int .i64 0, .int .i64 0] (0, 0) _ rfl (kp0_ BK410.out) Try.underlying28 rfl (by kernel_rfl) .nil)))) rfl ?_
    exact ⟨_, by first | rfl | (simp [errW_none, errW_some] <;> rfl) | (simp [*, errW_none, errW_some] <;> rfl), by (with_reducible repeat (first | apply Kd.R_alloc | apply Kd.R_drewN | apply Kd.R_drew)); exact Kd.R_mono (Kd.R_far (p := ⟨gb410, 1, none⟩) (Kd.R_far (p := ⟨gb410, 0, none⟩) (Kd.R_types HO421.out BK410.out (by decide)) (fun _ hk => hk.2) (.int .i64 0)) (fun _ hk => hk.2) (.int .i64 0)) (fun _ hk => trivial), bS1_ HB.out GE410.out⟩
   ·replace c12 := Bool.eq_false_iff.mpr c12
    subst c12
    have H1 : (some (([] : List Int), false, 110, 0)) = some (r1, r2, r3, r4) := by rw [if_neg (show ¬ (false = true) by decide)] at H; exact H
    clear H
    have H := H1
    clear H1
    simp only [Option.some.injEq, Prod.mk.injEq] at H
    obtain ⟨rfl, rfl, rfl, rfl⟩ := H
    go_enter Try.func16, Try.ntmps16
    go_wp2_with (first | ((with_reducible refine gate_dst (N := 6) rfl ?_); refine box_event ?hg (N := 6) ?hd (cs := #[.int .i64 0, .int .i64 0]) (t := 28) ?hr ?_; (case hd => rfl); (case hg => rfl); (case hr => first | (go_simp; done) | (go_simp; rfl)); intro gb410 hg w18 hbox hb; have n0_ := a_ (bs_ HB.out hb); have n1_ := a_ (hbox); have n2_ := a_ ((by rw [hg]; exact (below_size (bv_ HB.out)) : w.heap.size ≤ gb410)); have n3_ := a_ ((by rw [hg]; exact (below_size (bv_ HB.out)) : w.heap.size ≤ gb410)); clear HB; have HB := n0_; have BK410 := n1_; have GW410 := n2_; have GE410 := n3_; clear n0_ n1_ n2_ n3_; clear hb hbox hg) | ((with_reducible refine gate_callee (f := 15) rfl ?_); refine gl_ (some 14) Try.func15 (by kernel_rfl) #[.slice A0 l0.length c0] ?_; (with_reducible refine (variorumref09_May.calls k _ _ l0 true _ ?side1 ?side2 A3.out).mono ?_); (case side1 => exact cw_ HR0.out HB.out); (case side2 => exact HC0.out); rintro e w19 ⟨rfl, hb⟩; refine ⟨_, rfl, ?_⟩; have n0_ := a_ (kb_ BK410.out hb); have n1_ := a_ (below_step (bS1_ HB.out GE410.out) hb); clear BK410; clear HB; have BK410 := n0_; have HB := n1_; clear n0_ n1_; (try clear hb); (try clear hb2); (try clear hk); (try clear hi)) | ((with_reducible refine gate_callee (f := 25) rfl ?_); refine gl_ (some 20) Try.func25 (by kernel_rfl) #[.slice A0 l0.length c0, .int .i64 a1, .int .i64 200] ?_; (with_reducible refine (variorumref11_Best.calls k _ _ l0 a1 200 t412 t413 false _ ?side1 ?side2 A5.out).mono ?_); (case side1 => exact cw_ HR0.out HB.out); (case side2 => exact HC0.out); rintro e w20 ⟨v415, rfl, ho0, hb⟩; refine ⟨_, rfl, ?_⟩; have n0_ := a_ (Kd.R_lower ho0 (below_size (bS1_ HB.out GE410.out))); have n1_ := a_ (kb_ BK410.out hb); have n2_ := a_ (below_step (bS1_ HB.out GE410.out) hb); clear BK410; clear HB; have HO416 := n0_; have BK410 := n1_; have HB := n2_; clear n0_ n1_ n2_; (try clear hb); (try clear hb2); (try clear hk); (try clear hi); (try clear ho0)) | ((with_reducible refine gate_callee (f := 25) rfl ?_); refine gl_ (some 30) Try.func25 (by kernel_rfl) #[.slice A0 l0.length c0, .int .i64 a1, .int .i64 10000] ?_; (with_reducible refine (variorumref11_Best.calls k _ _ l0 a1 10000 t417 t418 false _ ?side1 ?side2 A11.out).mono ?_); (case side1 => exact cw_ HR0.out HB.out); (case side2 => exact HC0.out); rintro e w21 ⟨v420, rfl, ho0, hb⟩; refine ⟨_, rfl, ?_⟩; have n0_ := a_ (Kd.R_elder' (rv_ HO416.out) (Kd.R_base ho0) hb); have n1_ := a_ (Kd.R_lower (Kd.R_new' ho0 (Kd.R_lt (rv_ HO416.out))) (below_size (bS1_ HB.out GE410.out))); have n2_ := a_ (kb_ BK410.out hb); have n3_ := a_ (below_step (bS1_ HB.out GE410.out) hb); clear HO416; clear BK410; clear HB; have HO416 := n0_; have HO421 := n1_; have BK410 := n2_; have HB := n3_; clear n0_ n1_ n2_ n3_; (try clear hb); (try clear hb2); (try clear hk); (try clear hi); (try clear ho0); obtain ⟨⟨Z22_0, Y22_0⟩, Z22_1, Y22_1⟩ := cs2_ BK410.out))
    refine bodyPost_ret (results_list (rs := [.tmp 4, .tmp 5, .cell 6 28]) rfl (by simp) (.tmp (.tmp (.cell gb410 28 #[.int .i64 110, .int .i64 0] (0, 0) _ rfl (kp0_ BK410.out) Try.underlying28 rfl (by kernel_rfl) .nil)))) rfl ?_
    exact ⟨_, by first | rfl | (simp [errW_none, errW_some] <;> rfl) | (simp [*, errW_none, errW_some] <;> rfl), by first | exact Kd.R_nil _ _ _ _ _ | exact Kd.N_nil _ _ _ _ _ | exact Kd.V_nil _ _ _ _ _ | exact Kd.Q_nil _ _ _ _ _ | exact Kd.S_nil _ _ _ _ _, bS1_ HB.out GE410.out⟩
 ·replace c4 := Bool.eq_false_iff.mpr c4
  subst c4
  have H1 : (some (([] : List Int), false, 90, 0)) = some (r1, r2, r3, r4) := by rw [if_neg (show ¬ (false = true) by decide)] at H; exact H
  clear H
  have H := H1
  clear H1
  simp only [Option.some.injEq, Prod.mk.injEq] at H
  obtain ⟨rfl, rfl, rfl, rfl⟩ := H
  go_enter Try.func16, Try.ntmps16
  go_wp2_with (first | ((with_reducible refine gate_dst (N := 6) rfl ?_); refine box_event ?hg (N := 6) ?hd (cs := #[.int .i64 0, .int .i64 0]) (t := 28) ?hr ?_; (case hd => rfl); (case hg => rfl); (case hr => first | (go_simp; done) | (go_simp; rfl)); intro gb410 hg w23 hbox hb; have n0_ := a_ (bs_ HB.out hb); have n1_ := a_ (hbox); have n2_ := a_ ((by rw [hg]; exact (below_size (bv_ HB.out)) : w.heap.size ≤ gb410)); have n3_ := a_ ((by rw [hg]; exact (below_size (bv_ HB.out)) : w.heap.size ≤ gb410)); clear HB; have HB := n0_; have BK410 := n1_; have GW410 := n2_; have GE410 := n3_; clear n0_ n1_ n2_ n3_; clear hb hbox hg) | ((with_reducible refine gate_callee (f := 15) rfl ?_); refine gl_ (some 14) Try.func15 (by kernel_rfl) #[.slice A0 l0.length c0] ?_; (with_reducible refine (variorumref09_May.calls k _ _ l0 false _ ?side1 ?side2 A3.out).mono ?_); (case side1 => exact cw_ HR0.out HB.out); (case side2 => exact HC0.out); rintro e w24 ⟨rfl, hb⟩; refine ⟨_, rfl, ?_⟩; have n0_ := a_ (kb_ BK410.out hb); have n1_ := a_ (below_step (bS1_ HB.out GE410.out) hb); clear BK410; clear HB; have BK410 := n0_; have HB := n1_; clear n0_ n1_; (try clear hb); (try clear hb2); (try clear hk); (try clear hi); obtain ⟨⟨Z25_0, Y25_0⟩, Z25_1, Y25_1⟩ := cs2_ BK410.out))
  refine bodyPost_ret (results_list (rs := [.tmp 4, .tmp 5, .cell 6 28]) rfl (by simp) (.tmp (.tmp (.cell gb410 28 #[.int .i64 90, .int .i64 0] (0, 0) _ rfl (kp0_ BK410.out) Try.underlying28 rfl (by kernel_rfl) .nil)))) rfl ?_
  exact ⟨_, by first | rfl | (simp [errW_none, errW_some] <;> rfl) | (simp [*, errW_none, errW_some] <;> rfl), by first | exact Kd.R_nil _ _ _ _ _ | exact Kd.N_nil _ _ _ _ _ | exact Kd.V_nil _ _ _ _ _ | exact Kd.Q_nil _ _ _ _ _ | exact Kd.S_nil _ _ _ _ _, bS1_ HB.out GE410.out⟩

end Go.Proofs.Ytpfnfofaajpdmaa.PWi

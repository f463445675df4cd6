/- Written by a program of this session: functions of the given program as plain Lean functions, the walks that show it, and the row of each law, for every input that its statement speaks of. -/
import Derived.Test.YtnfbdjlpdbacgaaPAllx0
namespace Go.Proofs.Ytnfbdjlpdbacgaa.PAll
open Go.RowKit Go.Proofs.YtnfbdjlpdbacgaaW.PrintWords Go.Proofs.YtnfbdjlpdbacgaaW.PrintLast Go.Proofs.YtnfbdjlpdbacgaaW.PrintMore
attribute [local go_sem] max2_int min2_int max_two min_two max_three min_three max_four min_four   -- for this text's walks alone
set_option linter.unusedVariables false
set_option linter.unusedSimpArgs false

/-! ### passes_state_there: function 13 -/
def passes_state_there.f (l0_0 : List Int) (a0_1 : Int) : Option (Bool) := if a0_1 ≥ 0 then (some (decide (a0_1 < (l0_0.length : Int)))) else (some false)
set_option maxHeartbeats 8000000 in
set_option maxRecDepth 100000 in
theorem passes_state_there.calls (A0_0 : Option Addr) (c0_0 : Nat) (l0_0 : List Int) (a0_1 : Int) (r : Bool) (w : World) (hr0_0 : Kd.C (Kd.int .i64) w A0_0 l0_0.length l0_0) (hc0_0 : l0_0.length ≤ c0_0) (h : passes_state_there.f l0_0 a0_1 = some r) :
    Calls Try.prog 13 #[.agg #[.slice A0_0 l0_0.length c0_0, .int .i64 a0_1]] w fun e w' => e = .returned (.bool r) ∧ Below w.heap.size w w' := by
  have hu36 := Try.underlying36
  have HR0_0 := Aside0.mk hr0_0
  have HC0_0 := Aside0.mk hc0_0
  clear hr0_0 hc0_0
  have HB := Aside0.mk (Below.refl w.heap.size w)
  have H : (if a0_1 ≥ 0 then (some (decide (a0_1 < (l0_0.length : Int)))) else (some false)) = some r := h
  clear h
  by_cases c2 : a0_1 ≥ 0
  · rw [if_pos c2] at H
    have c2b0 : decide (0 ≤ a0_1) = true := decide_eq_true c2
    clear c2
    obtain rfl := Option.some.inj H
    go_enter Try.func13, Try.ntmps13
    go_wp2_with (first | ((with_reducible refine gate_dst (N := 1) rfl ?_); (try (refine gate_guard (by rfl) ?_; dsimp only)); refine box_event ?hg (N := 1) ?hd (cs := #[.slice A0_0 l0_0.length c0_0, .int .i64 a0_1]) (t := 36) ?hr ?_; (case hd => rfl); (case hg => rfl); (case hr => first | (go_simp; done) | (go_simp; rfl)); intro gb101 hg w3 hbox hb; have n0_ := Aside0.mk (below_step (by repeat (first | (with_reducible first | exact HB.out | apply below_alloc | apply pw_below_drewN | apply below_drew1) | exact HB.out)) hb); have n1_ := Aside0.mk (hbox); have n2_ := Aside0.mk ((by rw [hg]; exact (below_size (by repeat (first | (with_reducible first | exact HB.out | apply below_alloc | apply pw_below_drewN | apply below_drew1) | exact HB.out))) : w.heap.size ≤ gb101)); have n3_ := Aside0.mk ((by rw [hg]; exact (below_size (by repeat (first | (with_reducible first | exact HB.out | apply below_alloc | apply pw_below_drewN | apply below_drew1) | exact HB.out))) : w.heap.size ≤ gb101)); clear HB; have HB := n0_; have BK101 := n1_; have GW101 := n2_; have GE101 := n3_; clear n0_ n1_ n2_ n3_; clear hb hbox hg; have hcz4_0 : w3.cell? ⟨gb101, 0, none⟩ = some (.slice A0_0 l0_0.length c0_0) := (blk_cell BK101.out 0).trans rfl; have hcz4_1 : w3.cell? ⟨gb101, 1, none⟩ = some (.int .i64 a0_1) := (blk_cell BK101.out 1).trans rfl; have hfz4_0 := blk_frozen BK101.out 0; have hfz4_1 := blk_frozen BK101.out 1))
    go_ret
    exact ⟨by first | rfl | (simp [errW_none, errW_some] <;> rfl) | (simp [*, errW_none, errW_some] <;> rfl), by repeat (first | (with_reducible first | exact HB.out | apply below_alloc | apply pw_below_drewN | apply below_drew1 | refine below_set ?_ GE101.out) | exact HB.out)⟩
  · rw [if_neg c2] at H
    have c2b0 : decide (0 ≤ a0_1) = false := decide_eq_false c2
    clear c2
    obtain rfl := Option.some.inj H
    go_enter Try.func13, Try.ntmps13
    go_wp2_with (first | ((with_reducible refine gate_dst (N := 1) rfl ?_); (try (refine gate_guard (by rfl) ?_; dsimp only)); refine box_event ?hg (N := 1) ?hd (cs := #[.slice A0_0 l0_0.length c0_0, .int .i64 a0_1]) (t := 36) ?hr ?_; (case hd => rfl); (case hg => rfl); (case hr => first | (go_simp; done) | (go_simp; rfl)); intro gb101 hg w5 hbox hb; have n0_ := Aside0.mk (below_step (by repeat (first | (with_reducible first | exact HB.out | apply below_alloc | apply pw_below_drewN | apply below_drew1) | exact HB.out)) hb); have n1_ := Aside0.mk (hbox); have n2_ := Aside0.mk ((by rw [hg]; exact (below_size (by repeat (first | (with_reducible first | exact HB.out | apply below_alloc | apply pw_below_drewN | apply below_drew1) | exact HB.out))) : w.heap.size ≤ gb101)); have n3_ := Aside0.mk ((by rw [hg]; exact (below_size (by repeat (first | (with_reducible first | exact HB.out | apply below_alloc | apply pw_below_drewN | apply below_drew1) | exact HB.out))) : w.heap.size ≤ gb101)); clear HB; have HB := n0_; have BK101 := n1_; have GW101 := n2_; have GE101 := n3_; clear n0_ n1_ n2_ n3_; clear hb hbox hg; have hcz6_0 : w5.cell? ⟨gb101, 0, none⟩ = some (.slice A0_0 l0_0.length c0_0) := (blk_cell BK101.out 0).trans rfl; have hcz6_1 : w5.cell? ⟨gb101, 1, none⟩ = some (.int .i64 a0_1) := (blk_cell BK101.out 1).trans rfl; have hfz6_0 := blk_frozen BK101.out 0; have hfz6_1 := blk_frozen BK101.out 1))
    go_ret
    exact ⟨by first | rfl | (simp [errW_none, errW_some] <;> rfl) | (simp [*, errW_none, errW_some] <;> rfl), by repeat (first | (with_reducible first | exact HB.out | apply below_alloc | apply pw_below_drewN | apply below_drew1 | refine below_set ?_ GE101.out) | exact HB.out)⟩

/-- A state of type 36 at block g of W; what its slices lead to came in by w0. -/
def IsS36 (w0 W : World) (g : Nat) (f0 : List Int) (f1 : Int) : Prop := ∃ A0 c0, W.heap[g]? = some (.cells #[.slice A0 f0.length c0, .int .i64 f1] 36 (0, 0)) ∧ w0.heap.size ≤ g ∧ Kd.C (Kd.int .i64) w0 A0 f0.length f0
theorem IsS36.grown {w0 W : World} {g : Nat} {f0 : List Int} {f1 : Int} {W1 : World} {row : Option Nat} (h : IsS36 w0 W g f0 f1) (hw : W.grownBy W1 row) (hne : some g ≠ row) : IsS36 w0 W1 g f0 f1 := by
  obtain ⟨A0, c0, hb, hg, hr0⟩ := h
  exact ⟨A0, c0, blk_grown hb hw hne, hg, hr0⟩
theorem IsS36.own_neN {w0 W : World} {g : Nat} {f0 : List Int} {f1 : Int} {α : Type} {d : Kd α} {e : Nat} {base : Nat} {ok : Nat → Prop} {v : Value} {xs : List α} (h : IsS36 w0 W g f0 f1) (ho : Kd.N d e W base ok v xs) (ht : e ≠ 36) : some g ≠ v.ownBlock := by
  obtain ⟨A0, c0, hb, hg, hr0⟩ := h
  exact Kd.N_ne ho hb ht
theorem IsS36.fresh {w0 W : World} {g : Nat} {f0 : List Int} {f1 : Int} (h : IsS36 w0 W g f0 f1) : ∀ k, W.heap.size ≤ k → k ≠ g := by
  obtain ⟨A0, c0, hb, hg, hr0⟩ := h
  exact Kd.freshB hb
theorem IsS36.kept {w0 W : World} {g : Nat} {f0 : List Int} {f1 : Int} {W1 : World} {S : Nat → Prop} (h : IsS36 w0 W g f0 f1) (hk : Kept W W1 S) (hne : ¬ S g) : IsS36 w0 W1 g f0 f1 := by
  obtain ⟨A0, c0, hb, hg, hr0⟩ := h
  exact ⟨A0, c0, blk_kept hb hk hne, hg, hr0⟩
theorem IsS36.below {w0 W : World} {g : Nat} {f0 : List Int} {f1 : Int} {W1 : World} (h : IsS36 w0 W g f0 f1) (hw : Below W.heap.size W W1) : IsS36 w0 W1 g f0 f1 := h.grown (grown_of_below hw none) (by simp)
theorem IsS36.alloc {w0 W : World} {g : Nat} {f0 : List Int} {f1 : Int} (h : IsS36 w0 W g f0 f1) (o : Obj) : IsS36 w0 (W.alloc o) g f0 f1 := h.below (below_alloc (Below.refl _ _) o)
theorem IsS36.drewN {w0 W : World} {g : Nat} {f0 : List Int} {f1 : Int} (h : IsS36 w0 W g f0 f1) (m : Nat) : IsS36 w0 (W.drewN m) g f0 f1 := h
theorem IsS36.drew {w0 W : World} {g : Nat} {f0 : List Int} {f1 : Int} (h : IsS36 w0 W g f0 f1) : IsS36 w0 W.drew g f0 f1 := h
theorem IsS36.at_ {w0 W : World} {g : Nat} {f0 : List Int} {f1 : Int} {w' : World} {m : Nat} (hq : W.drewN m = w') (h : IsS36 w0 W g f0 f1) : IsS36 w0 w' g f0 f1 := by subst hq; exact IsS36.drewN h m
theorem IsS36.apart {w0 W : World} {g : Nat} {f0 : List Int} {f1 : Int} {α : Type} {d : Kd α} {e : Nat} {base : Nat} {ok : Nat → Prop} {v : Value} {xs : List α} (h : IsS36 w0 W g f0 f1) (ho : d.R e W base ok v xs) (ht : ∀ q, q ∈ e :: d.E → q ≠ 36) : d.R e W base (fun k => ok k ∧ k ≠ g) v xs := by
  obtain ⟨A0, c0, hb, hg, hr0⟩ := h
  exact Kd.R_types ho hb ht
theorem IsS36.own_ne {w0 W : World} {g : Nat} {f0 : List Int} {f1 : Int} {α : Type} {d : Kd α} {e : Nat} {base : Nat} {ok : Nat → Prop} {v : Value} {xs : List α} (h : IsS36 w0 W g f0 f1) (ho : d.R e W base ok v xs) (ht : e ≠ 36) : some g ≠ v.ownBlock := by
  obtain ⟨A0, c0, hb, hg, hr0⟩ := h
  exact Kd.R_ne ho hb ht
theorem IsS36.apartQ {w0 W : World} {g : Nat} {f0 : List Int} {f1 : Int} {α : Type} {d : Kd α} {e : Nat} {base : Nat} {ok : Nat → Prop} {v : Value} {xs : List α} (h : IsS36 w0 W g f0 f1) (ho : d.Q e W base ok v xs) (ht : ∀ q, q ∈ e :: d.E → q ≠ 36) : d.Q e W base (fun k => ok k ∧ k ≠ g) v xs := by
  obtain ⟨A0, c0, hb, hg, hr0⟩ := h
  exact Kd.Q_types ho hb ht
theorem IsS36.own_neQ {w0 W : World} {g : Nat} {f0 : List Int} {f1 : Int} {α : Type} {d : Kd α} {e : Nat} {base : Nat} {ok : Nat → Prop} {v : Value} {xs : List α} (h : IsS36 w0 W g f0 f1) (ho : d.Q e W base ok v xs) (ht : e ≠ 36) : some g ≠ v.ownBlock := by
  obtain ⟨A0, c0, hb, hg, hr0⟩ := h
  exact Kd.Q_ne ho hb ht
theorem IsS36.apartS {w0 W : World} {g : Nat} {f0 : List Int} {f1 : Int} {α : Type} {d : Kd α} {e : Nat} {base : Nat} {ok : Nat → Prop} {v : Value} {xs : List α} (h : IsS36 w0 W g f0 f1) (ho : d.S e W base ok v xs) (ht : ∀ q, q ∈ e :: d.E → q ≠ 36) : d.S e W base (fun k => ok k ∧ k ≠ g) v xs := by
  obtain ⟨A0, c0, hb, hg, hr0⟩ := h
  exact Kd.S_types ho hb ht
theorem IsS36.own_neS {w0 W : World} {g : Nat} {f0 : List Int} {f1 : Int} {α : Type} {d : Kd α} {e : Nat} {base : Nat} {ok : Nat → Prop} {v : Value} {xs : List α} (h : IsS36 w0 W g f0 f1) (ho : d.S e W base ok v xs) (ht : e ≠ 36) : some g ≠ v.ownBlock := by
  obtain ⟨A0, c0, hb, hg, hr0⟩ := h
  exact Kd.S_ne ho hb ht
theorem IsS36.lt {w0 W : World} {g : Nat} {f0 : List Int} {f1 : Int} (h : IsS36 w0 W g f0 f1) : g < W.heap.size := by
  obtain ⟨A0, c0, hb, hg, hr0⟩ := h
  exact blk_lt hb
theorem IsS36.ge {w0 W : World} {g : Nat} {f0 : List Int} {f1 : Int} (h : IsS36 w0 W g f0 f1) : w0.heap.size ≤ g := by
  obtain ⟨A0, c0, hb, hg, hr0⟩ := h
  exact hg
theorem IsS36.ne_blk {w0 W : World} {g : Nat} {f0 : List Int} {f1 : Int} {a : Nat} {cs : Array Value} {t : TypeId} {fr : Nat × Nat} (h : IsS36 w0 W g f0 f1) (hb2 : W.heap[a]? = some (.cells cs t fr)) (ht : t ≠ 36) : g ≠ a := by
  obtain ⟨A0, c0, hb, hg, hr0⟩ := h
  rintro rfl
  rw [hb] at hb2
  injection hb2 with hb2
  injection hb2 with _ ht2
  exact ht ht2.symm
theorem IsS36.far {w0 W : World} {g : Nat} {f0 : List Int} {f1 : Int} {p : Addr} (h : IsS36 w0 W g f0 f1) (hne : g ≠ p.block) (u : Value) : IsS36 w0 (W.setCell p u) g f0 f1 := by
  obtain ⟨A0, c0, hb, hg, hr0⟩ := h
  exact ⟨A0, c0, blk_far hb hne u, hg, hr0⟩
theorem cellS36_0 {W : World} {g : Nat} {A0 : Option Addr} {c0 : Nat} {f0 : List Int} {f1 : Int} (h : W.heap[g]? = some (.cells #[.slice A0 f0.length c0, .int .i64 f1] 36 (0, 0))) : W.cell? ⟨g, 0, none⟩ = some (.slice A0 f0.length c0) := (blk_cell h 0).trans rfl
theorem cellS36_1 {W : World} {g : Nat} {A0 : Option Addr} {c0 : Nat} {f0 : List Int} {f1 : Int} (h : W.heap[g]? = some (.cells #[.slice A0 f0.length c0, .int .i64 f1] 36 (0, 0))) : W.cell? ⟨g, 1, none⟩ = some (.int .i64 f1) := (blk_cell h 1).trans rfl
theorem IsS36.set_1 {w0 W : World} {g : Nat} {f0 : List Int} {f1 : Int} (h : IsS36 w0 W g f0 f1) (x : Int) : IsS36 w0 (W.setCell ⟨g, 1, none⟩ (.int .i64 x)) g f0 x := by
  obtain ⟨A0, c0, hb, hg, hr0⟩ := h
  exact ⟨A0, c0, by simpa using blk_set hb 1 (.int .i64 x), hg, hr0⟩
theorem IsS36.new (w0 W : World) (A0 : Option Addr) (c0 : Nat) (f0 : List Int) (f1 : Int) (hB : Below w0.heap.size w0 W) (hr0 : Kd.C (Kd.int .i64) w0 A0 f0.length f0) : IsS36 w0 (W.alloc (.cells #[.slice A0 f0.length c0, .int .i64 f1] 36)) W.heap.size f0 f1 := ⟨A0, c0, by simpa using heap_alloc_new W _, hB.size, hr0⟩

/-! ### passes_state_pass: function 14 -/
def passes_state_pass.f (s0_0 : List Int) (s0_1 : Int) : Option (Int) := if 0 ≤ s0_1 then (if s0_1 < (s0_0.length : Int) then (some (rd s0_0 s0_1)) else (none)) else (none)
set_option maxHeartbeats 8000000 in
set_option maxRecDepth 100000 in
theorem passes_state_pass.calls (g : Nat) (s0_0 : List Int) (s0_1 : Int) (r : Int) (w0 w : World) (hI : IsS36 w0 w g s0_0 s0_1) (hB : Below w0.heap.size w0 w) (h : passes_state_pass.f s0_0 s0_1 = some r) :
    Calls Try.prog 14 #[.pointer (some ⟨g, 0, none⟩)] w fun e w' => e = .returned (.tuple #[]) ∧ IsS36 w0 w' g s0_0 r ∧ Below w0.heap.size w0 w' ∧ KeepBut w w' g none := by
  have HI0 := Aside0.mk hI
  have HK := Aside0.mk (KeepBut.refl w g none)
  have HL := Aside0.mk hB.size
  clear hI
  have HW0 := Aside0.mk hB.size
  have HB := Aside0.mk hB
  clear hB
  have H : (if 0 ≤ s0_1 then (if s0_1 < (s0_0.length : Int) then (some (rd s0_0 s0_1)) else (none)) else (none)) = some r := h
  clear h
  by_cases c2 : 0 ≤ s0_1
  · rw [if_pos c2] at H
    have c2b0 : decide (0 ≤ s0_1) = true := decide_eq_true c2
    clear c2
    by_cases c3 : s0_1 < (s0_0.length : Int)
    · rw [if_pos c3] at H
      have c3b0 : decide (s0_1 < (s0_0.length : Int)) = true := decide_eq_true c3
      clear c3
      obtain rfl := Option.some.inj H
      obtain ⟨ASz4_0, cSz4_0, HGz4, hgz4, HSz4_0⟩ := HI0.out
      have hcz4_0 := cellS36_0 HGz4
      have hcz4_1 := cellS36_1 HGz4
      have hfz4_1 := blk_frozen HGz4 1
      clear HGz4 hgz4
      have p102 : 0 ≤ (s0_1 : Int) := of_decide_eq_true (by first | (with_reducible assumption) | assumption)
      have q102 : s0_1 < (s0_0.length : Int) := of_decide_eq_true (by first | (with_reducible assumption) | assumption)
      obtain ⟨ad102, e102, hx102_0⟩ := Kd.at_int HSz4_0 s0_1 p102 q102
      cases e102
      replace hx102_0 := pw_cell_below HB.out hx102_0
      replace p102 := eq_true p102
      replace q102 := eq_true q102
      go_enter Try.func14, Try.ntmps14
      go_still_tail 11, (by kernel_rfl)
      go_wp2
      first | go_end0 | ((try simp only [Exit.inBlock, Exit.then]); refine bodyPost_ret (results_none rfl _ _ _) rfl ?_)
      exact ⟨by first | rfl | (simp [errW_none, errW_some] <;> rfl) | (simp [*, errW_none, errW_some] <;> rfl), by repeat (first | (with_reducible first | exact HI0.out | apply IsS36.alloc | apply IsS36.drewN | apply IsS36.drew | apply IsS36.set_1) | exact HI0.out), by repeat (first | (with_reducible first | exact HB.out | apply below_alloc | apply pw_below_drewN | apply below_drew1 | refine below_set ?_ (IsS36.ge HI0.out)) | exact HB.out), by repeat (first | (with_reducible first | exact HK.out | apply KeepBut.set_ | apply keep_drewN | apply keep_drew | apply keep_alloc) | exact HK.out)⟩
    · rw [if_neg c3] at H
      exact absurd H (by simp)
  · rw [if_neg c2] at H
    exact absurd H (by simp)

/-! ### passes_Fix: function 7 -/
set_option maxHeartbeats 8000000 in
set_option maxRecDepth 100000 in
theorem passes_pass_own (g : Nat) (A : Option Addr) (c : Nat) (l : List Int) (x : Int) (w : World) (hr : Kd.C (Kd.int .i64) w A l.length l) (hb : w.heap[g]? = some (.cells #[.slice A l.length c, .int .i64 x] 36 (0, 0))) (h : 0 ≤ x ∧ x < (l.length : Int)) :
    Calls Try.prog 14 #[.pointer (some ⟨g, 0, none⟩)] w fun e w' => e = .returned (.tuple #[]) ∧ w'.heap[g]? = some (.cells #[.slice A l.length c, .int .i64 (rd l x)] 36 (0, 0)) ∧ KeepBut w w' g none ∧ Below g w w' := by
  obtain ⟨h1, h2⟩ := h
  obtain ⟨ad, e1, hx⟩ := Kd.at_int hr x h1 h2
  cases e1
  have hc0 := cellS36_0 hb
  have hc1 := cellS36_1 hb
  have hf1 := blk_frozen hb 1
  have HB := Aside0.mk hb
  clear hb hr
  go_enter Try.func14, Try.ntmps14
  go_still_tail 11, (by kernel_rfl)
  go_wp2
  first | go_end0 | ((try simp only [Exit.inBlock, Exit.then]); refine bodyPost_ret (results_none rfl _ _ _) rfl ?_)
  exact ⟨rfl, blk_drew (by simpa using blk_set HB.out 1 (.int .i64 (rd l x))), keep_drew (KeepBut.set_ (KeepBut.refl _ _ _) _ _), Below.drew (Below.setCell (p := ⟨g, 1, none⟩) (Below.refl _ _) (Nat.le_refl g) _)⟩

def passes_Fix.l0 : Nat → List Int → Int → Int → Int → Option (Int × Int × Int × Int)
  | 0, _, _, _, _ => none
  | k + 1, x0, x1, x2, x10 => if 0 ≤ x1 ∧ x1 < (x0.length : Int) then (if rd x0 x1 = x1 then some (x1, x10, 0, 0) else if x10 ≥ mn x2 1000 then some (0, 0, 240, x1) else passes_Fix.l0 k x0 (rd x0 x1) x2 (wrap64 (x10 + 1))) else some (0, 0, 1, x1)
def passes_Fix.f (k : Nat) (l0 : List Int) (a1 : Int) (a2 : Int) : Option (Int × Int × Int × Int) := passes_Fix.l0 k l0 a1 a2 0

theorem passes_Fix.mono_l : ∀ k, (∀ y0 y1 y2 y3, LeO (passes_Fix.l0 k y0 y1 y2 y3) (passes_Fix.l0 (k + 1) y0 y1 y2 y3))
  | 0 => fun _ _ _ _ r h => by simp [passes_Fix.l0] at h
  | k + 1 => by
    have ih0 := passes_Fix.mono_l k
    · intro y0 y1 y2 y3
      unfold passes_Fix.l0
      repeat' first
      | (with_reducible exact ih0 _ _ _ _)
      | (with_reducible exact LeO.refl _)
      | (with_reducible exact LeO.none _)
      | (with_reducible refine LeO.ite ?_ ?_)
      | (with_reducible refine LeO.bind ?_ (fun _ => ?_))
      | exact ih0 _ _ _ _
      | exact LeO.none _
      | refine LeO.ite ?_ ?_
      | refine LeO.bind ?_ (fun _ => ?_)
theorem passes_Fix.mono : ∀ a0 a1 a2 k, LeO (passes_Fix.f k a0 a1 a2) (passes_Fix.f (k + 1) a0 a1 a2) := by
  intro a0 a1 a2 k
  have ih0 := passes_Fix.mono_l k
  unfold passes_Fix.f
  repeat' first
      | (with_reducible exact ih0 _ _ _ _)
      | (with_reducible exact LeO.refl _)
      | (with_reducible exact LeO.none _)
      | (with_reducible refine LeO.ite ?_ ?_)
      | (with_reducible refine LeO.bind ?_ (fun _ => ?_))
      | exact ih0 _ _ _ _
      | exact LeO.none _
      | refine LeO.ite ?_ ?_
      | refine LeO.bind ?_ (fun _ => ?_)
theorem passes_there_yes {l : List Int} {a : Int} (h : 0 ≤ a ∧ a < (l.length : Int)) : passes_state_there.f l a = some true := by
  unfold passes_state_there.f
  rw [if_pos h.1, decide_eq_true h.2]
theorem passes_there_no {l : List Int} {a : Int} (h : ¬ (0 ≤ a ∧ a < (l.length : Int))) : passes_state_there.f l a = some false := by
  unfold passes_state_there.f
  split
  · rw [decide_eq_false]; omega
  · rfl

set_option maxHeartbeats 8000000 in
set_option maxRecDepth 100000 in
theorem passes_Fix.calls (k : Nat) (A0 : Option Addr) (c0 : Nat) (l0 : List Int) (a1 : Int) (a2 : Int) (r1 : Int) (r2 : Int) (r3 : Int) (r4 : Int) (w : World) (hr0 : Kd.C (Kd.int .i64) w A0 l0.length l0) (hc0 : l0.length ≤ c0) (h : passes_Fix.f k l0 a1 a2 = some (r1, r2, r3, r4)) :
    Calls Try.prog 7 #[.slice A0 l0.length c0, .int .i64 a1, .int .i64 a2] w fun e w' => e = .returned (.tuple #[.int .i64 r1, .int .i64 r2, .agg #[.int .i64 r3, .int .i64 r4]]) ∧ Below w.heap.size w w' := by
  have hu25 := Try.underlying25
  have hu36 := Try.underlying36
  have HR0 := Aside0.mk hr0
  have HC0 := Aside0.mk hc0
  clear hr0 hc0
  have HB := Aside0.mk (Below.refl w.heap.size w)
  have H' := Aside0.mk (show passes_Fix.l0 k l0 a1 a2 0 = some (r1, r2, r3, r4) from h)
  clear h
  go_enter Try.func7, Try.ntmps7
  go_wp2_with fail
  go_loopg [10] k (fun kq v10 w' => ∃ (n at_ : Int), v10 = .int .i64 n ∧ Aside0 (passes_Fix.l0 kq l0 at_ a2 n = some (r1, r2, r3, r4)) ∧ Aside0 (kq ≤ k) ∧ Aside0 (w'.heap[w.heap.size + 1]? = some (.cells #[.slice A0 l0.length c0, .int .i64 at_] 36 (0, 0))) ∧ Aside0 (w'.heap[w.heap.size]? = some (.cells #[.int .i64 0, .int .i64 0] 25 (0, 0))) ∧ Aside0 (Below w.heap.size w w'))
  case atStart =>
    refine ⟨0, a1, rfl, H', ⟨Nat.le_refl _⟩, ⟨?_⟩, ⟨?_⟩, ⟨?_⟩⟩
    · simpa using heap_alloc_new (w.alloc (Obj.cells #[Value.int IntKind.i64 0, Value.int IntKind.i64 0] 25)) (.cells #[.slice A0 l0.length c0, .int .i64 a1] 36 (0, 0))
    · exact blk_alloc (by simpa using heap_alloc_new w _) _
    · exact below_alloc (below_alloc HB.out _) _
  case round =>
    clear H'
    obtain ⟨n, at_, rfl, HA, HK1, HG, HF, HB1⟩ := hrel
    cases gk with
    | zero => exact absurd HA.out (by simp [passes_Fix.l0])
    | succ k1 =>
      have H := HA.out
      clear HA
      simp only [passes_Fix.l0] at H
      have hc0 := cellS36_0 HG.out
      have hc1 := cellS36_1 HG.out
      have hd0 : wr.cell? ⟨w.heap.size, 0, none⟩ = some (.int .i64 0) := (blk_cell HF.out 0).trans rfl
      have hd1 : wr.cell? ⟨w.heap.size, 1, none⟩ = some (.int .i64 0) := (blk_cell HF.out 1).trans rfl
      have hfd0 := blk_frozen HF.out 0
      have hfd1 := blk_frozen HF.out 1
      have HCR := Aside0.mk (Kd.C_below HR0.out HB1.out)
      by_cases hin : 0 ≤ at_ ∧ at_ < (l0.length : Int)
      · rw [if_pos hin] at H
        have HT := Aside0.mk (passes_there_yes hin)
        have HN := Aside0.mk hin
        obtain ⟨p1, p2⟩ := hin
        obtain ⟨ad, e1, hx⟩ := Kd.at_int HCR.out at_ p1 p2
        cases e1
        by_cases e : rd l0 at_ = at_
        · rw [if_pos e] at H
          have cb0 : ((rd l0 at_) == at_) = true := beq_iff_eq.mpr e
          have cb1 : ((rd l0 at_) != at_) = false := bne_eq_false_iff_eq.mpr e
          clear e
          simp only [Option.some.injEq, Prod.mk.injEq] at H
          obtain ⟨rfl, rfl, rfl, rfl⟩ := H
          replace p1 := eq_true p1
          replace p2 := eq_true p2
          go_wp2_with (first | (go_at_call 13; refine (passes_state_there.calls (some ad) c0 l0 at_ true _ HCR.out HC0.out HT.out).mono ?_; rintro e w1 ⟨rfl, hb⟩; have HB2 := Aside0.mk hb; clear hb))
          replace hx := pw_cell_below HB2.out hx
          have HF2 := Aside0.mk (blk_below HF.out HB2.out)
          have hc1' : w1.cell? ⟨w.heap.size + 1, 1, none⟩ = some (.int .i64 at_) := pw_cell_below HB2.out hc1
          have HB3 := Aside0.mk (HB1.out.trans (HB2.out.mono HB1.out.size))
          clear hc0 hc1 hd0 hd1 hfd0 hfd1
          have hd0 : w1.cell? ⟨w.heap.size, 0, none⟩ = some (.int .i64 0) := (blk_cell HF2.out 0).trans rfl
          have hd1 : w1.cell? ⟨w.heap.size, 1, none⟩ = some (.int .i64 0) := (blk_cell HF2.out 1).trans rfl
          have hfd0 := blk_frozen HF2.out 0
          have hfd1 := blk_frozen HF2.out 1
          go_quiet (fail)
          go_wp2
          refine bodyPost_ret (results_list (rs := [.tmp 6, .tmp 7, .cell 8 25]) rfl (by simp) (.tmp (.tmp (.cell w.heap.size 25 #[.int .i64 0, .int .i64 0] (0, 0) _ rfl (by (with_reducible repeat (first | refine blk_drewN ?_ _ | refine blk_drew ?_)); refine blk_put (cs := #[.int .i64 0, .int .i64 0]) ?_ 1 _ rfl; (with_reducible repeat (first | refine blk_drewN ?_ _ | refine blk_drew ?_)); refine blk_put (cs := #[.int .i64 0, .int .i64 0]) ?_ 0 _ rfl; (with_reducible repeat (first | refine blk_drewN ?_ _ | refine blk_drew ?_)); exact HF2.out) Try.underlying25 rfl (by kernel_rfl) .nil)))) rfl ?_
          exact ⟨rfl, by repeat (first | exact HB3.out | apply pw_below_drewN | apply below_drew1 | refine below_set ?_ (Nat.le_refl _))⟩
        · rw [if_neg e] at H
          have cb0 : ((rd l0 at_) == at_) = false := beq_eq_false_iff_ne.mpr e
          have cb1 : ((rd l0 at_) != at_) = true := bne_iff_ne.mpr e
          clear e
          replace p1 := eq_true p1
          replace p2 := eq_true p2
          obtain ⟨jm, hjm⟩ : ∃ j : Int, mn a2 1000 = j := ⟨_, rfl⟩
          rw [hjm] at H
          unfold mn at hjm
          by_cases e2 : n ≥ jm
          · rw [if_pos e2] at H
            have cc : decide (jm ≤ n) = true := decide_eq_true e2
            clear e2
            simp only [Option.some.injEq, Prod.mk.injEq] at H
            obtain ⟨rfl, rfl, rfl, rfl⟩ := H
            go_wp2_with (first | (go_at_call 13; refine (passes_state_there.calls (some ad) c0 l0 at_ true _ HCR.out HC0.out HT.out).mono ?_; rintro e w1 ⟨rfl, hb⟩; have HB2 := Aside0.mk hb; clear hb))
            replace hx := pw_cell_below HB2.out hx
            have HF2 := Aside0.mk (blk_below HF.out HB2.out)
            have hc1' : w1.cell? ⟨w.heap.size + 1, 1, none⟩ = some (.int .i64 at_) := pw_cell_below HB2.out hc1
            have HB3 := Aside0.mk (HB1.out.trans (HB2.out.mono HB1.out.size))
            clear hc0 hc1 hd0 hd1 hfd0 hfd1
            go_quiet (fail)
            have hc2 : (w1.drewN nq).cell? ⟨w.heap.size + 1, 1, none⟩ = some (.int .i64 at_) := hc1'
            have HF2' := Aside0.mk (blk_drewN HF2.out nq)
            have HB3' := Aside0.mk (pw_below_drewN HB3.out nq)
            clear hc1' hx
            generalize w1.drewN nq = w3 at hc2 HF2' HB3' ⊢
            go_wp2
            go_still_tail 7, (by kernel_rfl)
            change wpList _ _ _ _ _ w3.drew
            clear hc2
            have HF3 := Aside0.mk (blk_drew HF2'.out)
            have HB4 := Aside0.mk (Below.drew HB3'.out)
            generalize w3.drew = w2 at HF3 HB4 ⊢
            have hd0 : w2.cell? ⟨w.heap.size, 0, none⟩ = some (.int .i64 0) := (blk_cell HF3.out 0).trans rfl
            have hd1 : w2.cell? ⟨w.heap.size, 1, none⟩ = some (.int .i64 0) := (blk_cell HF3.out 1).trans rfl
            have hfd0 := blk_frozen HF3.out 0
            have hfd1 := blk_frozen HF3.out 1
            go_wp2
            refine bodyPost_ret (results_list (rs := [.tmp 6, .tmp 7, .cell 8 25]) rfl (by simp) (.tmp (.tmp (.cell w.heap.size 25 #[.int .i64 240, .int .i64 at_] (0, 0) _ rfl (by refine blk_put (cs := #[.int .i64 240, .int .i64 0]) ?_ 1 _ rfl; refine blk_put (cs := #[.int .i64 0, .int .i64 0]) ?_ 0 _ rfl; exact HF3.out) Try.underlying25 rfl (by kernel_rfl) .nil)))) rfl ?_
            exact ⟨rfl, Below.setCell (Below.setCell HB4.out (Nat.le_refl _) _) (Nat.le_refl _) _⟩
          · rw [if_neg e2] at H
            have cc : decide (jm ≤ n) = false := decide_eq_false e2
            clear e2
            have H' := Aside0.mk H
            clear H
            go_wp2_with (first | (go_at_call 13; refine (passes_state_there.calls (some ad) c0 l0 at_ true _ HCR.out HC0.out HT.out).mono ?_; rintro e w1 ⟨rfl, hb⟩; have HB2 := Aside0.mk hb; clear hb))
            replace hx := pw_cell_below HB2.out hx
            have HF2 := Aside0.mk (blk_below HF.out HB2.out)
            have HG2 := Aside0.mk (blk_below HG.out HB2.out)
            have hc1' : w1.cell? ⟨w.heap.size + 1, 1, none⟩ = some (.int .i64 at_) := pw_cell_below HB2.out hc1
            have HB3 := Aside0.mk (HB1.out.trans (HB2.out.mono HB1.out.size))
            have HCR2 := Aside0.mk (Kd.C_below HCR.out HB2.out)
            clear hc0 hc1 hd0 hd1 hfd0 hfd1
            go_quiet (fail)
            go_wp2_with (first | (go_at_call 14; refine (passes_pass_own (w.heap.size + 1) (some ad) c0 l0 at_ _ (Kd.C_drewN HCR2.out _) (blk_drewN HG2.out _) HN.out).mono ?_; rintro e w2 ⟨rfl, hg3, hk3, hb3⟩; have HG3 := Aside0.mk hg3; have HK3 := Aside0.mk hk3; have HB5 := Aside0.mk hb3; clear hg3 hk3 hb3))
            have HF3 := Aside0.mk (HK3.out.blk (blk_drewN HF2.out _) (by omega) (by simp))
            have HB6 := Aside0.mk ((pw_below_drewN HB3.out _).trans (HB5.out.mono (by omega)))
            go_roundg k1
            case measure => have := HK1.out; omega
            case rel => exact ⟨_, rd l0 at_, rfl, H', ⟨by have := HK1.out; omega⟩, HG3, HF3, HB6⟩
      · rw [if_neg hin] at H
        have HT := Aside0.mk (passes_there_no hin)
        clear hin
        simp only [Option.some.injEq, Prod.mk.injEq] at H
        obtain ⟨rfl, rfl, rfl, rfl⟩ := H
        go_wp2_with (first | (go_at_call 13; refine (passes_state_there.calls A0 c0 l0 at_ false _ HCR.out HC0.out HT.out).mono ?_; rintro e w1 ⟨rfl, hb⟩; have HB2 := Aside0.mk hb; clear hb))
        have HF2 := Aside0.mk (blk_below HF.out HB2.out)
        have hc1' : w1.cell? ⟨w.heap.size + 1, 1, none⟩ = some (.int .i64 at_) := pw_cell_below HB2.out hc1
        have HB3 := Aside0.mk (HB1.out.trans (HB2.out.mono HB1.out.size))
        clear hc0 hc1 hd0 hd1 hfd0 hfd1
        go_still_tail 7, (by kernel_rfl)
        change wpList _ _ _ _ _ w1.drew
        clear hc1'
        have HF3 := Aside0.mk (blk_drew HF2.out)
        have HB4 := Aside0.mk (Below.drew HB3.out)
        generalize w1.drew = w2 at HF3 HB4 ⊢
        have hd0 : w2.cell? ⟨w.heap.size, 0, none⟩ = some (.int .i64 0) := (blk_cell HF3.out 0).trans rfl
        have hd1 : w2.cell? ⟨w.heap.size, 1, none⟩ = some (.int .i64 0) := (blk_cell HF3.out 1).trans rfl
        have hfd0 := blk_frozen HF3.out 0
        have hfd1 := blk_frozen HF3.out 1
        go_wp2
        refine bodyPost_ret (results_list (rs := [.tmp 6, .tmp 7, .cell 8 25]) rfl (by simp) (.tmp (.tmp (.cell w.heap.size 25 #[.int .i64 1, .int .i64 at_] (0, 0) _ rfl (by refine blk_put (cs := #[.int .i64 1, .int .i64 0]) ?_ 1 _ rfl; refine blk_put (cs := #[.int .i64 0, .int .i64 0]) ?_ 0 _ rfl; exact HF3.out) Try.underlying25 rfl (by kernel_rfl) .nil)))) rfl ?_
        exact ⟨rfl, Below.setCell (Below.setCell HB4.out (Nat.le_refl _) _) (Nat.le_refl _) _⟩

/-! ### variorumref24_There: function 15 -/
def variorumref24_There.f (l0 : List Int) (a1 : Int) : Option (Bool) := if a1 ≥ 0 then (some (decide (a1 < (l0.length : Int)))) else (some false)
set_option maxHeartbeats 8000000 in
set_option maxRecDepth 100000 in
theorem variorumref24_There.calls (A0 : Option Addr) (c0 : Nat) (l0 : List Int) (a1 : Int) (r : Bool) (w : World) (hr0 : Kd.C (Kd.int .i64) w A0 l0.length l0) (hc0 : l0.length ≤ c0) (h : variorumref24_There.f l0 a1 = some r) :
    Calls Try.prog 15 #[.slice A0 l0.length c0, .int .i64 a1] w fun e w' => e = .returned (.bool r) ∧ Drawn0 w w' := by
  have HR0 := Aside0.mk hr0
  have HC0 := Aside0.mk hc0
  clear hr0 hc0
  have H : (if a1 ≥ 0 then (some (decide (a1 < (l0.length : Int)))) else (some false)) = some r := h
  clear h
  by_cases c3 : a1 ≥ 0
  · rw [if_pos c3] at H
    have c3b0 : decide (0 ≤ a1) = true := decide_eq_true c3
    clear c3
    obtain rfl := Option.some.inj H
    go_enter Try.func15, Try.ntmps15
    go_wp2
    go_ret
    exact ⟨by first | rfl | (simp; done) | (simp [*]; done), by repeat (first | exact Drawn0.refl _ | apply Drawn0.step)⟩
  · rw [if_neg c3] at H
    have c3b0 : decide (0 ≤ a1) = false := decide_eq_false c3
    clear c3
    obtain rfl := Option.some.inj H
    go_enter Try.func15, Try.ntmps15
    go_wp2
    go_ret
    exact ⟨by first | rfl | (simp; done) | (simp [*]; done), by repeat (first | exact Drawn0.refl _ | apply Drawn0.step)⟩

/-! ### variorumref24_Fix: function 8 -/
mutual
def variorumref24_Fix.l0 : Nat → List Int → Int → Int → Int → Option (Int × Int × Int × Int)
  | 0, _, _, _, _ => none
  | k + 1, x0, x1, x2, x9 => (variorumref24_There.f x0 x1).bind fun t104 => (if t104 = true then (if 0 ≤ x1 then (if x1 < (x0.length : Int) then (variorumref24_Fix.j1 k x0 x1 x2 x9 ((rd x0 x1) != x1)) else (none)) else (none)) else (variorumref24_Fix.j1 k x0 x1 x2 x9 false))
def variorumref24_Fix.j1 : Nat → List Int → Int → Int → Int → Bool → Option (Int × Int × Int × Int)
  | 0, _, _, _, _, _ => none
  | k + 1, x0, x1, x2, x9, x20 => if x20 = true then (if x9 ≥ x2 then (some (0, 0, 240, x1)) else (if x9 ≥ 1000 then (some (0, 0, 240, x1)) else (if 0 ≤ x1 then (if x1 < (x0.length : Int) then (variorumref24_Fix.l0 k x0 (rd x0 x1) x2 (wrap64 (x9 + 1))) else (none)) else (none)))) else ((variorumref24_There.f x0 x1).bind fun t107 => (if t107 = true then (some (x1, x9, 0, 0)) else (some (0, 0, 1, x1))))
end
def variorumref24_Fix.f (k : Nat) (l0 : List Int) (a1 : Int) (a2 : Int) : Option (Int × Int × Int × Int) := variorumref24_Fix.l0 k l0 a1 a2 0
theorem variorumref24_Fix.mono_l : ∀ k, (∀ y0 y1 y2 y3, LeO (variorumref24_Fix.l0 k y0 y1 y2 y3) (variorumref24_Fix.l0 (k + 1) y0 y1 y2 y3)) ∧ (∀ y0 y1 y2 y3 y4, LeO (variorumref24_Fix.j1 k y0 y1 y2 y3 y4) (variorumref24_Fix.j1 (k + 1) y0 y1 y2 y3 y4))
  | 0 => ⟨fun _ _ _ _ r h => by simp [variorumref24_Fix.l0] at h, fun _ _ _ _ _ r h => by simp [variorumref24_Fix.j1] at h⟩
  | k + 1 => by
    obtain ⟨ih0, ih1⟩ := variorumref24_Fix.mono_l k
    refine ⟨?_, ?_⟩
    · intro y0 y1 y2 y3
      unfold variorumref24_Fix.l0
      repeat' first
      | (with_reducible exact ih0 _ _ _ _)
      | (with_reducible exact ih1 _ _ _ _ _)
      | (with_reducible exact LeO.refl _)
      | (with_reducible exact LeO.none _)
      | (with_reducible refine LeO.ite ?_ ?_)
      | (with_reducible refine LeO.bind ?_ (fun _ => ?_))
      | exact ih0 _ _ _ _
      | exact ih1 _ _ _ _ _
      | exact LeO.none _
      | refine LeO.ite ?_ ?_
      | refine LeO.bind ?_ (fun _ => ?_)
    · intro y0 y1 y2 y3 y4
      unfold variorumref24_Fix.j1
      repeat' first
      | (with_reducible exact ih0 _ _ _ _)
      | (with_reducible exact ih1 _ _ _ _ _)
      | (with_reducible exact LeO.refl _)
      | (with_reducible exact LeO.none _)
      | (with_reducible refine LeO.ite ?_ ?_)
      | (with_reducible refine LeO.bind ?_ (fun _ => ?_))
      | exact ih0 _ _ _ _
      | exact ih1 _ _ _ _ _
      | exact LeO.none _
      | refine LeO.ite ?_ ?_
      | refine LeO.bind ?_ (fun _ => ?_)
theorem variorumref24_Fix.mono : ∀ a0 a1 a2 k, LeO (variorumref24_Fix.f k a0 a1 a2) (variorumref24_Fix.f (k + 1) a0 a1 a2) := by
  intro a0 a1 a2 k
  obtain ⟨ih0, ih1⟩ := variorumref24_Fix.mono_l k
  unfold variorumref24_Fix.f
  repeat' first
      | (with_reducible exact ih0 _ _ _ _)
      | (with_reducible exact ih1 _ _ _ _ _)
      | (with_reducible exact LeO.refl _)
      | (with_reducible exact LeO.none _)
      | (with_reducible refine LeO.ite ?_ ?_)
      | (with_reducible refine LeO.bind ?_ (fun _ => ?_))
      | exact ih0 _ _ _ _
      | exact ih1 _ _ _ _ _
      | exact LeO.none _
      | refine LeO.ite ?_ ?_
      | refine LeO.bind ?_ (fun _ => ?_)
set_option maxHeartbeats 8000000 in
set_option maxRecDepth 100000 in
theorem variorumref24_Fix.calls (k : Nat) (A0 : Option Addr) (c0 : Nat) (l0 : List Int) (a1 : Int) (a2 : Int) (r1 : Int) (r2 : Int) (r3 : Int) (r4 : Int) (w : World) (hr0 : Kd.C (Kd.int .i64) w A0 l0.length l0) (hc0 : l0.length ≤ c0) (h : variorumref24_Fix.f k l0 a1 a2 = some (r1, r2, r3, r4)) :
    Calls Try.prog 8 #[.slice A0 l0.length c0, .int .i64 a1, .int .i64 a2] w fun e w' => e = .returned (.tuple #[.int .i64 r1, .int .i64 r2, .agg #[.int .i64 r3, .int .i64 r4]]) ∧ Below w.heap.size w w' := by
  have hu25 := Try.underlying25
  have HR0 := Aside0.mk hr0
  have HC0 := Aside0.mk hc0
  clear hr0 hc0
  have HB := Aside0.mk (Below.refl w.heap.size w)
  have H : (variorumref24_Fix.l0 k l0 a1 a2 0) = some (r1, r2, r3, r4) := h
  clear h
  have H' := Aside0.mk H
  clear H
  go_enter Try.func8, Try.ntmps8
  go_wp2_with (first | ((with_reducible refine gate_dst (N := 8) rfl ?_); refine box_event ?hg (N := 8) ?hd (cs := #[.int .i64 0, .int .i64 0]) (t := 25) ?hr ?_; (case hd => rfl); (case hg => rfl); (case hr => first | (go_simp; done) | (go_simp; rfl)); intro gb103 hg w4 hbox hb; have n0_ := Aside0.mk (below_step (by repeat (first | (with_reducible first | exact HB.out | apply below_alloc | apply pw_below_drewN | apply below_drew1) | exact HB.out)) hb); have n1_ := Aside0.mk (hbox); have n2_ := Aside0.mk ((by rw [hg]; exact (below_size (by repeat (first | (with_reducible first | exact HB.out | apply below_alloc | apply pw_below_drewN | apply below_drew1) | exact HB.out))) : w.heap.size ≤ gb103)); have n3_ := Aside0.mk ((by rw [hg]; exact (below_size (by repeat (first | (with_reducible first | exact HB.out | apply below_alloc | apply pw_below_drewN | apply below_drew1) | exact HB.out))) : w.heap.size ≤ gb103)); clear HB; have HB := n0_; have BK103 := n1_; have GW103 := n2_; have GE103 := n3_; clear n0_ n1_ n2_ n3_; clear hb hbox hg))
  go_loopg [1, 9] k (fun kq v1 v9 w' => ∃ (x1_1 : Int) (x9_1 : Int) (x104000_1 : Int) (x104001_1 : Int), v1 = .int .i64 x1_1 ∧ v9 = .int .i64 x9_1 ∧ Aside0 (variorumref24_Fix.l0 kq l0 x1_1 a2 x9_1 = some (r1, r2, r3, r4)) ∧ Aside0 (kq ≤ k) ∧ Aside0 (w'.heap[gb103]? = some (.cells #[.int .i64 x104000_1, .int .i64 x104001_1] 25 (0, 0))) ∧ Aside0 (Below w.heap.size w w'))
  case atStart => exact ⟨(a1), (0), (0), (0), (by first | rfl | (simp; done) | (simp [*]; done)), (by first | rfl | (simp; done) | (simp [*]; done)), H', ⟨Nat.le_refl _⟩, ⟨by (with_reducible repeat (first | refine blk_drewN ?_ _ | refine blk_drew ?_ | refine blk_alloc ?_ _)); exact BK103.out⟩, ⟨by repeat (first | (with_reducible first | exact HB.out | apply below_alloc | apply pw_below_drewN | apply below_drew1 | refine below_set ?_ GE103.out) | exact HB.out)⟩⟩
  case round =>
    clear H'
    try clear p2
    obtain ⟨x1_1, x9_1, x104000_1, x104001_1, rfl, rfl, HA, HK1, BK103, HB⟩ := hrel
    cases gk with
    | zero => exact absurd HA.out (by simp [variorumref24_Fix.l0])
    | succ k1 =>
      have H := HA.out
      clear HA
      simp only [variorumref24_Fix.l0] at H
      have HC5 := Aside0.mk H
      clear H
      go_upto_region 2 with (fail)
      go_cut [20] (fun v20 wc => ∃ (kq : Nat) (x20_4 : Bool), v20 = .bool x20_4 ∧ Aside0 (variorumref24_Fix.j1 kq l0 x1_1 a2 x9_1 x20_4 = some (r1, r2, r3, r4)) ∧ Aside0 (kq ≤ k1) ∧ Aside0 (wc.heap[gb103]? = some (.cells #[.int .i64 x104000_1, .int .i64 x104001_1] 25 (0, 0))) ∧ Aside0 (Below w.heap.size w wc))
      case first =>
        have H := HC5.out
        clear HC5
        replace H := Option.bind_eq_some_iff.mp H
        obtain ⟨t104, A60, H⟩ := H
        replace H : (if t104 = true then (if 0 ≤ x1_1 then (if x1_1 < (l0.length : Int) then (variorumref24_Fix.j1 k1 l0 x1_1 a2 x9_1 ((rd l0 x1_1) != x1_1)) else (none)) else (none)) else (variorumref24_Fix.j1 k1 l0 x1_1 a2 x9_1 false)) = some (r1, r2, r3, r4) := H
        have A6 := Aside0.mk A60
        clear A60
        by_cases c7 : t104 = true
        · subst c7
          have H1 : (if 0 ≤ x1_1 then (if x1_1 < (l0.length : Int) then (variorumref24_Fix.j1 k1 l0 x1_1 a2 x9_1 ((rd l0 x1_1) != x1_1)) else (none)) else (none)) = some (r1, r2, r3, r4) := by rw [if_pos rfl] at H; exact H
          clear H
          have H := H1
          clear H1
          by_cases c8 : 0 ≤ x1_1
          · rw [if_pos c8] at H
            have c8b0 : decide (0 ≤ x1_1) = true := decide_eq_true c8
            clear c8
            (first | rw [c8b0] | (simp only [i64_w, i32_w]; rw [c8b0]) | skip)
            by_cases c9 : x1_1 < (l0.length : Int)
            · rw [if_pos c9] at H
              have c9b0 : decide (x1_1 < (l0.length : Int)) = true := decide_eq_true c9
              clear c9
              have H' := Aside0.mk H
              clear H
              go_wp2_with (first | ((with_reducible refine gate_callee (f := 15) rfl ?_); refine goesL_ (some 12) rfl rfl Try.func15 (by kernel_rfl) rfl #[.slice A0 l0.length c0, .int .i64 x1_1] rfl (by (try simp only [List.map_toArray, List.map_cons, List.map_nil]); first | done | rfl | (simp only [List.length_drop, List.length_take]; rfl)) ?_; (with_reducible refine (variorumref24_There.calls _ _ l0 x1_1 true _ ?side1 ?side2 A6.out).mono ?_); (case side1 => repeat (first | exact (Kd.C_below HR0.out HB.out) | (with_reducible refine Kd.C_alloc ?_ _) | (with_reducible refine Kd.C_drewN ?_ _) | (with_reducible refine Kd.C_drew ?_))); (case side2 => exact HC0.out); rintro e w' ⟨rfl, ⟨nd, rfl⟩⟩; refine ⟨_, rfl, ?_⟩; have p105 : 0 ≤ (x1_1 : Int) := of_decide_eq_true (by first | (with_reducible assumption) | assumption); have q105 : x1_1 < (l0.length : Int) := of_decide_eq_true (by first | (with_reducible assumption) | assumption); obtain ⟨ad105, e105, hx105_0⟩ := Kd.at_int HR0.out x1_1 p105 q105; cases e105; replace hx105_0 := (HB.out.cell (World.block_lt_of_cell? w _ hx105_0)).trans hx105_0; replace p105 := eq_true p105; replace q105 := eq_true q105))
              go_meet
              case rel => exact ⟨_, (((rd l0 x1_1) != x1_1)), (by first | rfl | (simp; done) | (simp [*]; done)), H', ⟨by have := HK1.out; first | omega | exact Nat.le_refl _⟩, ⟨by (with_reducible repeat (first | refine blk_drewN ?_ _ | refine blk_drew ?_ | refine blk_alloc ?_ _)); exact BK103.out⟩, ⟨by repeat (first | (with_reducible first | exact HB.out | apply below_alloc | apply pw_below_drewN | apply below_drew1 | refine below_set ?_ GE103.out) | exact HB.out)⟩⟩
            · rw [if_neg c9] at H
              exact absurd H (by simp)
          · rw [if_neg c8] at H
            exact absurd H (by simp)
        · replace c7 := Bool.eq_false_iff.mpr c7
          subst c7
          have H1 : (variorumref24_Fix.j1 k1 l0 x1_1 a2 x9_1 false) = some (r1, r2, r3, r4) := by rw [if_neg (show ¬ (false = true) by decide)] at H; exact H
          clear H
          have H := H1
          clear H1
          have H' := Aside0.mk H
          clear H
          go_wp2_with (first | ((with_reducible refine gate_callee (f := 15) rfl ?_); refine goesL_ (some 12) rfl rfl Try.func15 (by kernel_rfl) rfl #[.slice A0 l0.length c0, .int .i64 x1_1] rfl (by (try simp only [List.map_toArray, List.map_cons, List.map_nil]); first | done | rfl | (simp only [List.length_drop, List.length_take]; rfl)) ?_; (with_reducible refine (variorumref24_There.calls _ _ l0 x1_1 false _ ?side1 ?side2 A6.out).mono ?_); (case side1 => repeat (first | exact (Kd.C_below HR0.out HB.out) | (with_reducible refine Kd.C_alloc ?_ _) | (with_reducible refine Kd.C_drewN ?_ _) | (with_reducible refine Kd.C_drew ?_))); (case side2 => exact HC0.out); rintro e w' ⟨rfl, ⟨nd, rfl⟩⟩; refine ⟨_, rfl, ?_⟩))
          go_meet
          case rel => exact ⟨_, (false), (by first | rfl | (simp; done) | (simp [*]; done)), H', ⟨by have := HK1.out; first | omega | exact Nat.le_refl _⟩, ⟨by (with_reducible repeat (first | refine blk_drewN ?_ _ | refine blk_drew ?_ | refine blk_alloc ?_ _)); exact BK103.out⟩, ⟨by repeat (first | (with_reducible first | exact HB.out | apply below_alloc | apply pw_below_drewN | apply below_drew1 | refine below_set ?_ GE103.out) | exact HB.out)⟩⟩
      case rest =>
        clear HC5
        try clear c1
        try clear p1
        try clear q1
        try clear hx1
        try clear p2
        try clear c7
        try clear c8
        try clear c8b0
        try clear c9
        try clear c9b0
        try clear hx105_0
        try clear p105
        try clear p2
        try clear q105
        obtain ⟨kq, x20_4, rfl, HA, HJ4, BK103, HB⟩ := hcut
        cases kq with
        | zero => exact absurd HA.out (by simp [variorumref24_Fix.j1])
        | succ kj4 =>
          have H := HA.out
          clear HA
          simp only [variorumref24_Fix.j1] at H
          by_cases c10 : x20_4 = true
          · subst c10
            have H1 : (if x9_1 ≥ a2 then (some (0, 0, 240, x1_1)) else (if x9_1 ≥ 1000 then (some (0, 0, 240, x1_1)) else (if 0 ≤ x1_1 then (if x1_1 < (l0.length : Int) then (variorumref24_Fix.l0 kj4 l0 (rd l0 x1_1) a2 (wrap64 (x9_1 + 1))) else (none)) else (none)))) = some (r1, r2, r3, r4) := by rw [if_pos rfl] at H; exact H
            clear H
            have H := H1
            clear H1
            by_cases c11 : x9_1 ≥ a2
            · rw [if_pos c11] at H
              have c11b0 : decide (a2 ≤ x9_1) = true := decide_eq_true c11
              clear c11
              simp only [Option.some.injEq, Prod.mk.injEq] at H
              obtain ⟨rfl, rfl, rfl, rfl⟩ := H
              have hcz12_0 : wc.cell? ⟨gb103, 0, none⟩ = some (.int .i64 x104000_1) := (blk_cell BK103.out 0).trans rfl
              have hcz12_1 : wc.cell? ⟨gb103, 1, none⟩ = some (.int .i64 x104001_1) := (blk_cell BK103.out 1).trans rfl
              have hfz12_0 := blk_frozen BK103.out 0
              have hfz12_1 := blk_frozen BK103.out 1
              go_wp2
              refine bodyPost_ret (results_list (rs := [.tmp 6, .tmp 7, .cell 8 25]) rfl (by simp) (.tmp (.tmp (.cell gb103 25 #[.int .i64 240, .int .i64 x1_1] (0, 0) _ rfl (by (with_reducible repeat (first | refine blk_drewN ?_ _ | refine blk_drew ?_ | refine blk_alloc ?_ _)); refine blk_put (cs := #[.int .i64 240, .int .i64 x104001_1]) ?_ 1 _ rfl; (with_reducible repeat (first | refine blk_drewN ?_ _ | refine blk_drew ?_ | refine blk_alloc ?_ _)); refine blk_put (cs := #[.int .i64 x104000_1, .int .i64 x104001_1]) ?_ 0 _ rfl; (with_reducible repeat (first | refine blk_drewN ?_ _ | refine blk_drew ?_ | refine blk_alloc ?_ _)); exact BK103.out) Try.underlying25 rfl (by kernel_rfl) .nil)))) rfl ?_
              exact ⟨by first | rfl | (simp [errW_none, errW_some] <;> rfl) | (simp [*, errW_none, errW_some] <;> rfl), by repeat (first | (with_reducible first | exact HB.out | apply below_alloc | apply pw_below_drewN | apply below_drew1 | refine below_set ?_ GE103.out) | exact HB.out)⟩
            · rw [if_neg c11] at H
              have c11b0 : decide (a2 ≤ x9_1) = false := decide_eq_false c11
              clear c11
              by_cases c13 : x9_1 ≥ 1000
              · rw [if_pos c13] at H
                have c13b0 : decide (1000 ≤ x9_1) = true := decide_eq_true c13
                clear c13
                simp only [Option.some.injEq, Prod.mk.injEq] at H
                obtain ⟨rfl, rfl, rfl, rfl⟩ := H
                have hcz14_0 : wc.cell? ⟨gb103, 0, none⟩ = some (.int .i64 x104000_1) := (blk_cell BK103.out 0).trans rfl
                have hcz14_1 : wc.cell? ⟨gb103, 1, none⟩ = some (.int .i64 x104001_1) := (blk_cell BK103.out 1).trans rfl
                have hfz14_0 := blk_frozen BK103.out 0
                have hfz14_1 := blk_frozen BK103.out 1
                go_wp2
                refine bodyPost_ret (results_list (rs := [.tmp 6, .tmp 7, .cell 8 25]) rfl (by simp) (.tmp (.tmp (.cell gb103 25 #[.int .i64 240, .int .i64 x1_1] (0, 0) _ rfl (by (with_reducible repeat (first | refine blk_drewN ?_ _ | refine blk_drew ?_ | refine blk_alloc ?_ _)); refine blk_put (cs := #[.int .i64 240, .int .i64 x104001_1]) ?_ 1 _ rfl; (with_reducible repeat (first | refine blk_drewN ?_ _ | refine blk_drew ?_ | refine blk_alloc ?_ _)); refine blk_put (cs := #[.int .i64 x104000_1, .int .i64 x104001_1]) ?_ 0 _ rfl; (with_reducible repeat (first | refine blk_drewN ?_ _ | refine blk_drew ?_ | refine blk_alloc ?_ _)); exact BK103.out) Try.underlying25 rfl (by kernel_rfl) .nil)))) rfl ?_
                exact ⟨by first | rfl | (simp [errW_none, errW_some] <;> rfl) | (simp [*, errW_none, errW_some] <;> rfl), by repeat (first | (with_reducible first | exact HB.out | apply below_alloc | apply pw_below_drewN | apply below_drew1 | refine below_set ?_ GE103.out) | exact HB.out)⟩
              · rw [if_neg c13] at H
                have c13b0 : decide (1000 ≤ x9_1) = false := decide_eq_false c13
                clear c13
                by_cases c15 : 0 ≤ x1_1
                · rw [if_pos c15] at H
                  have c15b0 : decide (0 ≤ x1_1) = true := decide_eq_true c15
                  clear c15
                  by_cases c16 : x1_1 < (l0.length : Int)
                  · rw [if_pos c16] at H
                    have c16b0 : decide (x1_1 < (l0.length : Int)) = true := decide_eq_true c16
                    clear c16
                    have H' := Aside0.mk H
                    clear H
                    have p106 : 0 ≤ (x1_1 : Int) := of_decide_eq_true (by first | (with_reducible assumption) | assumption)
                    have q106 : x1_1 < (l0.length : Int) := of_decide_eq_true (by first | (with_reducible assumption) | assumption)
                    obtain ⟨ad106, e106, hx106_0⟩ := Kd.at_int HR0.out x1_1 p106 q106
                    cases e106
                    replace hx106_0 := (HB.out.cell (World.block_lt_of_cell? w _ hx106_0)).trans hx106_0
                    replace p106 := eq_true p106
                    replace q106 := eq_true q106
                    go_wp2
                    go_roundg kj4
                    case measure => have := HK1.out; have := HJ4.out; omega
                    case rel => exact ⟨(rd l0 x1_1), (wrap64 (x9_1 + 1)), (x104000_1), (x104001_1), (by first | rfl | (simp; done) | (simp [*]; done)), (by first | rfl | (simp; done) | (simp [*]; done)), H', ⟨by have := HK1.out; have := HJ4.out; omega⟩, ⟨by (with_reducible repeat (first | refine blk_drewN ?_ _ | refine blk_drew ?_ | refine blk_alloc ?_ _)); exact BK103.out⟩, ⟨by repeat (first | (with_reducible first | exact HB.out | apply below_alloc | apply pw_below_drewN | apply below_drew1 | refine below_set ?_ GE103.out) | exact HB.out)⟩⟩
                  · rw [if_neg c16] at H
                    exact absurd H (by simp)
                · rw [if_neg c15] at H
                  exact absurd H (by simp)
          · replace c10 := Bool.eq_false_iff.mpr c10
            subst c10
            have H1 : ((variorumref24_There.f l0 x1_1).bind fun t107 => (if t107 = true then (some (x1_1, x9_1, 0, 0)) else (some (0, 0, 1, x1_1)))) = some (r1, r2, r3, r4) := by rw [if_neg (show ¬ (false = true) by decide)] at H; exact H
            clear H
            have H := H1
            clear H1
            replace H := Option.bind_eq_some_iff.mp H
            obtain ⟨t107, A170, H⟩ := H
            replace H : (if t107 = true then (some (x1_1, x9_1, 0, 0)) else (some (0, 0, 1, x1_1))) = some (r1, r2, r3, r4) := H
            have A17 := Aside0.mk A170
            clear A170
            by_cases c18 : t107 = true
            · subst c18
              have H1 : (some (x1_1, x9_1, 0, 0)) = some (r1, r2, r3, r4) := by rw [if_pos rfl] at H; exact H
              clear H
              have H := H1
              clear H1
              simp only [Option.some.injEq, Prod.mk.injEq] at H
              obtain ⟨rfl, rfl, rfl, rfl⟩ := H
              go_wp2_with (first | ((with_reducible refine gate_callee (f := 15) rfl ?_); refine goesL_ (some 38) rfl rfl Try.func15 (by kernel_rfl) rfl #[.slice A0 l0.length c0, .int .i64 x1_1] rfl (by (try simp only [List.map_toArray, List.map_cons, List.map_nil]); first | done | rfl | (simp only [List.length_drop, List.length_take]; rfl)) ?_; (with_reducible refine (variorumref24_There.calls _ _ l0 x1_1 true _ ?side1 ?side2 A17.out).mono ?_); (case side1 => repeat (first | exact (Kd.C_below HR0.out HB.out) | (with_reducible refine Kd.C_alloc ?_ _) | (with_reducible refine Kd.C_drewN ?_ _) | (with_reducible refine Kd.C_drew ?_))); (case side2 => exact HC0.out); rintro e w' ⟨rfl, ⟨nd, rfl⟩⟩; refine ⟨_, rfl, ?_⟩; (try (rw [drewN_self wc]; generalize hq_ : World.drewN wc _ = wc; have n0_ : Aside0 (wc.heap[gb103]? = some (.cells #[.int .i64 x104000_1, .int .i64 x104001_1] 25 (0, 0))) := ⟨by rw [← hq_]; exact (by (with_reducible repeat (first | refine blk_drewN ?_ _ | refine blk_drew ?_ | refine blk_alloc ?_ _)); exact BK103.out)⟩; have n1_ : Aside0 (Below w.heap.size w wc) := ⟨by rw [← hq_]; exact (by repeat (first | (with_reducible first | exact HB.out | apply below_alloc | apply pw_below_drewN | apply below_drew1 | refine below_set ?_ GE103.out) | exact HB.out))⟩; clear BK103 HB hq_; have BK103 := n0_; have HB := n1_; clear n0_ n1_)); have hcz19_0 : wc.cell? ⟨gb103, 0, none⟩ = some (.int .i64 x104000_1) := (blk_cell BK103.out 0).trans rfl; have hcz19_1 : wc.cell? ⟨gb103, 1, none⟩ = some (.int .i64 x104001_1) := (blk_cell BK103.out 1).trans rfl; have hfz19_0 := blk_frozen BK103.out 0; have hfz19_1 := blk_frozen BK103.out 1))
              refine bodyPost_ret (results_list (rs := [.tmp 6, .tmp 7, .cell 8 25]) rfl (by simp) (.tmp (.tmp (.cell gb103 25 #[.int .i64 0, .int .i64 0] (0, 0) _ rfl (by (with_reducible repeat (first | refine blk_drewN ?_ _ | refine blk_drew ?_ | refine blk_alloc ?_ _)); refine blk_put (cs := #[.int .i64 0, .int .i64 x104001_1]) ?_ 1 _ rfl; (with_reducible repeat (first | refine blk_drewN ?_ _ | refine blk_drew ?_ | refine blk_alloc ?_ _)); refine blk_put (cs := #[.int .i64 x104000_1, .int .i64 x104001_1]) ?_ 0 _ rfl; (with_reducible repeat (first | refine blk_drewN ?_ _ | refine blk_drew ?_ | refine blk_alloc ?_ _)); exact BK103.out) Try.underlying25 rfl (by kernel_rfl) .nil)))) rfl ?_
              exact ⟨by first | rfl | (simp [errW_none, errW_some] <;> rfl) | (simp [*, errW_none, errW_some] <;> rfl), by repeat (first | (with_reducible first | exact HB.out | apply below_alloc | apply pw_below_drewN | apply below_drew1 | refine below_set ?_ GE103.out) | exact HB.out)⟩
            · replace c18 := Bool.eq_false_iff.mpr c18
              subst c18
              have H1 : (some (0, 0, 1, x1_1)) = some (r1, r2, r3, r4) := by rw [if_neg (show ¬ (false = true) by decide)] at H; exact H
              clear H
              have H := H1
              clear H1
              simp only [Option.some.injEq, Prod.mk.injEq] at H
              obtain ⟨rfl, rfl, rfl, rfl⟩ := H
              go_wp2_with (first | ((with_reducible refine gate_callee (f := 15) rfl ?_); refine goesL_ (some 38) rfl rfl Try.func15 (by kernel_rfl) rfl #[.slice A0 l0.length c0, .int .i64 x1_1] rfl (by (try simp only [List.map_toArray, List.map_cons, List.map_nil]); first | done | rfl | (simp only [List.length_drop, List.length_take]; rfl)) ?_; (with_reducible refine (variorumref24_There.calls _ _ l0 x1_1 false _ ?side1 ?side2 A17.out).mono ?_); (case side1 => repeat (first | exact (Kd.C_below HR0.out HB.out) | (with_reducible refine Kd.C_alloc ?_ _) | (with_reducible refine Kd.C_drewN ?_ _) | (with_reducible refine Kd.C_drew ?_))); (case side2 => exact HC0.out); rintro e w' ⟨rfl, ⟨nd, rfl⟩⟩; refine ⟨_, rfl, ?_⟩; (try (rw [drewN_self wc]; generalize hq_ : World.drewN wc _ = wc; have n0_ : Aside0 (wc.heap[gb103]? = some (.cells #[.int .i64 x104000_1, .int .i64 x104001_1] 25 (0, 0))) := ⟨by rw [← hq_]; exact (by (with_reducible repeat (first | refine blk_drewN ?_ _ | refine blk_drew ?_ | refine blk_alloc ?_ _)); exact BK103.out)⟩; have n1_ : Aside0 (Below w.heap.size w wc) := ⟨by rw [← hq_]; exact (by repeat (first | (with_reducible first | exact HB.out | apply below_alloc | apply pw_below_drewN | apply below_drew1 | refine below_set ?_ GE103.out) | exact HB.out))⟩; clear BK103 HB hq_; have BK103 := n0_; have HB := n1_; clear n0_ n1_)); have hcz20_0 : wc.cell? ⟨gb103, 0, none⟩ = some (.int .i64 x104000_1) := (blk_cell BK103.out 0).trans rfl; have hcz20_1 : wc.cell? ⟨gb103, 1, none⟩ = some (.int .i64 x104001_1) := (blk_cell BK103.out 1).trans rfl; have hfz20_0 := blk_frozen BK103.out 0; have hfz20_1 := blk_frozen BK103.out 1))
              refine bodyPost_ret (results_list (rs := [.tmp 6, .tmp 7, .cell 8 25]) rfl (by simp) (.tmp (.tmp (.cell gb103 25 #[.int .i64 1, .int .i64 x1_1] (0, 0) _ rfl (by (with_reducible repeat (first | refine blk_drewN ?_ _ | refine blk_drew ?_ | refine blk_alloc ?_ _)); refine blk_put (cs := #[.int .i64 1, .int .i64 x104001_1]) ?_ 1 _ rfl; (with_reducible repeat (first | refine blk_drewN ?_ _ | refine blk_drew ?_ | refine blk_alloc ?_ _)); refine blk_put (cs := #[.int .i64 x104000_1, .int .i64 x104001_1]) ?_ 0 _ rfl; (with_reducible repeat (first | refine blk_drewN ?_ _ | refine blk_drew ?_ | refine blk_alloc ?_ _)); exact BK103.out) Try.underlying25 rfl (by kernel_rfl) .nil)))) rfl ?_
              exact ⟨by first | rfl | (simp [errW_none, errW_some] <;> rfl) | (simp [*, errW_none, errW_some] <;> rfl), by repeat (first | (with_reducible first | exact HB.out | apply below_alloc | apply pw_below_drewN | apply below_drew1 | refine below_set ?_ GE103.out) | exact HB.out)⟩

/-! ### passes_Way: function 9 -/
def passes_Way.l0 : Nat → List Int → Int → Int → List Int → Option (List Int × Int × Int)
  | 0, _, _, _, _ => none
  | k + 1, x0, x1, x2, x9 => if 0 ≤ x1 ∧ x1 < (x0.length : Int) then (if x9.length < 17592186044416 then (if ((x9 ++ [x1]).length : Int) > x2 then some (x9 ++ [x1], 0, 0) else passes_Way.l0 k x0 (rd x0 x1) x2 (x9 ++ [x1])) else none) else some (([] : List Int), 1, x1)
def passes_Way.f (k : Nat) (l0 : List Int) (a1 : Int) (a2 : Int) : Option (List Int × Int × Int) := if a2 < 0 then some (([] : List Int), 1, (-1)) else if a2 > 1000 then some (([] : List Int), 1, (-1)) else passes_Way.l0 k l0 a1 a2 []

theorem passes_Way.mono_l : ∀ k, (∀ y0 y1 y2 y3, LeO (passes_Way.l0 k y0 y1 y2 y3) (passes_Way.l0 (k + 1) y0 y1 y2 y3))
  | 0 => fun _ _ _ _ r h => by simp [passes_Way.l0] at h
  | k + 1 => by
    have ih0 := passes_Way.mono_l k
    · intro y0 y1 y2 y3
      unfold passes_Way.l0
      repeat' first
      | (with_reducible exact ih0 _ _ _ _)
      | (with_reducible exact LeO.refl _)
      | (with_reducible exact LeO.none _)
      | (with_reducible refine LeO.ite ?_ ?_)
      | (with_reducible refine LeO.bind ?_ (fun _ => ?_))
      | exact ih0 _ _ _ _
      | exact LeO.none _
      | refine LeO.ite ?_ ?_
      | refine LeO.bind ?_ (fun _ => ?_)
theorem passes_Way.mono : ∀ a0 a1 a2 k, LeO (passes_Way.f k a0 a1 a2) (passes_Way.f (k + 1) a0 a1 a2) := by
  intro a0 a1 a2 k
  have ih0 := passes_Way.mono_l k
  unfold passes_Way.f
  repeat' first
      | (with_reducible exact ih0 _ _ _ _)
      | (with_reducible exact LeO.refl _)
      | (with_reducible exact LeO.none _)
      | (with_reducible refine LeO.ite ?_ ?_)
      | (with_reducible refine LeO.bind ?_ (fun _ => ?_))
      | exact ih0 _ _ _ _
      | exact LeO.none _
      | refine LeO.ite ?_ ?_
      | refine LeO.bind ?_ (fun _ => ?_)
set_option maxHeartbeats 8000000 in
set_option maxRecDepth 100000 in
theorem passes_Way.calls (k : Nat) (A0 : Option Addr) (c0 : Nat) (l0 : List Int) (a1 : Int) (a2 : Int) (r1 : List Int) (r2 : Int) (r3 : Int) (w : World) (hr0 : Kd.C (Kd.int .i64) w A0 l0.length l0) (hc0 : l0.length ≤ c0) (h : passes_Way.f k l0 a1 a2 = some (r1, r2, r3)) :
    Calls Try.prog 9 #[.slice A0 l0.length c0, .int .i64 a1, .int .i64 a2] w fun e w' => ∃ v0_ : Value, e = .returned (.tuple #[v0_, .agg #[.int .i64 r2, .int .i64 r3]]) ∧ Kd.R (Kd.int .i64) 3 w' w.heap.size (fun _ => True) v0_ r1 ∧ Below w.heap.size w w' := by
  have hu25 := Try.underlying25
  have hu36 := Try.underlying36
  have HR0 := Aside0.mk hr0
  have HC0 := Aside0.mk hc0
  clear hr0 hc0
  have HB := Aside0.mk (Below.refl w.heap.size w)
  have H : (if a2 < 0 then some (([] : List Int), 1, (-1)) else if a2 > 1000 then some (([] : List Int), 1, (-1)) else passes_Way.l0 k l0 a1 a2 []) = some (r1, r2, r3) := h
  clear h
  by_cases e1 : a2 < 0
  · rw [if_pos e1] at H
    have cb : decide (a2 < 0) = true := decide_eq_true e1
    clear e1
    simp only [Option.some.injEq, Prod.mk.injEq] at H
    obtain ⟨rfl, rfl, rfl⟩ := H
    go_enter Try.func9, Try.ntmps9
    go_wp2_with fail
    refine bodyPost_ret (results_tc rfl _ _ w.heap.size 25 #[.int .i64 1, .int .i64 (-1)] (0, 0) _ rfl (by first | exact blk_new _ _ | (refine blk_put (cs := #[.int .i64 1, .int .i64 0]) ?_ 1 _ rfl; refine blk_put (cs := #[.int .i64 0, .int .i64 0]) ?_ 0 _ rfl; exact blk_new _ _)) Try.underlying25 rfl (by kernel_rfl)) rfl ?_
    exact ⟨_, rfl, Kd.R_nil _ _ _ _ _, by repeat (first | exact HB.out | apply below_alloc | refine below_set ?_ (Nat.le_refl _))⟩
  · rw [if_neg e1] at H
    have cb : decide (a2 < 0) = false := decide_eq_false e1
    clear e1
    by_cases e2 : a2 > 1000
    · rw [if_pos e2] at H
      have cb2 : decide (1000 < a2) = true := decide_eq_true e2
      clear e2
      simp only [Option.some.injEq, Prod.mk.injEq] at H
      obtain ⟨rfl, rfl, rfl⟩ := H
      go_enter Try.func9, Try.ntmps9
      go_wp2_with fail
      refine bodyPost_ret (results_tc rfl _ _ w.heap.size 25 #[.int .i64 1, .int .i64 (-1)] (0, 0) _ rfl (by first | exact blk_new _ _ | (refine blk_put (cs := #[.int .i64 1, .int .i64 0]) ?_ 1 _ rfl; refine blk_put (cs := #[.int .i64 0, .int .i64 0]) ?_ 0 _ rfl; exact blk_new _ _)) Try.underlying25 rfl (by kernel_rfl)) rfl ?_
      exact ⟨_, rfl, Kd.R_nil _ _ _ _ _, by repeat (first | exact HB.out | apply below_alloc | refine below_set ?_ (Nat.le_refl _))⟩
    · rw [if_neg e2] at H
      have cb2 : decide (1000 < a2) = false := decide_eq_false e2
      clear e2
      have H' := Aside0.mk H
      clear H
      go_enter Try.func9, Try.ntmps9
      go_wp2_with fail
      go_loopg [9] k (fun kq v9 w' => ∃ (at_ : Int) (x9 : List Int), Aside0 (passes_Way.l0 kq l0 at_ a2 x9 = some (r1, r2, r3)) ∧ Aside0 (kq ≤ k) ∧ Aside0 (Kd.R (Kd.int .i64) 3 w' w.heap.size (fun _ => True) v9 x9) ∧ Aside0 (w'.heap[w.heap.size + 1]? = some (.cells #[.slice A0 l0.length c0, .int .i64 at_] 36 (0, 0))) ∧ Aside0 (w'.heap[w.heap.size]? = some (.cells #[.int .i64 0, .int .i64 0] 25 (0, 0))) ∧ Aside0 (Below w.heap.size w w'))
      case atStart =>
        refine ⟨a1, [], H', ⟨Nat.le_refl _⟩, ⟨Kd.R_nil _ _ _ _ _⟩, ⟨?_⟩, ⟨?_⟩, ⟨?_⟩⟩
        · simpa using heap_alloc_new (w.alloc (Obj.cells #[Value.int IntKind.i64 0, Value.int IntKind.i64 0] 25)) (.cells #[.slice A0 l0.length c0, .int .i64 a1] 36 (0, 0))
        · exact blk_alloc (by simpa using heap_alloc_new w _) _
        · exact below_alloc (below_alloc HB.out _) _
      case round =>
        clear H'
        obtain ⟨at_, x9, HA, HK1, HO, HG, HF, HB1⟩ := hrel
        cases gk with
        | zero => exact absurd HA.out (by simp [passes_Way.l0])
        | succ k1 =>
          have H := HA.out
          clear HA
          simp only [passes_Way.l0] at H
          have hc0 := cellS36_0 HG.out
          have hc1 := cellS36_1 HG.out
          have HCR := Aside0.mk (Kd.C_below HR0.out HB1.out)
          by_cases hin : 0 ≤ at_ ∧ at_ < (l0.length : Int)
          · rw [if_pos hin] at H
            have HT := Aside0.mk (passes_there_yes hin)
            have HN := Aside0.mk hin
            clear hin
            by_cases hl : x9.length < 17592186044416
            · rw [if_pos hl] at H
              have LM := Aside0.mk hl
              clear hl
              obtain ⟨y9, hy9⟩ : ∃ y_ : List Int, y_ = (x9 ++ [at_]) := ⟨_, rfl⟩
              rw [← hy9] at H
              have Ny := Aside0.mk hy9
              clear hy9
              by_cases hs : (y9.length : Int) > a2
              · rw [if_pos hs] at H
                have cc : decide (a2 < (y9.length : Int)) = true := decide_eq_true hs
                clear hs
                simp only [Option.some.injEq, Prod.mk.injEq] at H
                obtain ⟨rfl, rfl, rfl⟩ := H
                go_wp2_with (first | (go_at_call 13; refine (passes_state_there.calls A0 c0 l0 at_ true _ HCR.out HC0.out HT.out).mono ?_; rintro e w1 ⟨rfl, hb⟩; have HB2 := Aside0.mk hb; clear hb; have HF2 := Aside0.mk (blk_below HF.out HB2.out); have HG2 := Aside0.mk (blk_below HG.out HB2.out); have hc1' : w1.cell? ⟨w.heap.size + 1, 1, none⟩ = some (.int .i64 at_) := pw_cell_below HB2.out hc1; have HB3 := Aside0.mk (HB1.out.trans (HB2.out.mono HB1.out.size)); have HO2 := Aside0.mk (Kd.R_below HO.out HB2.out)) | ((with_reducible refine gate_builtin (b := .append) (xs := #[.tmp 31, .tmp 36]) rfl ?_); at_builtin; refine Kd.R_append (Kd.int .i64) (w0 := w) w.heap.size rfl (.tmp 31) (.tmp 36) 22 3 (.int .i64 0) 8 rfl Try.underlying22 info3 rfl (by decide) (by omega) u9 x9 at_ [.int .i64 at_] (fun _ => True) (fun _ => False) rfl rfl ?aP (fun _ hk => hk.elim) ?aF ?aO ?aB ?aS ?aL ?_; (case aP => exact rfl); (case aB => exact (by repeat (first | exact HB3.out | apply below_alloc | apply pw_below_drewN | apply below_drew1))); (case aF => exact (fun _ _ => trivial)); (case aO => exact (by (with_reducible repeat (first | apply Kd.R_alloc | apply Kd.R_drewN | apply Kd.R_drew)); exact HO2.out)); (case aS => exact (below_size (by repeat (first | exact HB3.out | apply below_alloc | apply pw_below_drewN | apply below_drew1)))); (case aL => have := LM.out; omega); intro v9' w2 ho hb hg hat; rw [← Ny.out] at ho; have HF3 := Aside0.mk (blk_grown (by (with_reducible repeat (first | refine blk_drewN ?_ _ | refine blk_drew ?_ | refine blk_alloc ?_ _)); exact HF2.out) hg (Kd.R_ne HO2.out HF2.out (by decide))); have HG3 := Aside0.mk (blk_grown (by (with_reducible repeat (first | refine blk_drewN ?_ _ | refine blk_drew ?_ | refine blk_alloc ?_ _)); exact HG2.out) hg (Kd.R_ne HO2.out HG2.out (by decide))); have HB4 := Aside0.mk hb; have HO3 := Aside0.mk ho; clear ho hb hg hat; obtain ⟨Ao, co, rfl⟩ := Kd.R_slice HO3.out; have HD3 := Aside0.mk (Kd.C_below HR0.out HB4.out); clear hc0 hc1 hc1'; have hd0 : w2.cell? ⟨w.heap.size, 0, none⟩ = some (.int .i64 0) := (blk_cell HF3.out 0).trans rfl; have hd1 : w2.cell? ⟨w.heap.size, 1, none⟩ = some (.int .i64 0) := (blk_cell HF3.out 1).trans rfl; have hfd0 := blk_frozen HF3.out 0; have hfd1 := blk_frozen HF3.out 1))
                refine bodyPost_ret (results_tc rfl _ _ w.heap.size 25 #[.int .i64 0, .int .i64 0] (0, 0) _ rfl (by refine blk_put (cs := #[.int .i64 0, .int .i64 0]) ?_ 1 _ rfl; refine blk_put (cs := #[.int .i64 0, .int .i64 0]) ?_ 0 _ rfl; exact HF3.out) Try.underlying25 rfl (by kernel_rfl)) rfl ?_
                exact ⟨_, rfl, Kd.R_set (Kd.R_set HO3.out HF3.out (by decide) 0 (.int .i64 0)) (blk_set HF3.out 0 (.int .i64 0)) (by decide) 1 (.int .i64 0), Below.setCell (Below.setCell HB4.out (Nat.le_refl _) _) (Nat.le_refl _) _⟩
              · rw [if_neg hs] at H
                have cc : decide (a2 < (y9.length : Int)) = false := decide_eq_false hs
                clear hs
                have H' := Aside0.mk H
                clear H
                go_wp2_with (first | (go_at_call 13; refine (passes_state_there.calls A0 c0 l0 at_ true _ HCR.out HC0.out HT.out).mono ?_; rintro e w1 ⟨rfl, hb⟩; have HB2 := Aside0.mk hb; clear hb; have HF2 := Aside0.mk (blk_below HF.out HB2.out); have HG2 := Aside0.mk (blk_below HG.out HB2.out); have hc1' : w1.cell? ⟨w.heap.size + 1, 1, none⟩ = some (.int .i64 at_) := pw_cell_below HB2.out hc1; have HB3 := Aside0.mk (HB1.out.trans (HB2.out.mono HB1.out.size)); have HO2 := Aside0.mk (Kd.R_below HO.out HB2.out)) | ((with_reducible refine gate_builtin (b := .append) (xs := #[.tmp 31, .tmp 36]) rfl ?_); at_builtin; refine Kd.R_append (Kd.int .i64) (w0 := w) w.heap.size rfl (.tmp 31) (.tmp 36) 22 3 (.int .i64 0) 8 rfl Try.underlying22 info3 rfl (by decide) (by omega) u9 x9 at_ [.int .i64 at_] (fun _ => True) (fun _ => False) rfl rfl ?aP (fun _ hk => hk.elim) ?aF ?aO ?aB ?aS ?aL ?_; (case aP => exact rfl); (case aB => exact (by repeat (first | exact HB3.out | apply below_alloc | apply pw_below_drewN | apply below_drew1))); (case aF => exact (fun _ _ => trivial)); (case aO => exact (by (with_reducible repeat (first | apply Kd.R_alloc | apply Kd.R_drewN | apply Kd.R_drew)); exact HO2.out)); (case aS => exact (below_size (by repeat (first | exact HB3.out | apply below_alloc | apply pw_below_drewN | apply below_drew1)))); (case aL => have := LM.out; omega); intro v9' w2 ho hb hg hat; rw [← Ny.out] at ho; have HF3 := Aside0.mk (blk_grown (by (with_reducible repeat (first | refine blk_drewN ?_ _ | refine blk_drew ?_ | refine blk_alloc ?_ _)); exact HF2.out) hg (Kd.R_ne HO2.out HF2.out (by decide))); have HG3 := Aside0.mk (blk_grown (by (with_reducible repeat (first | refine blk_drewN ?_ _ | refine blk_drew ?_ | refine blk_alloc ?_ _)); exact HG2.out) hg (Kd.R_ne HO2.out HG2.out (by decide))); have HB4 := Aside0.mk hb; have HO3 := Aside0.mk ho; clear ho hb hg hat; obtain ⟨Ao, co, rfl⟩ := Kd.R_slice HO3.out; have HD3 := Aside0.mk (Kd.C_below HR0.out HB4.out); clear hc0 hc1 hc1'; have hd0 : w2.cell? ⟨w.heap.size, 0, none⟩ = some (.int .i64 0) := (blk_cell HF3.out 0).trans rfl; have hd1 : w2.cell? ⟨w.heap.size, 1, none⟩ = some (.int .i64 0) := (blk_cell HF3.out 1).trans rfl; have hfd0 := blk_frozen HF3.out 0; have hfd1 := blk_frozen HF3.out 1) | (go_at_call 14; refine (passes_pass_own (w.heap.size + 1) A0 c0 l0 at_ _ HD3.out HG3.out HN.out).mono ?_; rintro e w3 ⟨rfl, hg3, hk3, hb3⟩; have HG4 := Aside0.mk hg3; have HK3 := Aside0.mk hk3; have HB5 := Aside0.mk hb3; clear hg3 hk3 hb3))
                have HF4 := Aside0.mk (HK3.out.blk HF3.out (by omega) (by simp))
                have HB6 := Aside0.mk (HB4.out.trans (HB5.out.mono (by omega)))
                have HO4 := Aside0.mk (Kd.R_mono (Kd.R_keep (Kd.R_types HO3.out HG3.out (by decide)) HK3.out (fun _ hk => hk.2)) (fun _ _ => trivial))
                go_roundg k1
                case measure => have := HK1.out; omega
                case rel => exact ⟨rd l0 at_, y9, H', ⟨by have := HK1.out; omega⟩, HO4, HG4, HF4, HB6⟩
            · rw [if_neg hl] at H
              exact absurd H (by simp)
          · rw [if_neg hin] at H
            have HT := Aside0.mk (passes_there_no hin)
            clear hin
            simp only [Option.some.injEq, Prod.mk.injEq] at H
            obtain ⟨rfl, rfl, rfl⟩ := H
            go_wp2_with (first | (go_at_call 13; refine (passes_state_there.calls A0 c0 l0 at_ false _ HCR.out HC0.out HT.out).mono ?_; rintro e w1 ⟨rfl, hb⟩; have HB2 := Aside0.mk hb; clear hb))
            have HF2 := Aside0.mk (blk_below HF.out HB2.out)
            have hc1' : w1.cell? ⟨w.heap.size + 1, 1, none⟩ = some (.int .i64 at_) := pw_cell_below HB2.out hc1
            have HB3 := Aside0.mk (HB1.out.trans (HB2.out.mono HB1.out.size))
            clear hc0 hc1
            go_still_tail 6, (by kernel_rfl)
            change wpList _ _ _ _ _ w1.drew
            clear hc1'
            have HF3 := Aside0.mk (blk_drew HF2.out)
            have HB4 := Aside0.mk (Below.drew HB3.out)
            generalize w1.drew = w2 at HF3 HB4 ⊢
            have hd0 : w2.cell? ⟨w.heap.size, 0, none⟩ = some (.int .i64 0) := (blk_cell HF3.out 0).trans rfl
            have hd1 : w2.cell? ⟨w.heap.size, 1, none⟩ = some (.int .i64 0) := (blk_cell HF3.out 1).trans rfl
            have hfd0 := blk_frozen HF3.out 0
            have hfd1 := blk_frozen HF3.out 1
            go_wp2
            refine bodyPost_ret (results_tc rfl _ _ w.heap.size 25 #[.int .i64 1, .int .i64 at_] (0, 0) _ rfl (by refine blk_put (cs := #[.int .i64 1, .int .i64 0]) ?_ 1 _ rfl; refine blk_put (cs := #[.int .i64 0, .int .i64 0]) ?_ 0 _ rfl; exact HF3.out) Try.underlying25 rfl (by kernel_rfl)) rfl ?_
            exact ⟨_, rfl, Kd.R_nil _ _ _ _ _, Below.setCell (Below.setCell HB4.out (Nat.le_refl _) _) (Nat.le_refl _) _⟩

end Go.Proofs.Ytnfbdjlpdbacgaa.PAll

/- How deep nodes lie, whether they may be told, and what a walk over them tells: with no program in sight, and as the program reckons. -/
import Derived.Test.YtjppjlhhdfkloaaPTpx13
import Derived.Test.YtjppjlhhdfkloaaOpenN
import Derived.Test.YtjppjlhhdfkloaaTSame
namespace Go.Proofs.Ytjppjlhhdfkloaa.Pure
set_option linter.unusedVariables false
set_option linter.unusedSimpArgs false
open Go.RowKit Go.Proofs.Ytjppjlhhdfkloaa.PTp Go.Proofs.YtjppjlhhdfkloaaW.PrintWords Go.Proofs.YtjppjlhhdfkloaaW.PrintLast Go.Proofs.YtjppjlhhdfkloaaW.PrintMore

theorem nbk_pos {x : List S38 ⊕ List (List S38)} {n : Nat} (h : NBk x n) : 1 ≤ n := by
  induction h <;> omega
theorem nbk_sm {x : List S38 ⊕ List (List S38)} {n : Nat} (h : NBk x n) : n ≤ 4194304 → match x with
    | .inl ns => ns.length ≤ n ∧ SM ns
    | .inr gs => gs.length ≤ n ∧ ∀ g ∈ gs, SM g := by
  induction h with
  | nil => exact fun _ => ⟨by simp, SM.nil⟩
  | nog => exact fun _ => ⟨by simp, fun g h => by simp at h⟩
  | cons _ _ ih1 ih2 =>
    intro hc
    have i1 := ih1 (by omega)
    have i2 := ih2 (by omega)
    refine ⟨by simp only [List.length_cons]; omega, .mk (by simp only [List.length_cons]; omega) (fun x hx => ?_) (fun x hx g hg => ?_)⟩
    · rcases List.mem_cons.1 hx with rfl | hx
      · omega
      · exact i2.2.args x hx
    · rcases List.mem_cons.1 hx with rfl | hx
      · exact i1.2 g hg
      · exact i2.2.sub x hx g hg
  | grp h1 _ ih1 ih2 =>
    intro hc
    have := nbk_pos h1
    have i1 := ih1 (by omega)
    have i2 := ih2 (by omega)
    refine ⟨by simp only [List.length_cons]; omega, fun g hg => ?_⟩
    rcases List.mem_cons.1 hg with rfl | hg
    · exact i1.2
    · exact i2.2 g hg
theorem sm_app {a b : List S38} (h1 : SM a) (h2 : SM b) (h : a.length + b.length ≤ 4194304) : SM (a ++ b) := by
  refine .mk (by rw [List.length_append]; exact h) (fun x hx => ?_) (fun x hx => ?_)
  · rcases List.mem_append.1 hx with hx | hx
    · exact h1.args x hx
    · exact h2.args x hx
  · rcases List.mem_append.1 hx with hx | hx
    · exact h1.sub x hx
    · exact h2.sub x hx

/-! ## How deep -/
def mxs : List Nat → Nat
  | [] => 0
  | x :: r => max x (mxs r)
theorem mxs_le {b : Nat} : ∀ {l : List Nat}, (∀ x ∈ l, x ≤ b) → mxs l ≤ b
  | [], _ => Nat.zero_le _
  | x :: r, h => by
    have h1 := h x (List.mem_cons_self ..)
    have h2 := mxs_le (l := r) (fun y hy => h y (List.mem_cons_of_mem _ hy))
    simp only [mxs]; omega
theorem le_mxs {x : Nat} : ∀ {l : List Nat}, x ∈ l → x ≤ mxs l
  | y :: r, h => by
    simp only [mxs]
    rcases List.mem_cons.1 h with rfl | h
    · omega
    · have := le_mxs h; omega
theorem mxs_app : ∀ (a b : List Nat), mxs (a ++ b) = max (mxs a) (mxs b)
  | [], b => by simp [mxs]
  | x :: r, b => by rw [List.cons_append]; simp only [mxs, mxs_app r b]; omega
/-- What one group adds to the depth, so far as it is looked at. -/
def Dg : Nat → List S38 → Nat
  | 0, _ => 0
  | n + 1, g => 1 + mxs (g.map fun x => mxs (x.f2.map (Dg n)))
def Dp (n : Nat) (l : List S38) : Nat := mxs (l.map fun x => mxs (x.f2.map (Dg n)))
theorem dg_le : ∀ (n : Nat) (g : List S38), Dg n g ≤ n
  | 0, _ => Nat.le_refl _
  | n + 1, g => by
    have : mxs (g.map fun x => mxs (x.f2.map (Dg n))) ≤ n := mxs_le fun y hy => by
      obtain ⟨x, _, rfl⟩ := List.mem_map.1 hy
      exact mxs_le fun z hz => by
        obtain ⟨u, _, rfl⟩ := List.mem_map.1 hz
        exact dg_le n u
    simp only [Dg]; omega
theorem dp_le (n : Nat) (l : List S38) : Dp n l ≤ n := mxs_le fun y hy => by
  obtain ⟨x, _, rfl⟩ := List.mem_map.1 hy
  exact mxs_le fun z hz => by
    obtain ⟨u, _, rfl⟩ := List.mem_map.1 hz
    exact dg_le n u
/-- Nodes with at most so many groups in one another. -/
def Dl : Nat → List S38 → Prop
  | 0, l => ∀ x ∈ l, x.f2 = []
  | d + 1, l => ∀ x ∈ l, ∀ g ∈ x.f2, Dl d g
theorem dl_mono : ∀ {d : Nat} {l : List S38}, Dl d l → Dl (d + 1) l
  | 0, l, h => fun x hx g hg => by rw [h x hx] at hg; simp at hg
  | d + 1, l, h => fun x hx g hg => dl_mono (h x hx g hg)
theorem dl_to {d e : Nat} {l : List S38} (h : Dl d l) (he : d ≤ e) : Dl e l := by
  obtain ⟨m, rfl⟩ : ∃ m, e = d + m := ⟨e - d, by omega⟩
  clear he
  induction m with
  | zero => exact h
  | succ m ih => exact dl_mono ih
theorem dl_of : ∀ {d n : Nat} {l : List S38}, d < n → Dp n l ≤ d → Dl d l
  | 0, n, l, hn, h => fun x hx => by
    cases hf : x.f2 with
    | nil => rfl
    | cons g r =>
      obtain ⟨m, rfl⟩ : ∃ m, n = m + 1 := ⟨n - 1, by omega⟩
      have h1 : mxs (x.f2.map (Dg (m + 1))) ≤ Dp (m + 1) l := le_mxs (List.mem_map.2 ⟨x, hx, rfl⟩)
      have h2 : Dg (m + 1) g ≤ mxs (x.f2.map (Dg (m + 1))) := le_mxs (List.mem_map.2 ⟨g, by rw [hf]; exact List.mem_cons_self .., rfl⟩)
      have h3 : Dg (m + 1) g = 1 + Dp m g := rfl
      omega
  | d + 1, n, l, hn, h => fun x hx g hg => by
    obtain ⟨m, rfl⟩ : ∃ m, n = m + 1 := ⟨n - 1, by omega⟩
    have h1 : mxs (x.f2.map (Dg (m + 1))) ≤ Dp (m + 1) l := le_mxs (List.mem_map.2 ⟨x, hx, rfl⟩)
    have h2 : Dg (m + 1) g ≤ mxs (x.f2.map (Dg (m + 1))) := le_mxs (List.mem_map.2 ⟨g, hg, rfl⟩)
    have h3 : Dg (m + 1) g = 1 + Dp m g := rfl
    exact dl_of (d := d) (n := m) (by omega) (by omega)
theorem map_eq {α β : Type} {f g : α → β} {l : List α} (h : ∀ x ∈ l, f x = g x) : l.map f = l.map g := List.map_congr_left h
theorem dp_next : ∀ {n : Nat} {l : List S38}, Dl n l → Dp n l = Dp (n + 1) l
  | 0, l, h => by
    unfold Dp
    congr 1
    exact map_eq fun x hx => by rw [h x hx]; rfl
  | n + 1, l, h => by
    unfold Dp
    congr 1
    exact map_eq fun x hx => by
      congr 1
      exact map_eq fun g hg => by
        have := dp_next (h x hx g hg)
        show 1 + Dp n g = 1 + Dp (n + 1) g
        rw [this]
theorem mx_nat (a b : Nat) : mx (a : Int) (b : Int) = ((max a b : Nat) : Int) := by
  unfold mx
  by_cases c : (a : Int) < (b : Int)
  · rw [if_pos c]; congr 1; omega
  · rw [if_neg c]; congr 1; omega
theorem depth_l1 {n : Nat} (hn : n ≤ 101) (ih : ∀ m, n = m + 1 → ∀ g, SM g → Ev (fun k => tree_depth.f k g (m : Int)) ((Dp m g : Nat) : Int)) {l : List S38} (hl : SM l) {i : Nat} (hi : i < l.length) {r : Int} :
    ∀ (d j acc : Nat), j + d = l[i].f2.length → Ev (fun k => tree_depth.l0 k (n : Int) ((max acc (mxs ((l[i].f2.drop j).map (Dg n))) : Nat) : Int) l (l.length : Int) ((i + 1 : Nat) : Int)) r → Ev (fun k => tree_depth.l1 k (n : Int) (acc : Int) l (l.length : Int) (i : Int) l[i].f2 (l[i].f2.length : Int) (j : Int)) r
  | 0, j, acc => fun hj h => by
    have hll := hl.len
    rw [List.drop_eq_nil_of_le (by omega)] at h
    simp only [List.map_nil, mxs, Nat.max_zero] at h
    refine Ev.step (fun k => ?_) h
    simp only [tree_depth.l1]
    rw [if_neg (by omega), succ_w i (by omega)]
  | d + 1, j, acc => fun hj h => by
    have hjl : j < l[i].f2.length := by omega
    have hll := hl.len
    have hl2 := hl.args _ (List.getElem_mem hi)
    rw [List.drop_eq_getElem_cons hjl] at h
    simp only [List.map_cons, mxs] at h
    rw [← Nat.max_assoc] at h
    have nx := depth_l1 hn ih hl hi d (j + 1) _ (by omega) h
    cases n with
    | zero =>
      simp only [Dg, Nat.max_zero] at nx
      refine Ev.step (fun k => ?_) nx
      simp only [tree_depth.l1, rdL5 hjl]
      rw [if_pos (by omega), if_pos (by omega), if_pos (by omega), if_neg (by omega), succ_w j (by omega)]
    | succ m =>
      have hdp := dp_le m l[i].f2[j]
      have e1 : wrap64 (((m + 1 : Nat) : Int) - 1) = (m : Int) := by rw [wrap_small (by omega)]; omega
      have e2 : wrap64 (1 + ((Dp m l[i].f2[j] : Nat) : Int)) = ((Dg (m + 1) l[i].f2[j] : Nat) : Int) := by
        rw [show Dg (m + 1) l[i].f2[j] = 1 + Dp m l[i].f2[j] from rfl, wrap_small (by omega)]; omega
      refine Ev.step (f := fun k => (tree_depth.f k l[i].f2[j] (m : Int)).bind fun t => tree_depth.l1 k ((m + 1 : Nat) : Int) (mx (acc : Int) (wrap64 (1 + t))) l (l.length : Int) (i : Int) l[i].f2 (l[i].f2.length : Int) ((j + 1 : Nat) : Int)) (fun k => ?_) (Ev.bind (ih m rfl _ (hl.sub _ (List.getElem_mem hi) _ (List.getElem_mem hjl))) ?_)
      · simp only [tree_depth.l1, rdL5 hjl]
        rw [if_pos (by omega), if_pos (by omega), if_pos (by omega), if_pos (by omega), succ_w j (by omega), e1]
      · simp only [e2, mx_nat]
        exact nx
theorem depth_l0 {n : Nat} (hn : n ≤ 101) (ih : ∀ m, n = m + 1 → ∀ g, SM g → Ev (fun k => tree_depth.f k g (m : Int)) ((Dp m g : Nat) : Int)) {l : List S38} (hl : SM l) :
    ∀ (d i acc : Nat), i + d = l.length → Ev (fun k => tree_depth.l0 k (n : Int) (acc : Int) l (l.length : Int) (i : Int)) ((max acc (Dp n (l.drop i)) : Nat) : Int)
  | 0, i, acc => fun hi => by
    rw [List.drop_eq_nil_of_le (by omega)]
    simp only [Dp, List.map_nil, mxs, Nat.max_zero]
    refine Ev.step (f := fun _ => some _) (fun k => ?_) (Ev.now _)
    simp only [tree_depth.l0]
    rw [if_neg (by omega)]
  | d + 1, i, acc => fun hi => by
    have hil : i < l.length := by omega
    have hll := hl.len
    have nx := depth_l0 hn ih hl d (i + 1) (max acc (mxs (l[i].f2.map (Dg n)))) (by omega)
    have e : max acc (Dp n (l.drop i)) = max (max acc (mxs (l[i].f2.map (Dg n)))) (Dp n (l.drop (i + 1))) := by
      rw [List.drop_eq_getElem_cons hil, Nat.max_assoc]; rfl
    rw [e]
    refine Ev.step (fun k => ?_) (depth_l1 hn ih hl hil l[i].f2.length 0 acc (by omega) (by rw [List.drop_zero]; exact nx))
    simp only [tree_depth.l0, rd38 hil]
    rw [if_pos (by omega), if_pos (by omega), if_pos (by omega)]; rfl
theorem depth_ev : ∀ (n : Nat), n ≤ 101 → ∀ l, SM l → Ev (fun k => tree_depth.f k l (n : Int)) ((Dp n l : Nat) : Int)
  | n => fun hn l hl => by
    have ih : ∀ m, n = m + 1 → ∀ g, SM g → Ev (fun k => tree_depth.f k g (m : Int)) ((Dp m g : Nat) : Int) := fun m hm => depth_ev m (by omega)
    have h := depth_l0 hn ih hl l.length 0 0 (by omega)
    rw [List.drop_zero, Nat.zero_max] at h
    exact Ev.step (fun k => by simp only [tree_depth.f]; rfl) h
theorem Depth_ev {l : List S38} (h : SM l) : Ev (fun k => tree_Depth.f k l) ((Dp 101 l : Nat) : Int) := by
  unfold tree_Depth.f
  exact Ev.bind (depth_ev 101 (Nat.le_refl _) l h) (Ev.now _)

/-! ## Words have no groups -/
mutual
def wS : S38 → Bool
  | ⟨c, _, gs, _⟩ => (c || gs.isEmpty) && wG gs
def wN : List S38 → Bool
  | [] => true
  | x :: r => wS x && wN r
def wG : List (List S38) → Bool
  | [] => true
  | g :: r => wN g && wG r
end
theorem wS_eq (x : S38) : wS x = ((x.f0 || x.f2.isEmpty) && wG x.f2) := by cases x; simp only [wS]
theorem wN_app : ∀ a b : List S38, wN (a ++ b) = (wN a && wN b)
  | [], b => by simp only [List.nil_append, wN, Bool.true_and]
  | x :: r, b => by simp only [List.cons_append, wN, wN_app r b, Bool.and_assoc]
theorem words_l1 {l : List S38} (hl : SM l) (hf : ∀ x ∈ l, ∀ g ∈ x.f2, Ev (fun k => tree_words.f k g) (wN g)) {i : Nat} (hi : i < l.length) (hend : Ev (fun k => tree_words.l0 k l (l.length : Int) ((i + 1 : Nat) : Int)) (wN (l.drop (i + 1)))) :
    ∀ (d j : Nat), j + d = l[i].f2.length → Ev (fun k => tree_words.l1 k l (l.length : Int) (i : Int) l[i].f2 (l[i].f2.length : Int) (j : Int)) (wG (l[i].f2.drop j) && wN (l.drop (i + 1)))
  | 0, j => fun hj => by
    have hll := hl.len
    rw [List.drop_eq_nil_of_le (show l[i].f2.length ≤ j by omega)]
    simp only [wG, Bool.true_and]
    refine Ev.step (fun k => ?_) hend
    simp only [tree_words.l1]
    rw [if_neg (by omega), succ_w i (by omega)]
  | d + 1, j => fun hj => by
    have hjl : j < l[i].f2.length := by omega
    have hll := hl.len
    have hl2 := hl.args _ (List.getElem_mem hi)
    rw [List.drop_eq_getElem_cons hjl]
    simp only [wG]
    refine Ev.step (f := fun k => (tree_words.f k l[i].f2[j]).bind fun t => if t = true then tree_words.l1 k l (l.length : Int) (i : Int) l[i].f2 (l[i].f2.length : Int) ((j + 1 : Nat) : Int) else some false) (fun k => ?_) (Ev.bind (hf _ (List.getElem_mem hi) _ (List.getElem_mem hjl)) ?_)
    · simp only [tree_words.l1, rdL5 hjl]
      rw [if_pos (by omega), if_pos (by omega), if_pos (by omega), succ_w j (by omega)]
    · cases hw : wN l[i].f2[j] with
      | true =>
        simp only [if_true, Bool.true_and]
        exact words_l1 hl hf hi hend d (j + 1) (by omega)
      | false =>
        simp only [Bool.false_and, Bool.false_eq_true, if_false]
        exact Ev.now _
theorem words_l0 {l : List S38} (hl : SM l) (hf : ∀ x ∈ l, ∀ g ∈ x.f2, Ev (fun k => tree_words.f k g) (wN g)) : ∀ (d i : Nat), i + d = l.length → Ev (fun k => tree_words.l0 k l (l.length : Int) (i : Int)) (wN (l.drop i))
  | 0, i => fun hi => by
    rw [List.drop_eq_nil_of_le (by omega)]
    simp only [wN]
    refine Ev.step (f := fun _ => some true) (fun k => ?_) (Ev.now _)
    simp only [tree_words.l0]
    rw [if_neg (by omega)]
  | d + 1, i => fun hi => by
    have hil : i < l.length := by omega
    have hll := hl.len
    have ih := words_l0 hl hf d (i + 1) (by omega)
    have h1 := words_l1 hl hf hil ih l[i].f2.length 0 (by omega)
    rw [List.drop_zero] at h1
    rw [List.drop_eq_getElem_cons hil]
    simp only [wN, wS_eq]
    by_cases c : l[i].f0 = true
    · simp only [c, Bool.true_or, Bool.true_and]
      refine Ev.step (f := fun k => tree_words.j1 k l (l.length : Int) (i : Int) false l[i].f0 l[i].f1 l[i].f2 l[i].f3) (fun k => ?_) (Ev.step (fun k => ?_) h1)
      · simp only [tree_words.l0, rd38 hil]
        rw [if_pos (by omega), if_pos (by omega), if_pos (by omega), if_pos c]
      · simp only [tree_words.j1]
        rw [if_neg (by decide)]; rfl
    · have cf : l[i].f0 = false := Bool.eq_false_iff.mpr c
      refine Ev.step (f := fun k => tree_words.j1 k l (l.length : Int) (i : Int) (decide ((l[i].f2.length : Int) > 0)) l[i].f0 l[i].f1 l[i].f2 l[i].f3) (fun k => ?_) ?_
      · simp only [tree_words.l0, rd38 hil]
        rw [if_pos (by omega), if_pos (by omega), if_pos (by omega), if_neg c]
      · rw [cf]
        cases hq : l[i].f2 with
        | nil =>
          rw [hq] at h1
          simp only [List.isEmpty_nil, Bool.or_true, Bool.true_and]
          refine Ev.step (fun k => ?_) h1
          simp only [tree_words.j1]
          rw [if_neg (by simp)]; rfl
        | cons g r =>
          simp only [List.isEmpty_cons, Bool.or_false, Bool.false_and]
          refine Ev.step (f := fun _ => some false) (fun k => ?_) (Ev.now _)
          simp only [tree_words.j1]
          rw [if_pos (by simp only [List.length_cons]; exact decide_eq_true (by omega))]
theorem words_ev {l : List S38} (h : SM l) : Ev (fun k => tree_words.f k l) (wN l) := by
  induction h with
  | @mk a h1 h2 h3 ih =>
    have h := words_l0 (.mk h1 h2 h3) ih a.length 0 (by omega)
    rw [List.drop_zero] at h
    exact Ev.step (fun k => by simp only [tree_words.f]; rfl) h
/-- May nodes be told? -/
def mayB (l : List S38) : Bool := decide (Dp 101 l ≤ 64) && wN l
theorem may_ev {l : List S38} (h : SM l) : Ev (fun k => tree_May.f k l) (mayB l) := by
  unfold tree_May.f
  refine Ev.bind (Depth_ev h) ?_
  by_cases c : Dp 101 l ≤ 64
  · rw [show mayB l = wN l by simp only [mayB, c, decide_true, Bool.true_and]]
    refine Ev.congr (f := fun k => (tree_words.f k l).bind fun t => some t) (fun k => by rw [if_pos (by omega)]) (Ev.bind (words_ev h) (Ev.now _))
  · rw [show mayB l = false by simp only [mayB, c, decide_false, Bool.false_and]]
    refine Ev.congr (f := fun _ => some false) (fun k => by rw [if_neg (by omega)]) (Ev.now _)
theorem may_dl {l : List S38} (h : mayB l = true) : Dl 64 l ∧ wN l = true := by
  unfold mayB at h
  rw [Bool.and_eq_true] at h
  exact ⟨dl_of (n := 101) (by omega) (of_decide_eq_true h.1), h.2⟩

/-! ## What a walk tells -/
section
variable {β : Type} (E : Int → S38 → List β)
def GT : Nat → List S38 → List β
  | 0, l => l.flatMap fun x => if x.f0 = true then E 1 x else E 0 x
  | d + 1, l => l.flatMap fun x => if x.f0 = true then E 1 x ++ x.f2.flatMap (fun g => E 2 x ++ (GT d g ++ E 3 x)) else E 0 x
theorem gt_app (d : Nat) (a b : List S38) : GT E d (a ++ b) = GT E d a ++ GT E d b := by
  cases d <;> simp only [GT, List.flatMap_append]
theorem flat_eq {α γ : Type} {f g : α → List γ} : ∀ {l : List α}, (∀ x ∈ l, f x = g x) → l.flatMap f = l.flatMap g
  | [], _ => rfl
  | x :: r, h => by rw [List.flatMap_cons, List.flatMap_cons, h x (List.mem_cons_self ..), flat_eq (fun y hy => h y (List.mem_cons_of_mem _ hy))]
theorem gt_next : ∀ {d : Nat} {l : List S38}, Dl d l → GT E d l = GT E (d + 1) l
  | 0, l, h => by
    simp only [GT]
    exact flat_eq fun x hx => by rw [h x hx]; simp
  | d + 1, l, h => by
    rw [GT, GT]
    exact flat_eq fun x hx => by
      have : x.f2.flatMap (fun g => E 2 x ++ (GT E d g ++ E 3 x)) = x.f2.flatMap (fun g => E 2 x ++ (GT E (d + 1) g ++ E 3 x)) := flat_eq fun g hg => by rw [gt_next (h x hx g hg)]
      rw [this]
theorem gt_len (hE : ∀ K x, (E K x).length ≤ 1) {x : List S38 ⊕ List (List S38)} {n : Nat} (h : NBk x n) : match x with
    | .inl l => ∀ d, (GT E d l).length + 2 ≤ 2 * n
    | .inr gs => ∀ d x, (gs.flatMap (fun g => E 2 x ++ (GT E d g ++ E 3 x))).length + 2 ≤ 2 * n := by
  induction h with
  | nil => intro d; cases d <;> simp [GT]
  | nog => intro d x; simp
  | @cons x r p q _ _ ih1 ih2 =>
    intro d
    have h0 := hE 0 x
    have h1 := hE 1 x
    have i2 := ih2 d
    have e : GT E d (x :: r) = GT E d [x] ++ GT E d r := gt_app E d [x] r
    rw [e, List.length_append]
    cases d with
    | zero =>
      have i1 := ih1 0 x
      simp only [GT, List.flatMap_cons, List.flatMap_nil, List.append_nil] at i2 ⊢
      split <;> omega
    | succ d =>
      have i1 := ih1 d x
      have e2 : GT E (d + 1) [x] = if x.f0 = true then E 1 x ++ x.f2.flatMap (fun g => E 2 x ++ (GT E d g ++ E 3 x)) else E 0 x := by rw [GT]; simp only [List.flatMap_cons, List.flatMap_nil, List.append_nil]
      rw [e2]
      split
      · rw [List.length_append]; omega
      · omega
  | @grp g r p q _ _ ih1 ih2 =>
    intro d x
    have h2 := hE 2 x
    have h3 := hE 3 x
    have i1 := ih1 d
    have i2 := ih2 d x
    rw [List.flatMap_cons, List.length_append, List.length_append, List.length_append]
    omega
end
end Go.Proofs.Ytjppjlhhdfkloaa.Pure

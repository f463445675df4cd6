/- How wide a line comes to be: where its glue gives what is asked of it, just as wide as it must be. -/
import Derived.Test.YtpfnfofaajpdmaaVLine
import Derived.Test.YtpfnfofaajpdmaaVPlain
namespace Go.Proofs.Ytpfnfofaajpdmaa.Pure
set_option linter.unusedVariables false
set_option linter.unusedSimpArgs false
open Go.RowKit Go.Proofs.Ytpfnfofaajpdmaa.PWi Go.Proofs.YtpfnfofaajpdmaaW.PrintWords Go.Proofs.YtpfnfofaajpdmaaW.PrintLast Go.Proofs.YtpfnfofaajpdmaaW.PrintMore

def qf : List S38 → Int
  | [] => 0
  | x :: r => x.f0 + qf r
def qo (j : Int) : List S38 → Int
  | [] => 0
  | x :: r => (if x.f3 = j then x.f1 else 0) + qo j r
theorem qf_app : ∀ a b : List S38, qf (a ++ b) = qf a + qf b
  | [], b => by simp [qf]
  | x :: a, b => by simp only [List.cons_append, qf, qf_app a b]; omega
theorem qo_pos (j : Int) : ∀ a : List S38, (∀ x ∈ a, gd x) → 0 ≤ qo j a
  | [], _ => Int.le_refl _
  | x :: a, h => by
    have := qo_pos j a (fun y hy => h y (List.mem_cons_of_mem _ hy))
    have := am_iff.1 (h x (List.mem_cons_self ..)).2.1
    simp only [qo]; split <;> omega
theorem qo_all : ∀ a : List S38, (∀ x ∈ a, gd x) → qo 0 a + qo 1 a + qo 2 a + qo 3 a = qs a
  | [], _ => rfl
  | x :: a, h => by
    have ih := qo_all a (fun y hy => h y (List.mem_cons_of_mem _ hy))
    have hx := h x (List.mem_cons_self ..)
    have : x.f3 = 0 ∨ x.f3 = 1 ∨ x.f3 = 2 ∨ x.f3 = 3 := by have := hx.2.2.2.1; have := hx.2.2.2.2; omega
    simp only [qo, qs]
    rcases this with e | e | e | e <;> rw [e] <;> simp <;> omega
/-- The total of glue: its sums, where none of them is too large. -/
theorem tv_is (g : List S38) (hl : g.length ≤ 2000) (hg : ∀ x ∈ g, gd x) : ∀ (d i : Nat) (w h s0 s1 s2 s3 : Int), i + d = g.length →
    (-((i : Int) * 1073741823) ≤ w ∧ w ≤ (i : Int) * 1073741823) → (0 ≤ h ∧ h ≤ (i : Int) * 1073741823) → (0 ≤ s0 ∧ s0 ≤ (i : Int) * 1073741823) → (0 ≤ s1 ∧ s1 ≤ (i : Int) * 1073741823) → (0 ≤ s2 ∧ s2 ≤ (i : Int) * 1073741823) → (0 ≤ s3 ∧ s3 ≤ (i : Int) * 1073741823) →
    tv g d i w h s0 s1 s2 s3 = (w + qf (g.drop i), h + qh (g.drop i), s0 + qo 0 (g.drop i), s1 + qo 1 (g.drop i), s2 + qo 2 (g.drop i), s3 + qo 3 (g.drop i))
  | 0, i, w, h, s0, s1, s2, s3 => fun e _ _ _ _ _ _ => by
    rw [List.drop_eq_nil_of_le (by omega)]
    simp [tv, qf, qh, qo]
  | d + 1, i, w, h, s0, s1, s2, s3 => fun e hw hh h0 h1 h2 h3 => by
    have hlt : i < g.length := by omega
    have hr : rd_T38 g (i : Int) = g[i] := by
      unfold rd_T38
      rw [Int.toNat_natCast, List.getD_eq_getElem?_getD, List.getElem?_eq_getElem hlt]; rfl
    have hx := hg g[i] (List.getElem_mem hlt)
    have b0 := fi_iff.1 hx.1
    have b1 := am_iff.1 hx.2.1
    have b2 := am_iff.1 hx.2.2.1
    have b3 := hx.2.2.2
    have ew : wrap64 (w + g[i].f0) = w + g[i].f0 := wrap_small (by omega)
    have eh : wrap64 (h + g[i].f2) = h + g[i].f2 := wrap_small (by omega)
    have e0 : wrap64 (s0 + g[i].f1) = s0 + g[i].f1 := wrap_small (by omega)
    have e1 : wrap64 (s1 + g[i].f1) = s1 + g[i].f1 := wrap_small (by omega)
    have e2 : wrap64 (s2 + g[i].f1) = s2 + g[i].f1 := wrap_small (by omega)
    have e3 : wrap64 (s3 + g[i].f1) = s3 + g[i].f1 := wrap_small (by omega)
    simp only [tv, hr]
    rw [ew, eh, e0, e1, e2, e3, List.drop_eq_getElem_cons hlt]
    simp only [qf, qh, qo]
    by_cases c0 : g[i].f3 = 0
    · rw [if_pos c0, tv_is g hl hg d (i + 1) _ _ _ _ _ _ (by omega) (by omega) (by omega) (by omega) (by omega) (by omega) (by omega), c0]
      simp [Int.add_assoc]
    · rw [if_neg c0]
      by_cases c1 : g[i].f3 = 1
      · rw [if_pos c1, tv_is g hl hg d (i + 1) _ _ _ _ _ _ (by omega) (by omega) (by omega) (by omega) (by omega) (by omega) (by omega), c1]
        simp [Int.add_assoc]
      · rw [if_neg c1]
        by_cases c2 : g[i].f3 = 2
        · rw [if_pos c2, tv_is g hl hg d (i + 1) _ _ _ _ _ _ (by omega) (by omega) (by omega) (by omega) (by omega) (by omega) (by omega), c2]
          simp [Int.add_assoc]
        · have c3 : g[i].f3 = 3 := by omega
          rw [if_neg c2, tv_is g hl hg d (i + 1) _ _ _ _ _ _ (by omega) (by omega) (by omega) (by omega) (by omega) (by omega) (by omega), c3]
          simp [Int.add_assoc]
theorem tt_is {g : List S38} (h : my g = true) : tt g = (qf g, qh g, qo 0 g, qo 1 g, qo 2 g, qo 3 g) := by
  have hi := (my_iff g).1 h
  unfold tt
  rw [if_pos h, tv_is g hi.1 hi.2.1 g.length 0 0 0 0 0 0 0 (by omega) (by omega) (by omega) (by omega) (by omega) (by omega) (by omega)]
  simp
/-! ## What glue gives, all together -/
def qg (s : T5) : List S38 → Int
  | [] => 0
  | x :: r => gv x s + qg s r
theorem qg_app (s : T5) : ∀ a b : List S38, qg s (a ++ b) = qg s a + qg s b
  | [], b => by simp [qg]
  | x :: a, b => by simp only [List.cons_append, qg, qg_app s a b]; omega
theorem qg_neg {s : T5} (h : s.1 < 0) : ∀ a, qg s a = qh a
  | [] => rfl
  | x :: a => by simp only [qg, qh, qg_neg h a]; unfold gv; rw [if_neg (by omega), if_pos h]
theorem qg_pos {s : T5} (h : 0 < s.1) : ∀ a, qg s a = qo s.2.1 a
  | [] => rfl
  | x :: a => by simp only [qg, qo, qg_pos h a]; unfold gv; rw [if_pos h]
theorem qg_zero {s : T5} (h : s.1 = 0) : ∀ a, qg s a = 0
  | [] => rfl
  | x :: a => by simp only [qg, qg_zero h a]; unfold gv; rw [if_neg (by omega), if_neg (by omega)]; rfl
theorem rd38_drop {g r : List S38} {x : S38} {j : Nat} (h : g.drop j = x :: r) : j < g.length ∧ rd_T38 g (j : Int) = x ∧ g.drop (j + 1) = r := by
  have hlen := congrArg List.length h
  rw [List.length_drop, List.length_cons] at hlen
  have h1 := congrArg List.head? h
  rw [List.head?_drop] at h1
  have h2 := congrArg List.tail h
  rw [List.tail_drop] at h2
  refine ⟨by omega, ?_, h2⟩
  unfold rd_T38
  rw [Int.toNat_natCast, List.getD_eq_getElem?_getD, h1]; rfl
theorem rd_dropi {w r : List Int} {x : Int} {j : Nat} (h : w.drop j = x :: r) : rd w (j : Int) = x ∧ w.drop (j + 1) = r := by
  have h1 := congrArg List.head? h
  rw [List.head?_drop] at h1
  have h2 := congrArg List.tail h
  rw [List.tail_drop] at h2
  refine ⟨?_, h2⟩
  unfold rd
  rw [Int.toNat_natCast, List.getD_eq_getElem?_getD, h1]; rfl
theorem al_is {g : List S38} (h : my g = true) (s : T5) : ∀ d i acc, i + d = g.length → 0 ≤ acc → acc ≤ (i : Int) * 1073741823 → al g s d i acc = acc + qg s (g.drop i)
  | 0, i, acc => fun hi _ _ => by rw [List.drop_eq_nil_of_le (by omega)]; simp [al, qg]
  | d + 1, i, acc => fun hi h0 hb => by
    have hl := (my_all h).1
    have a := gv_in h s i (by omega)
    have hd : g.drop i = g[i] :: g.drop (i + 1) := List.drop_eq_getElem_cons (by omega)
    have hr := (rd38_drop hd).2.1
    rw [hr] at a
    have hw : wrap64 (acc + gv g[i] s) = acc + gv g[i] s := wrap_small (by omega)
    simp only [al, hr]
    rw [hw, al_is h s d (i + 1) _ (by omega) (by omega) (by omega), hd]
    simp only [qg]; omega
theorem qg_ge {g : List S38} (h : my g = true) (s : T5) : ∀ d i, i + d = g.length → 0 ≤ qg s (g.drop i)
  | 0, i => fun hi => by rw [List.drop_eq_nil_of_le (by omega)]; exact Int.le_refl _
  | d + 1, i => fun hi => by
    have a := gv_in h s i (by omega)
    have hd : g.drop i = g[i] :: g.drop (i + 1) := List.drop_eq_getElem_cons (by omega)
    rw [(rd38_drop hd).2.1] at a
    have := qg_ge h s d (i + 1) (by omega)
    rw [hd]; simp only [qg]; omega

/-! ## A line's end -/
def aa (all part sum : Int) : Int := if 0 < all then Int.tdiv (part * sum) all else 0
def Pt (s : T5) (all part : Int) : Prop := 0 < all → (0 < s.1 ∧ 0 ≤ part ∧ part ≤ 1073741823) ∨ (s.1 < 0 ∧ ∃ m, part = -m ∧ 0 ≤ m ∧ m ≤ all)
theorem aa_in {s : T5} {all part : Int} (ha : all ≤ 1073741823) (hp : Pt s all part) {sum : Int} (h0 : 0 ≤ sum) (h1 : sum ≤ all) : (0 < all → wrap64 (part * sum) = part * sum) ∧ -1073741823 ≤ aa all part sum ∧ aa all part sum ≤ 1073741823 := by
  unfold aa
  by_cases c : 0 < all
  · rw [if_pos c]
    rcases hp c with ⟨_, p2, p3⟩ | ⟨_, m, p2, p3, p4⟩
    · have u := up_stretch (p := part) (x := sum) (y := sum) ⟨p2, p3⟩ h0 (Int.le_refl _) h1 c ha
      exact ⟨fun _ => u.1, by omega, by omega⟩
    · have u := up_shrink (m := m) (x := sum) (y := sum) ⟨p3, p4⟩ h0 (Int.le_refl _) h1 c ha
      rw [p2]; exact ⟨fun _ => u.1, by omega, by omega⟩
  · rw [if_neg c]; exact ⟨fun h => absurd h c, by omega, by omega⟩
theorem end_step {g : List S38} (h : my g = true) {s : T5} {all part : Int} (ha : all ≤ 1073741823) (hp : Pt s all part) {w : List Int} {j : Nat} {sum ahead Q : Int} {x : S38} {r : List S38}
    (hg : g.drop j = x :: r) (hw : w.drop j = wl g s all part (g.length - j) j sum ahead) (h0 : 0 ≤ sum) (h1 : sum ≤ (j : Int) * 1073741823) (hs : sum + qg s (g.drop j) = all) (hah : 0 < all → ahead = aa all part sum) (hQ : -((j : Int) * 1073741823) ≤ Q ∧ Q ≤ (j : Int) * 1073741823) :
    (∃ ahead', w.drop (j + 1) = wl g s all part (g.length - (j + 1)) (j + 1) (sum + gv x s) ahead' ∧ (0 < all → ahead' = aa all part (sum + gv x s))) ∧ wrap64 (Q + aa all part sum + rd w (j : Int)) = Q + x.f0 + aa all part (sum + gv x s) ∧ 0 ≤ sum + gv x s ∧ sum + gv x s ≤ ((j + 1 : Nat) : Int) * 1073741823 ∧ sum + gv x s + qg s (g.drop (j + 1)) = all ∧ -(((j + 1 : Nat) : Int) * 1073741823) ≤ Q + x.f0 ∧ Q + x.f0 ≤ ((j + 1 : Nat) : Int) * 1073741823 := by
  have hl := (my_all h).1
  have q := rd38_drop hg
  have a := gv_in h s j q.1
  have b := my_piece h j q.1
  have hr := qg_ge h s (g.length - (j + 1)) (j + 1) (by omega)
  rw [q.2.1] at a b
  rw [hg] at hs
  rw [q.2.2] at hr ⊢
  simp only [qg] at hs
  have hsum : wrap64 (sum + gv x s) = sum + gv x s := wrap_small (by omega)
  have e1 : g.length - j = (g.length - (j + 1)) + 1 := by omega
  have i0 := aa_in ha hp h0 (by omega : sum ≤ all)
  have i1 := aa_in ha hp (sum := sum + gv x s) (by omega) (by omega)
  rw [e1] at hw
  simp only [wl, q.2.1, hsum] at hw
  refine ⟨?_, ?_, by omega, by omega, by omega, by omega, by omega⟩
  · by_cases c : 0 < all
    · rw [if_pos c] at hw
      refine ⟨_, (rd_dropi hw).2, fun _ => ?_⟩
      rw [i1.1 c]
      have e2 : aa all part (sum + gv x s) = Int.tdiv (part * (sum + gv x s)) all := by unfold aa; rw [if_pos c]
      rw [← e2]; exact wrap_small (by omega)
    · rw [if_neg c] at hw
      have z : gv x s = 0 := by omega
      refine ⟨ahead, ?_, fun h => absurd h c⟩
      rw [z, Int.add_zero]; exact (rd_dropi hw).2
  · by_cases c : 0 < all
    · rw [if_pos c, i1.1 c] at hw
      have e2 : aa all part (sum + gv x s) = Int.tdiv (part * (sum + gv x s)) all := by unfold aa; rw [if_pos c]
      rw [← e2, hah c] at hw
      rw [(rd_dropi hw).1, wrap_small (x := aa all part (sum + gv x s)) (by omega), wrap_small (x := aa all part (sum + gv x s) - aa all part sum) (by omega), wrap_small (x := x.f0 + (aa all part (sum + gv x s) - aa all part sum)) (by omega), wrap_small (by omega)]
      omega
    · rw [if_neg c] at hw
      have z1 : aa all part sum = 0 := by unfold aa; rw [if_neg c]
      have z2 : aa all part (sum + gv x s) = 0 := by unfold aa; rw [if_neg c]
      rw [(rd_dropi hw).1, z1, z2, wrap_small (by omega)]; omega
theorem bl_end (l : List S40) {g : List S38} (h : my g = true) {s : T5} {all part : Int} (ha : all ≤ 1073741823) (hp : Pt s all part) {w : List Int} {r : List S38} :
    ∀ (d i j : Nat) (sum ahead Q : Int), g.drop j = cl l d i ++ r → w.drop j = wl g s all part (g.length - j) j sum ahead → 0 ≤ sum → sum ≤ (j : Int) * 1073741823 → sum + qg s (g.drop j) = all → (0 < all → ahead = aa all part sum) → (-((j : Int) * 1073741823) ≤ Q ∧ Q ≤ (j : Int) * 1073741823) →
      (bl l w d i j (Q + aa all part sum)).2 = Q + qf (cl l d i) + aa all part (sum + qg s (cl l d i))
  | 0, i, j, sum, ahead, Q => fun _ _ _ _ _ _ _ => by simp only [bl, cl, qf, qg, Int.add_zero]
  | d + 1, i, j, sum, ahead, Q => fun hg hw h0 h1 hs hah hQ => by
    have go : ∀ x, g.drop j = x :: (cl l d (i + 1) ++ r) → (bl l w d (i + 1) (j + 1) (wrap64 (Q + aa all part sum + rd w (j : Int)))).2 = Q + qf (x :: cl l d (i + 1)) + aa all part (sum + qg s (x :: cl l d (i + 1))) := by
      intro x hx
      obtain ⟨⟨a', w1, w2⟩, e, k0, k1, k2, k3⟩ := end_step h ha hp hx hw h0 h1 hs hah hQ
      rw [e, bl_end l h ha hp d (i + 1) (j + 1) _ a' _ (rd38_drop hx).2.2 w1 k0 k1 k2 w2 k3]
      simp only [qf, qg]
      rw [Int.add_assoc Q, Int.add_assoc sum]
    simp only [cl] at hg ⊢
    simp only [bl]
    by_cases c0 : (rd_T40 l (i : Int)).f0 = 0
    · rw [if_pos c0] at hg ⊢
      rw [if_pos c0]
      exact go _ hg
    · rw [if_neg c0] at hg ⊢
      rw [if_neg c0]
      by_cases c1 : (rd_T40 l (i : Int)).f0 = 1
      · rw [if_pos c1] at hg ⊢
        rw [if_pos c1]
        exact go _ hg
      · rw [if_neg c1, List.nil_append] at hg
        rw [if_neg c1, if_neg c1, List.nil_append]
        exact bl_end l h ha hp d (i + 1) j sum ahead Q hg hw h0 h1 hs hah hQ
theorem qg_gt (l : List S40) (b : Int) (s : T5) : qg s (gt l b) = 0 := by
  unfold gt
  split
  · simp only [qg, gv]
    split
    · split <;> rfl
    · split <;> rfl
  · rfl
/-- A line's end, with its penalty's width. -/
def en (l : List S40) (b f4 : Int) : Int := if (rd_T40 l b).f0 = 2 then wrap64 (f4 + (rd_T40 l b).f1.f0) else f4
theorem line_wide {l : List S40} {a b t : Int} (h : ok l a b t = true) (hb : (lv l a b t).2.2.2.1 ≤ 10000) : en l b (toL (ln l a b t)).f4 ≤ t ∧ ((lv l a b t).2.2.2.1 < 10000 → en l b (toL (ln l a b t)).f4 = t) := by
  obtain ⟨hmb, hs⟩ := ok_in h
  have hm := sv_my hs
  have hbb := mb_in hmb
  have hi := (my_iff _).1 hm
  have hlen := hi.1
  have e0 : lv l a b t = sv (gs l a b) t := by unfold lv; rw [if_pos hmb]
  rw [e0] at hb ⊢
  have e1 : (toL (ln l a b t)).f4 = (lb l a b t).2 := by unfold ln toL; rw [if_pos h]
  -- how it is set
  have hset : ∃ e, -1073741823 ≤ e ∧ e ≤ 1073741823 ∧ e = t - qf (gs l a b) ∧ -1073741823 ≤ qf (gs l a b) ∧ qf (gs l a b) ≤ 1073741823 ∧ sv (gs l a b) t = sw e (qf (gs l a b), qh (gs l a b), qo 0 (gs l a b), qo 1 (gs l a b), qo 2 (gs l a b), qo 3 (gs l a b)) := by
    unfold sv at hs ⊢
    rw [if_pos hm, tt_is hm] at hs ⊢
    dsimp only at hs ⊢
    by_cases c : (sb t (qf (gs l a b))).2 = true
    · rw [if_pos c]
      unfold sb at c ⊢
      split at c
      · split at c
        · split at c
          · rename_i c1 c2 c3
            have b1 := fi_iff.1 c1
            have b2 := fi_iff.1 c2
            have b3 := fi_iff.1 c3
            have ew : wrap64 (t - qf (gs l a b)) = t - qf (gs l a b) := wrap_small (by omega)
            rw [ew] at b3
            refine ⟨t - qf (gs l a b), b3.1, b3.2, rfl, b2.1, b2.2, ?_⟩
            rw [if_pos c1, if_pos c2, if_pos c3, ew]
          · cases c
        · cases c
      · cases c
    · rw [if_neg c] at hs; cases hs
  obtain ⟨e, he1, he2, he3, hq1, hq2, hsv⟩ := hset
  -- what all gives
  have hall := al_is hm (sv (gs l a b) t) (gs l a b).length 0 0 (by omega) (Int.le_refl _) (by omega)
  rw [List.drop_zero, Int.zero_add] at hall
  have h0 := qo_pos 0 _ hi.2.1
  have h1 := qo_pos 1 _ hi.2.1
  have h2 := qo_pos 2 _ hi.2.1
  have h3 := qo_pos 3 _ hi.2.1
  have hqa := qo_all _ hi.2.1
  have m2 := am_iff.1 hi.2.2.2.1
  have m3 := am_iff.1 hi.2.2.2.2
  have key : ∃ all part, al (gs l a b) (sv (gs l a b) t) (gs l a b).length 0 0 = all ∧ pt_ (sv (gs l a b) t) all = part ∧ all ≤ 1073741823 ∧ Pt (sv (gs l a b) t) all part ∧ qf (gs l a b) + (if 0 < all then part else 0) ≤ t ∧ ((sv (gs l a b) t).2.2.2.1 < 10000 → qf (gs l a b) + (if 0 < all then part else 0) = t) := by
    rw [hall]
    rw [hsv] at hb ⊢
    unfold sw at hb ⊢
    by_cases c1 : e < 0
    · have ew : wrap64 (-e) = -e := wrap_small (by omega)
      rw [if_pos c1] at hb ⊢
      rw [qg_neg (by show (-1 : Int) < 0; decide)]
      dsimp only at hb ⊢
      rw [ew] at hb ⊢
      have c2 : ¬ -e > qh (gs l a b) := by
        intro c
        rw [if_pos c] at hb
        exact absurd hb (by decide)
      have mne : mn (wrap64 (-e)) (qh (gs l a b)) = -e := by rw [ew]; unfold mn; split <;> omega
      have pe : pt_ (-1, 0, e, (if -e > qh (gs l a b) then 1000000 else bd (-e) (qh (gs l a b))), true) (qh (gs l a b)) = e := by
        unfold pt_
        dsimp only
        rw [if_pos (by decide), mne, Int.neg_neg]; exact wrap_small (by omega)
      refine ⟨_, _, rfl, pe, by omega, fun _ => .inr ⟨by show (-1 : Int) < 0; decide, -e, by omega, by omega, by omega⟩, ?_, fun _ => ?_⟩
      · rw [if_pos (by omega)]; omega
      · rw [if_pos (by omega)]; omega
    · rw [if_neg c1] at hb ⊢
      by_cases c2 : e > 0
      · rw [if_pos c2] at hb ⊢
        dsimp only at hb ⊢
        have st : ∀ (o bad : Int) (q : Int), qo o (gs l a b) = q → ¬ q = 0 → 0 ≤ q → q ≤ 1073741823 → ∃ all part, qg ((1, o, e, bad, true) : T5) (gs l a b) = all ∧ pt_ ((1, o, e, bad, true) : T5) all = part ∧ all ≤ 1073741823 ∧ Pt ((1, o, e, bad, true) : T5) all part ∧ qf (gs l a b) + (if 0 < all then part else 0) ≤ t ∧ (bad < 10000 → qf (gs l a b) + (if 0 < all then part else 0) = t) := by
          intro o bad q hq hz hp hm
          have pe : ∀ x, pt_ ((1, o, e, bad, true) : T5) x = e := fun x => by unfold pt_; dsimp only; rw [if_neg (by decide)]
          refine ⟨q, e, by rw [qg_pos (by show (0 : Int) < 1; decide)]; exact hq, pe q, hm, fun _ => .inl ⟨by show (0 : Int) < 1; decide, by omega, by omega⟩, ?_, fun _ => ?_⟩
          · rw [if_pos (by omega)]; omega
          · rw [if_pos (by omega)]; omega
        by_cases z3 : qo 3 (gs l a b) = 0
        · rw [if_pos z3]
          by_cases z2 : qo 2 (gs l a b) = 0
          · rw [if_pos z2]
            by_cases z1 : qo 1 (gs l a b) = 0
            · rw [if_pos z1]
              by_cases z0 : qo 0 (gs l a b) = 0
              · rw [if_pos z0]
                refine ⟨0, _, qg_zero rfl _, rfl, by omega, fun c => absurd c (by decide), ?_, fun c => absurd (show (10000 : Int) < 10000 from c) (by decide)⟩
                rw [if_neg (by decide)]; omega
              · rw [if_neg z0]; exact st 0 _ _ rfl z0 h0 (by omega)
            · rw [if_neg z1]; exact st 1 _ _ rfl z1 h1 (by omega)
          · rw [if_neg z2]; exact st 2 _ _ rfl z2 h2 (by omega)
        · rw [if_neg z3]; exact st 3 _ _ rfl z3 h3 (by omega)
      · rw [if_neg c2]
        dsimp only
        refine ⟨0, _, qg_zero rfl _, rfl, by omega, fun c => absurd c (by decide), ?_, fun _ => ?_⟩
        · rw [if_neg (by decide)]; omega
        · rw [if_neg (by decide)]; omega
  obtain ⟨all, part, k1, k2, k3, k4, k5, k6⟩ := key
  -- its end
  have hend := bl_end l hm k3 k4 (w := ws (gs l a b) t) (r := gt l b) (b.toNat - st l a) (st l a) 0 0 0 0 (by rw [List.drop_zero]; rfl) (by rw [List.drop_zero, Nat.sub_zero]; unfold ws; rw [k1, k2]) (Int.le_refl _) (by omega) (by rw [List.drop_zero, Int.zero_add, ← hall, k1]) (fun _ => by unfold aa; rw [Int.mul_zero, Int.zero_tdiv]; split <;> rfl) (by omega)
  have z0 : aa all part 0 = 0 := by unfold aa; rw [Int.mul_zero, Int.zero_tdiv]; split <;> rfl
  have hgs : gs l a b = cl l (b.toNat - st l a) (st l a) ++ gt l b := rfl
  have hsum : qg (sv (gs l a b) t) (cl l (b.toNat - st l a) (st l a)) = all := by
    have := qg_app (sv (gs l a b) t) (cl l (b.toNat - st l a) (st l a)) (gt l b)
    rw [qg_gt, ← hgs] at this
    omega
  have hfull : aa all part all = if 0 < all then part else 0 := by
    unfold aa
    by_cases c : 0 < all
    · rw [if_pos c, if_pos c]; exact Int.mul_tdiv_cancel part (by omega)
    · rw [if_neg c, if_neg c]
  rw [z0, Int.add_zero, Int.zero_add, Int.zero_add, hsum, hfull] at hend
  have hx : (toL (ln l a b t)).f4 = qf (cl l (b.toNat - st l a) (st l a)) + (if 0 < all then part else 0) := by rw [e1]; unfold lb; exact hend
  have hpf : qf (gs l a b) = qf (cl l (b.toNat - st l a) (st l a)) + qf (gt l b) := by rw [hgs, qf_app]
  have hE : en l b (toL (ln l a b t)).f4 = qf (gs l a b) + (if 0 < all then part else 0) := by
    have hpart : -1073741823 ≤ (if 0 < all then part else 0) ∧ (if 0 < all then part else 0) ≤ 1073741823 := by
      by_cases c : 0 < all
      · rw [if_pos c]
        rcases k4 c with ⟨_, p2, p3⟩ | ⟨_, m, p2, p3, p4⟩ <;> omega
      · rw [if_neg c]; omega
    unfold en
    rw [hx]
    by_cases c : (rd_T40 l b).f0 = 2
    · have eg : qf (gt l b) = (rd_T40 l b).f1.f0 := by unfold gt; rw [if_pos c]; simp [qf]
      rw [if_pos c, ← eg, wrap_small (by omega)]; omega
    · have eg : qf (gt l b) = 0 := by unfold gt; rw [if_neg c]; rfl
      rw [if_neg c]; omega
  rw [hE]
  exact ⟨k5, k6⟩
end Go.Proofs.Ytpfnfofaajpdmaa.Pure

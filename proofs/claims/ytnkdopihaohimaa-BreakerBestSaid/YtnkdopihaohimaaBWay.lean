/- The document's table of ways comes to what the breaker's does; its breaks are those that are followed. -/
import Derived.Test.YtnkdopihaohimaaBRefB
namespace Go.Proofs.Ytnkdopihaohimaa.Pure
set_option linter.unusedVariables false
set_option linter.unusedSimpArgs false
open Go.RowKit Go.Proofs.Ytnkdopihaohimaa.PBr Go.Proofs.YtnkdopihaohimaaW.PrintWords Go.Proofs.YtnkdopihaohimaaW.PrintLast Go.Proofs.YtnkdopihaohimaaW.PrintMore

def Val (n : Nat) (V : Nat → Nat → Way) : Prop := ∀ x y v, V x y = some v → x ≤ v.2.1 ∧ v.2.1 < n
theorem fol_far {n : Nat} {V V' : Nat → Nat → Way} {a : Nat} (hV : Val n V) (h : ∀ x y, a < x → V x y = V' x y) : ∀ k x c, a < x → fol n V k x c = fol n V' k x c
  | 0, x, c => fun _ => rfl
  | k + 1, x, c => fun hx => by
    simp only [fol]
    rw [← h x c hx]
    cases hv : V x c with
    | none => rfl
    | some v =>
      have := hV x c v hv
      simp only []
      rw [fol_far hV h k (v.2.1 + 1) v.2.2 (by omega)]
theorem fol_fuel {n : Nat} {V : Nat → Nat → Way} (hV : Val n V) : ∀ k m x c, n ≤ x + k → n ≤ x + m → fol n V k x c = fol n V m x c
  | 0, 0, x, c => fun _ _ => rfl
  | 0, m + 1, x, c => fun h _ => by
    simp only [fol]
    cases hv : V x c with
    | none => rfl
    | some v => have := hV x c v hv; omega
  | k + 1, 0, x, c => fun _ h => by
    simp only [fol]
    cases hv : V x c with
    | none => rfl
    | some v => have := hV x c v hv; omega
  | k + 1, m + 1, x, c => fun h1 h2 => by
    simp only [fol]
    cases hv : V x c with
    | none => rfl
    | some v =>
      have := hV x c v hv
      simp only []
      rw [fol_fuel hV k m (v.2.1 + 1) v.2.2 (by omega) (by omega)]
def En (n : Nat) (V : Nat → Nat → Way) (a c : Nat) : WL := match V a c with
  | none => WL0
  | some v => ⟨true, v.1, ints (fol n V n a c)⟩
structure WTab (n : Nat) (T : List WL) (V : Nat → Nat → Way) : Prop where
  len : T.length = 4 * (n + 1)
  val : ∀ a c, a ≤ n → c < 4 → wg T (4 * a + c) = En n V a c
theorem en_congr {n : Nat} {V V' : Nat → Nat → Way} {a : Nat} (hV : Val n V) (h : ∀ x y, a < x → V x y = V' x y) {x c : Nat} (hx : V x c = V' x c) (hxa : a ≤ x ∨ V x c = none) : En n V x c = En n V' x c := by
  unfold En
  rw [← hx]
  cases hv : V x c with
  | none => rfl
  | some v =>
    have hq := hV x c v hv
    have hxa : a ≤ x := by
      rcases hxa with p | p
      · exact p
      · rw [hv] at p; cases p
    obtain ⟨m, rfl⟩ : ∃ m, n = m + 1 := ⟨n - 1, by omega⟩
    simp only []
    have e : fol (m + 1) V (m + 1) x c = fol (m + 1) V' (m + 1) x c := by
      simp only [fol]
      rw [← hx, hv]
      simp only []
      rw [fol_far hV h m (v.2.1 + 1) v.2.2 (by omega)]
    rw [e]
def lets (v : Int) (o : Way) : Bool := match o with
  | none => true
  | some u => decide (v < u.1)
theorem wput_at {T : List WL} {j : Nat} {o : Way} {bs : List Int} (h : j < T.length) (hok : (wg T j).ok = o.isSome) (hdm : ∀ u, o = some u → (wg T j).dm = u.1) (v : Int) (i : Nat) : wg (rb.put T j v bs) i = if i = j then (if lets v o = true then ⟨true, v, bs⟩ else wg T j) else wg T i := by
  unfold rb.put
  cases o with
  | none =>
    rw [if_neg (by rw [hok]; simp), wg_set h]
    simp [lets]
  | some u =>
    have hd := hdm u rfl
    rw [if_pos (by rw [hok]; rfl), hd]
    by_cases e : v < u.1
    · rw [if_pos e, wg_set h]; simp [lets, e]
    · rw [if_neg e]
      by_cases q : i = j
      · rw [if_pos q, q]; simp [lets, e]
      · rw [if_neg q]
/-- What the ways of row a become by a line to b, up to the class i. -/
def updi (n : Nat) (V : Nat → Nat → Way) (a b : Nat) (d e : Int) (c i : Nat) : Nat → Nat → Way := fun x y => if x = a ∧ y < i then better (V x y) (some (d + e + ap (c : Int) (y : Int), b, c)) else V x y
theorem updi_val {n : Nat} {V : Nat → Nat → Way} (hV : Val n V) {a b : Nat} (hab : a ≤ b) (hbn : b < n) (d e : Int) (c i : Nat) : Val n (updi n V a b d e c i) := by
  intro x y v hv
  unfold updi at hv
  by_cases q : x = a ∧ y < i
  · rw [if_pos q] at hv
    rcases better_is hv with h | ⟨h, _⟩
    · exact hV x y v h
    · have := Option.some.inj h; subst this; dsimp only; omega
  · rw [if_neg q] at hv; exact hV x y v hv
theorem wl_tab {n : Nat} {V : Nat → Nat → Way} (hV : Val n V) (a b c : Nat) (d e : Int) (R : List Nat) (hab : a ≤ b) (hbn : b < n) (hlow : ∀ x y, x < a → V x y = none) (hR : R = if b + 1 = n then [] else fol n V n (b + 1) c) (hd : -1000000000000000 ≤ d ∧ d ≤ 1000000000000000) (he : -1000000000000000 ≤ e ∧ e ≤ 1000000000000000) (hc : c < 4) :
    ∀ (m i : Nat) (T : List WL), i + m = 4 → WTab n T (updi n V a b d e c i) → ∃ T', rb.l (m + 1) (4 * a) d e (ints R) (b : Int) (c : Int) T (i : Int) = some T' ∧ WTab n T' (updi n V a b d e c 4)
  | 0, i, T => fun hi h => by
    have e4 : i = 4 := by omega
    subst e4
    exact ⟨T, by simp only [rb.l]; rw [if_neg (by decide)], h⟩
  | m + 1, i, T => fun hi h => by
    have hj : 4 * a + i < T.length := by rw [h.len]; omega
    have hold := h.val a i (by omega) (by omega)
    have hVi : updi n V a b d e c i a i = V a i := by unfold updi; rw [if_neg (by omega)]
    have hval := updi_val hV hab hbn d e c i
    have hval1 := updi_val hV hab hbn d e c (i + 1)
    have hfar : ∀ x y, a < x → updi n V a b d e c i x y = updi n V a b d e c (i + 1) x y := fun x y hx => by unfold updi; rw [if_neg (by omega), if_neg (by omega)]
    have hfar0 : ∀ x y, a < x → V x y = updi n V a b d e c (i + 1) x y := fun x y hx => by unfold updi; rw [if_neg (by omega)]
    have ho : (wg T (4 * a + i)).ok = (V a i).isSome ∧ ∀ u, V a i = some u → (wg T (4 * a + i)).dm = u.1 := by
      rw [hold]
      unfold En
      rw [hVi]
      cases V a i with
      | none => exact ⟨rfl, fun u hu => by cases hu⟩
      | some v => exact ⟨rfl, fun u hu => by cases hu; rfl⟩
    have hnew : updi n V a b d e c (i + 1) a i = better (V a i) (some (d + e + ap (c : Int) (i : Int), b, c)) := by unfold updi; rw [if_pos ⟨rfl, Nat.lt_succ_self _⟩]
    have ht : WTab n (rb.put T (4 * a + i) (d + e + ap (c : Int) (i : Int)) ((b : Int) :: ints R)) (updi n V a b d e c (i + 1)) := by
      refine ⟨by rw [rb.put_len, h.len], fun x y hx hy => ?_⟩
      rw [wput_at hj ho.1 ho.2]
      by_cases p : 4 * x + y = 4 * a + i
      · have ex : x = a := by omega
        have ey : y = i := by omega
        subst ex; subst ey
        rw [if_pos p]
        by_cases lt : lets (d + e + ap (c : Int) (y : Int)) (V x y) = true
        · rw [if_pos lt]
          have hb : updi n V x b d e c (y + 1) x y = some (d + e + ap (c : Int) (y : Int), b, c) := by
            rw [hnew]
            cases hv : V x y with
            | none => rfl
            | some u => rw [hv] at lt; simp only [lets, decide_eq_true_eq] at lt; simp [better, lt]
          unfold En
          rw [hb]
          simp only []
          obtain ⟨q, rfl⟩ : ∃ q, n = q + 1 := ⟨n - 1, by omega⟩
          have ef : fol (q + 1) (updi (q + 1) V x b d e c (y + 1)) (q + 1) x y = b :: R := by
            simp only [fol]
            rw [hb]
            simp only []
            rw [hR]
            by_cases z : b + 1 = q + 1
            · rw [if_pos z, if_pos z]
            · rw [if_neg z, if_neg z, ← fol_far hV hfar0 q (b + 1) c (by omega), fol_fuel hV q (q + 1) (b + 1) c (by omega) (by omega)]
          rw [ef]; rfl
        · rw [if_neg lt, hold]
          refine en_congr hval hfar ?_ (.inl (Nat.le_refl _))
          rw [hVi, hnew]
          cases hv : V x y with
          | none => rw [hv] at lt; exact absurd rfl lt
          | some u => rw [hv] at lt; simp only [lets, decide_eq_true_eq] at lt; simp [better, lt]
      · rw [if_neg p, h.val x y hx hy]
        refine en_congr hval hfar ?_ ?_
        · unfold updi
          by_cases ex : x = a
          · subst ex
            have ey : y ≠ i := fun e => p (by omega)
            by_cases lt : y < i
            · rw [if_pos ⟨rfl, lt⟩, if_pos ⟨rfl, by omega⟩]
            · rw [if_neg (by omega), if_neg (by omega)]
          · rw [if_neg (fun q => ex q.1), if_neg (fun q => ex q.1)]
        · rcases Nat.lt_or_ge x a with q | q
          · right; unfold updi; rw [if_neg (by omega)]; exact hlow x y q
          · left; exact q
    obtain ⟨T', h1, h2⟩ := wl_tab hV a b c d e R hab hbn hlow hR hd he hc m (i + 1) _ (by omega) ht
    have q := ap_in (c : Int) (i : Int)
    have i4 : (i : Int) < 4 := by omega
    have i0 : (0 : Int) ≤ (i : Int) := by omega
    have i9 : i ≤ 1000000000000000 := by omega
    have hcc : (0 : Int) ≤ (c : Int) ∧ (c : Int) ≤ 3 := by omega
    have hii : (0 : Int) ≤ (i : Int) ∧ (i : Int) ≤ 3 := by omega
    have w2 : wrap64 (wrap64 (d + ap (c : Int) (i : Int)) + e) = d + e + ap (c : Int) (i : Int) := by
      rw [wrap_small (x := d + ap (c : Int) (i : Int)) (by omega), wrap_small (by omega)]; omega
    have w3 : wrap64 ((i : Int) + 1) = ((i + 1 : Nat) : Int) := succ_w i i9
    refine ⟨T', ?_, h2⟩
    rw [← h1]
    simp only [rb.l]
    rw [if_pos i4, if_pos i0, rapart_f _ _ hcc hii]
    simp only [Option.bind_some, w2, w3, Int.toNat_natCast]
theorem fol_len (n : Nat) (V : Nat → Nat → Way) : ∀ k x c, (fol n V k x c).length ≤ k
  | 0, x, c => by simp [fol]
  | k + 1, x, c => by
    simp only [fol]
    cases V x c with
    | none => simp
    | some v =>
      have := fol_len n V k (v.2.1 + 1) v.2.2
      simp only []
      split
      · simp
      · simp only [List.length_cons]; omega
def Low (a : Nat) (V : Nat → Nat → Way) : Prop := ∀ x y, x < a → V x y = none
theorem wopt_tab {n : Nat} {V : Nat → Nat → Way} {T : List WL} (l : List S47) (hl : l.length = n) (h : WTab n T V) (hV : Val n V) (hb : Bnd n V) (hn : n ≤ 2000) (a b c : Nat) (d : Int) (hlow : Low a V) (hab : a ≤ b) (hbn : b < n) (hc : c < 4) (hd : -299000000 ≤ d ∧ d ≤ 299000000) :
    ∃ T', rb.opt l T ((a : Int) - 1) (b : Int) d (c : Int) = some T' ∧ WTab n T' (upd n V a b d c) := by
  have e4 : (4 * ((a : Int) - 1 + 1).toNat) = 4 * a := by omega
  have fin : ∀ (R : List Nat) (e : Int), R = (if b + 1 = n then [] else fol n V n (b + 1) c) → (-1000000000000000 ≤ e ∧ e ≤ 1000000000000000) → rest n V b c = some e → ∃ T', rb.l 5 (4 * a) d e (ints R) (b : Int) (c : Int) T 0 = some T' ∧ WTab n T' (upd n V a b d c) := by
    intro R e hR he hr
    have h0 : WTab n T (updi n V a b d e c 0) := by
      have e0 : updi n V a b d e c 0 = V := by funext x y; unfold updi; rw [if_neg (by omega)]
      rw [e0]; exact h
    obtain ⟨T', h1, h2⟩ := wl_tab hV a b c d e R hab hbn hlow hR (by omega) he hc 4 0 T (by omega) h0
    refine ⟨T', h1, h2.len, fun x y hx hy => ?_⟩
    rw [h2.val x y hx hy]
    have hu : upd n V a b d c x y = updi n V a b d e c 4 x y := by
      unfold upd updi
      rw [hr]
      by_cases ex : x = a
      · rw [if_pos ex, if_pos ⟨ex, hy⟩]; rfl
      · rw [if_neg ex, if_neg (fun q => ex q.1)]
    refine en_congr (a := a) (updi_val hV hab hbn d e c 4) (fun x' y' hx' => ?_) hu.symm ?_
    · unfold upd updi; rw [if_neg (by omega), if_neg (by omega)]
    · rcases Nat.lt_or_ge x a with q | q
      · right; unfold updi; rw [if_neg (by omega)]; exact hlow x y q
      · left; exact q
  unfold rb.opt
  rw [if_pos (show (0 : Int) ≤ (c : Int) by omega), if_pos (show (c : Int) < 4 by omega), e4]
  by_cases q : b + 1 = n
  · have er : rb.rest l T (b : Int) (c : Int) = ⟨true, 0, []⟩ := by unfold rb.rest; rw [if_pos (by omega)]
    rw [er]
    simp only [if_true, List.length_nil]
    rw [if_pos (by omega)]
    exact fin [] 0 (by rw [if_pos q]) (by omega) (by unfold rest; rw [if_pos q])
  · have er : rb.rest l T (b : Int) (c : Int) = En n V (b + 1) c := by
      unfold rb.rest
      have e1 : ((b : Int) + 1).toNat = b + 1 := by omega
      rw [if_neg (by omega), e1, Int.toNat_natCast, h.val (b + 1) c (by omega) hc]
    rw [er]
    cases hv : V (b + 1) c with
    | none =>
      have e0 : En n V (b + 1) c = WL0 := by unfold En; rw [hv]
      rw [e0]
      refine ⟨T, by simp [WL0], ?_⟩
      have eu : upd n V a b d c = V := by
        funext x y
        unfold upd rest
        rw [if_neg q, hv]
        split
        · rfl
        · rfl
      rw [eu]; exact h
    | some v =>
      have bv := hb (b + 1) c v (by omega) hv
      have e0 : En n V (b + 1) c = ⟨true, v.1, ints (fol n V n (b + 1) c)⟩ := by unfold En; rw [hv]
      rw [e0]
      have hlen : (ints (fol n V n (b + 1) c)).length < 1000000000 := by
        have := fol_len n V n (b + 1) c
        unfold ints; rw [List.length_map]; omega
      simp only [if_true]
      rw [if_pos hlen]
      exact fin _ v.1 (by rw [if_neg q]) (by omega) (by unfold rest; rw [if_neg q, hv]; rfl)
theorem upd_val {n : Nat} {V : Nat → Nat → Way} (hV : Val n V) {a b : Nat} (hab : a ≤ b) (hbn : b < n) (d : Int) (c : Nat) : Val n (upd n V a b d c) := by
  intro x y v hv
  unfold upd at hv
  by_cases q : x = a
  · rw [if_pos q] at hv
    rcases better_is hv with h | ⟨h, _⟩
    · exact hV x y v h
    · obtain ⟨e, _, he⟩ := Option.map_eq_some_iff.mp h
      subst he; dsimp only; omega
  · rw [if_neg q] at hv; exact hV x y v hv
theorem upd_low {n : Nat} {V : Nat → Nat → Way} {a b : Nat} (h : Low a V) (d : Int) (c : Nat) : Low a (upd n V a b d c) := fun x y hx => by
  unfold upd; rw [if_neg (by omega)]; exact h x y hx
theorem wrow_ev {n : Nat} {l : List S47} (hn : l.length = n) (hm : mi l = true) (w tol : Int) {a : Nat} : ∀ (d b : Nat) (T : List WL) (V : Nat → Nat → Way), b + d = n → a ≤ b → WTab n T V → Val n V → Bnd n V → Low a V →
    ∃ T', Ev (fun k => rb.lb k l w tol ((a : Int) - 1) T (b : Int)) T' ∧ WTab n T' (row n l w tol a d b V) ∧ Val n (row n l w tol a d b V) ∧ Bnd n (row n l w tol a d b V) ∧ Low a (row n l w tol a d b V)
  | 0, b, T, V => fun hi hab hT hV hB hL => by
    refine ⟨T, Ev.step (f := fun _ => some T) (fun k => ?_) (Ev.now _), hT, hV, hB, hL⟩
    simp only [rb.lb]
    rw [if_neg (by omega)]
  | d + 1, b, T, V => fun hi hab hT hV hB hL => by
    have hl : l.length ≤ 2000 := ((mi_iff l).1 hm).1
    have g1 : (b : Int) < (l.length : Int) := by omega
    have g0 : (0 : Int) ≤ (b : Int) := by omega
    have sw : wrap64 ((b : Int) + 1) = ((b + 1 : Nat) : Int) := succ_w b (by omega)
    have step : ∀ k, rb.lb (k + 1) l w tol ((a : Int) - 1) T (b : Int) = (variorumref10_Cost.f k l ((a : Int) - 1) (b : Int) w tol).bind fun x => (if x.2.2 = true then rb.opt l T ((a : Int) - 1) (b : Int) x.1 x.2.1 else some T).bind fun T1 => rb.lb k l w tol ((a : Int) - 1) T1 ((b + 1 : Nat) : Int) := by
      intro k
      simp only [rb.lb]
      rw [if_pos g1, if_pos g0, sw]
    simp only [row]
    cases hx : cst l w tol a b with
    | none =>
      have hk : ¬ (cv l ((a : Int) - 1) (b : Int) w tol).2.2 = true := fun c => by unfold cst at hx; rw [if_pos c] at hx; cases hx
      have es : stp n l w tol V a b = V := by unfold stp; rw [hx]
      rw [es]
      obtain ⟨T', h1, h2⟩ := wrow_ev hn hm w tol d (b + 1) T V (by omega) (by omega) hT hV hB hL
      refine ⟨T', Ev.step step (Ev.bind (rcost_ev l _ _ w tol hl) ?_), h2⟩
      rw [if_neg hk]
      exact h1
    | some x =>
      have k := cst_in hm hx
      have es : stp n l w tol V a b = upd n V a b x.1 x.2 := by unfold stp; rw [hx]
      rw [es]
      obtain ⟨T1, h1, hT1⟩ := wopt_tab l hn hT hV hB (by omega) a b x.2 x.1 hL hab (by omega) k.2.2.1 k.2.1
      obtain ⟨T', h2, h3⟩ := wrow_ev hn hm w tol d (b + 1) T1 _ (by omega) (by omega) hT1 (upd_val hV hab (by omega) x.1 x.2) (upd_bnd hB a b x.2 x.1 hab (by omega) k.2.1) (upd_low hL x.1 x.2)
      refine ⟨T', Ev.step step (Ev.bind (rcost_ev l _ _ w tol hl) ?_), h3⟩
      rw [if_pos k.2.2.2.1, ← k.2.2.2.2.1, ← k.2.2.2.2.2, h1]
      exact h2
theorem row_split {n : Nat} {l : List S47} {w tol : Int} {a : Nat} : ∀ (e d b : Nat) (V : Nat → Nat → Way), row n l w tol a (e + d) b V = row n l w tol a d (b + e) (row n l w tol a e b V)
  | 0, d, b, V => by rw [Nat.zero_add]; rfl
  | e + 1, d, b, V => by
    rw [show e + 1 + d = (e + d) + 1 by omega]
    simp only [row]
    rw [row_split e d (b + 1), show b + 1 + e = b + (e + 1) by omega]
theorem row_st {n : Nat} {l : List S47} (hn : l.length = n) (hm : mi l = true) (w tol : Int) {a : Nat} (ha : a ≤ n) (V : Nat → Nat → Way) : row n l w tol a (n - a) a V = row n l w tol a (n - st l ((a : Int) - 1)) (st l ((a : Int) - 1)) V := by
  have hs := st_in l a (by omega)
  have e2 : n - a = (st l ((a : Int) - 1) - a) + (n - st l ((a : Int) - 1)) := by omega
  have hd : row n l w tol a (st l ((a : Int) - 1) - a) a V = V := row_dead _ _ _ (fun j h1 h2 => cst_none (fun x hx => by
    have := mb_in (cst_in hm hx).1
    omega))
  rw [e2, row_split, hd, show a + (st l ((a : Int) - 1) - a) = st l ((a : Int) - 1) by omega]
theorem wall_ev {n : Nat} {l : List S47} (hn : l.length = n) (hm : mi l = true) (w tol : Int) : ∀ (m : Nat) (T : List WL) (V : Nat → Nat → Way), m ≤ n + 1 → WTab n T V → Val n V → Bnd n V → Low m V → ∃ T', Ev (fun k => rb.la k l w tol T ((m : Int) - 2)) T' ∧ WTab n T' (full n l w tol m V) := by
  have hl : l.length ≤ 2000 := ((mi_iff l).1 hm).1
  intro m
  induction m with
  | zero =>
    intro T V _ hT hV hB hL
    refine ⟨T, Ev.step (f := fun _ => some T) (fun k => ?_) (Ev.now _), hT⟩
    simp only [rb.la]
    rw [if_neg (by omega)]
  | succ m ih =>
    intro T V hmn hT hV hB hL
    have g0 : ((m + 1 : Nat) : Int) - 2 ≥ -1 := by omega
    have g1 : ((m + 1 : Nat) : Int) - 2 < (l.length : Int) := by omega
    have ew : wrap64 (((m + 1 : Nat) : Int) - 2 - 1) = (m : Int) - 2 := by rw [wrap_small (by omega)]; omega
    have em : ((m + 1 : Nat) : Int) - 2 = (m : Int) - 1 := by omega
    have e1 : (m : Int) - 1 + 1 = (m : Int) := by omega
    have hLm : Low m V := fun x y hx => hL x y (by omega)
    have ht : Ev (fun k => rb.t k l ((m : Int) - 1)) (decide (Lg l m)) := by
      unfold rb.t
      by_cases q : m = 0
      · subst q
        rw [decide_eq_true (show Lg l 0 from .inl rfl)]
        simp only [if_neg (show ¬ ((0 : Nat) : Int) - 1 ≥ 0 by omega)]; exact Ev.now _
      · simp only [if_pos (show (m : Int) - 1 ≥ 0 by omega)]
        have e : decide (Lg l m) = lg l ((m : Int) - 1) := by
          by_cases c : lg l ((m : Int) - 1) = true
          · rw [c]; exact decide_eq_true (.inr c)
          · rw [Bool.eq_false_iff.mpr c]; exact decide_eq_false (fun h => h.elim q (fun h => c h))
        rw [e]; exact rlegal_ev l _ hl
    have step : ∀ k, rb.la (k + 1) l w tol T (((m + 1 : Nat) : Int) - 2) = (rb.t k l ((m : Int) - 1)).bind fun t => (if t = true then rb.lb k l w tol ((m : Int) - 1) T (m : Int) else some T).bind fun T1 => rb.la k l w tol T1 ((m : Int) - 2) := by
      intro k
      simp only [rb.la]
      rw [if_pos g0, if_pos g1, ew, em, e1]
    by_cases hG : Lg l m
    · obtain ⟨T1, h1, hT1, hV1, hB1, hL1⟩ := wrow_ev hn hm w tol (n - m) m T V (by omega) (Nat.le_refl _) hT hV hB hLm
      rw [row_st hn hm w tol (by omega)] at hT1 hV1 hB1 hL1
      obtain ⟨T', h2, hT2⟩ := ih T1 _ (by omega) hT1 hV1 hB1 hL1
      refine ⟨T', Ev.step (fun k => step k) (Ev.bind ht ?_), by simp only [full]; rw [if_pos hG]; exact hT2⟩
      rw [decide_eq_true hG]
      simp only [if_true]
      exact Ev.bind h1 h2
    · obtain ⟨T', h2, hT2⟩ := ih T V (by omega) hT hV hB hLm
      refine ⟨T', Ev.step (fun k => step k) (Ev.bind ht ?_), by simp only [full]; rw [if_neg hG]; exact hT2⟩
      rw [decide_eq_false hG]
      simp only [Bool.false_eq_true, if_false, Option.bind_some]
      exact h2
theorem rbest_ev (l : List S47) (w tol : Int) (hz : l.length ≤ 1000000000000000) : Ev (fun k => variorumref11_Best.f k l w tol) (bv l w tol) := by
  unfold variorumref11_Best.f bv
  refine Ev.bind (rmay9_ev l hz) ?_
  by_cases hm : mi l = true
  · have hl : l.length ≤ 2000 := ((mi_iff l).1 hm).1
    simp only [hm, if_true]
    by_cases h0 : l.length = 0
    · simp only [if_pos h0]
      cases hv : VF l w tol 0 2 with
      | none => exact Ev.now _
      | some v => have := vf_pos hv; omega
    · simp only [if_neg h0, if_pos (show l.length ≤ 100000 by omega)]
      obtain ⟨T, h1, hT⟩ := wall_ev rfl hm w tol (l.length + 1) (List.replicate (4 * (l.length + 1)) WL0) (fun _ _ => none) (Nat.le_refl _) ⟨List.length_replicate .., fun a c _ _ => by
          have : wg (List.replicate (4 * (l.length + 1)) WL0) (4 * a + c) = WL0 := by
            unfold wg
            rw [List.getD_eq_getElem?_getD, List.getElem?_replicate]
            split <;> rfl
          rw [this]; rfl⟩ (fun x y v h => by cases h) (fun x y v _ h => by cases h) (fun _ _ _ => rfl)
      rw [show ((l.length + 1 : Nat) : Int) - 2 = (l.length : Int) - 1 by omega] at h1
      refine Ev.bind h1 ?_
      have h2 : wg T 2 = En l.length (VF l w tol) 0 2 := hT.val 0 2 (by omega) (by omega)
      rw [h2]
      unfold En
      cases hv : VF l w tol 0 2 with
      | none => exact Ev.now _
      | some v => exact Ev.now _
  · simp only [if_neg hm]; exact Ev.now _
end Go.Proofs.Ytnkdopihaohimaa.Pure

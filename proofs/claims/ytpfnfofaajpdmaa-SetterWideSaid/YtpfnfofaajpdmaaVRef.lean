/- What the document's answers come to: where lines begin, their glue, how it is set, what it costs; what items may be. -/
import Derived.Test.YtpfnfofaajpdmaaPWix12
import Derived.Test.YtpfnfofaajpdmaaPWix13
import Derived.Test.YtpfnfofaajpdmaaPWix14
import Derived.Test.YtpfnfofaajpdmaaPWix15
import Derived.Test.YtpfnfofaajpdmaaPWix16
import Derived.Test.YtpfnfofaajpdmaaPWix17
import Derived.Test.YtpfnfofaajpdmaaPWix18
import Derived.Test.YtpfnfofaajpdmaaPWix19
import Derived.Test.YtpfnfofaajpdmaaPWix20
import Derived.Test.YtpfnfofaajpdmaaVPlain
namespace Go.Proofs.Ytpfnfofaajpdmaa.Pure
set_option linter.unusedVariables false
set_option linter.unusedSimpArgs false
open Go.RowKit Go.Proofs.Ytpfnfofaajpdmaa.PWi Go.Proofs.YtpfnfofaajpdmaaW.PrintWords Go.Proofs.YtpfnfofaajpdmaaW.PrintLast Go.Proofs.YtpfnfofaajpdmaaW.PrintMore


theorem rforced_f (x : S40) : variorumref10_Forced.f x.f0 x.f1.f0 x.f1.f1 x.f1.f2 x.f1.f3 x.f2 x.f3 x.f4 x.f5 = some (fz x) := forced_f x
theorem rlegal_eq (k : Nat) (l : List S40) (b : Int) : variorumref10_Legal.f k l b = demerit_Legal.f k l b := by
  have e : ∀ c, variorumref10_Legal.j0 k l b c = demerit_Legal.j0 k l b c := fun c => by cases k <;> rfl
  unfold variorumref10_Legal.f demerit_Legal.f
  rw [e, e]
theorem rlegal_ev (l : List S40) (b : Int) (hl : l.length ≤ 2000) : Ev (fun k => variorumref10_Legal.f k l b) (lg l b) := Ev.congr (fun k => rlegal_eq k l b) (legal_ev l b hl)

theorem rs2 (l : List S40) (a : Int) (hl : l.length ≤ 2000) : ∀ (d i : Nat), i + d = l.length → a < (i : Int) → Ev (fun k => variorumref10_Start.l0 k l a (i : Int)) ((sk l d i : Nat) : Int) := by
  intro d
  induction d with
  | zero =>
    intro i hi ha
    have g : ¬ (i : Int) < (l.length : Int) := by omega
    refine Ev.step (f := fun _ => some _) (fun k => ?_) (Ev.now _)
    simp only [variorumref10_Start.l0]
    rw [if_neg g, ← hi]; rfl
  | succ d ih =>
    intro i hi ha
    have g1 : (i : Int) < (l.length : Int) := by omega
    have g2 : (0 : Int) ≤ (i : Int) := by omega
    have g3 : i ≤ 1000000000000000 := by omega
    have g4 : (i : Int) > a := ha
    by_cases a1 : (rd_T40 l (i : Int)).f0 = 0
    · refine Ev.step (f := fun _ => some _) (fun k => ?_) (Ev.now _)
      simp only [variorumref10_Start.l0]
      rw [if_pos g1, if_pos g4, if_pos g2, if_pos a1]
      simp [sk, hit, a1]
    · by_cases a2 : fz (rd_T40 l (i : Int)) = true
      · refine Ev.step (f := fun _ => some _) (fun k => ?_) (Ev.now _)
        simp only [variorumref10_Start.l0]
        rw [if_pos g1, if_pos g4, if_pos g2, if_neg a1, rforced_f]
        simp only [Option.bind_some]
        rw [if_pos a2]
        simp [sk, hit, a2]
      · have e : sk l (d + 1) i = sk l d (i + 1) := by simp [sk, hit, a1, a2]
        rw [e]
        refine Ev.step (fun k => ?_) (ih (i + 1) (by omega) (by omega))
        simp only [variorumref10_Start.l0]
        rw [if_pos g1, if_pos g4, if_pos g2, if_neg a1, rforced_f]
        simp only [Option.bind_some]
        rw [if_neg a2, succ_w i g3]
theorem rs1 (l : List S40) (a : Int) (hl : l.length ≤ 2000) (hf : from_ a ≤ l.length) : ∀ (n i : Nat), i + n = from_ a → Ev (fun k => variorumref10_Start.l0 k l a (i : Int)) ((sk l (l.length - from_ a) (from_ a) : Nat) : Int) := by
  intro n
  induction n with
  | zero =>
    intro i hi
    have e : i = from_ a := by omega
    subst e
    exact rs2 l a hl _ _ (by omega) (by unfold from_ mx; split <;> omega)
  | succ n ih =>
    intro i hi
    have g1 : (i : Int) < (l.length : Int) := by omega
    have g4 : ¬ (i : Int) > a := by
      have : i < from_ a := by omega
      unfold from_ mx at this; split at this <;> omega
    have g3 : i ≤ 1000000000000000 := by omega
    refine Ev.step (fun k => ?_) (ih (i + 1) (by omega))
    simp only [variorumref10_Start.l0]
    rw [if_pos g1, if_neg g4, succ_w i g3]
theorem rs3 (l : List S40) (a : Int) (hl : l.length ≤ 2000) (ha : a ≥ (l.length : Int)) : ∀ (d i : Nat), i + d = l.length → Ev (fun k => variorumref10_Start.l0 k l a (i : Int)) (l.length : Int) := by
  intro d
  induction d with
  | zero =>
    intro i hi
    have g : ¬ (i : Int) < (l.length : Int) := by omega
    refine Ev.step (f := fun _ => some _) (fun k => ?_) (Ev.now _)
    simp only [variorumref10_Start.l0]
    rw [if_neg g]
  | succ d ih =>
    intro i hi
    have g1 : (i : Int) < (l.length : Int) := by omega
    have g4 : ¬ (i : Int) > a := by omega
    have g3 : i ≤ 1000000000000000 := by omega
    refine Ev.step (fun k => ?_) (ih (i + 1) (by omega))
    simp only [variorumref10_Start.l0]
    rw [if_pos g1, if_neg g4, succ_w i g3]
theorem rstart_ev (l : List S40) (a : Int) (hl : l.length ≤ 2000) : Ev (fun k => variorumref10_Start.f k l a) ((st l a : Nat) : Int) := by
  unfold variorumref10_Start.f st
  by_cases h : a ≥ (l.length : Int)
  · rw [if_pos h]; exact rs3 l a hl h l.length 0 (by omega)
  · rw [if_neg h]
    have e2 : from_ a ≤ l.length := by unfold from_ mx; split <;> omega
    exact rs1 l a hl e2 (from_ a) 0 (by omega)

theorem rglues_eq : ∀ (k : Nat) (l : List S40) (b : Int) (acc : List S38) (i : Int), variorumref10_Glues.l0 k l b acc i = demerit_Glues.l0 k l b acc i := by
  intro k
  induction k with
  | zero => intros; rfl
  | succ k ih => intros; simp only [variorumref10_Glues.l0, demerit_Glues.l0, ih]
theorem rglues_ev (l : List S40) (a b : Int) (hl : l.length ≤ 2000) (hb : 0 ≤ b) (hb2 : b < (l.length : Int)) (hs : (st l a : Int) ≤ b) : Ev (fun k => variorumref10_Glues.f k l a b) (gs l a b) := by
  obtain ⟨b, rfl⟩ : ∃ n : Nat, b = n := ⟨b.toNat, by omega⟩
  have g1 : ¬ (b : Int) < 0 := by omega
  have g2 : ¬ (b : Int) ≥ (l.length : Int) := by omega
  unfold variorumref10_Glues.f
  simp only [Option.bind_some, if_neg g1, decide_eq_false g2]
  refine Ev.step (f := fun k => (variorumref10_Start.f k l a).bind fun t => demerit_Glues.l0 k l (b : Int) [] t) (fun k => ?_) (Ev.bind (rstart_ev l a hl) ?_)
  · simp only [variorumref10_Glues.j0]; rw [if_neg (by decide)]; simp only [rglues_eq]
  · have := glues_loop l b hl (by omega) (b - st l a) (st l a) [] (by omega) (by simp)
    simpa [gs] using this

/-! ## Layer 2 and layer 3 -/
theorem rfits_f (a : Int) : variorumref02_Fits.f a = some (fi a) := by
  unfold variorumref02_Fits.f variorumref02_Most.f
  simp only [Option.bind_some]
  rw [show wrap64 (-1073741823) = -1073741823 from wrap_small (by omega)]
  unfold fi
  by_cases h : a ≥ -1073741823
  · rw [if_pos h]; congr 1; exact decide_eq_decide.2 ⟨fun x => ⟨h, x⟩, fun x => x.2⟩
  · rw [if_neg h]; congr 1; symm; exact decide_eq_false (fun x => h x.1)
theorem rmay_no (g : List S38) (w s h i a b c d : Int) : Ev (fun k => variorumref03_May.j1 k g w s h i true a b c d) false :=
  Ev.step (f := fun _ => some _) (fun k => by simp only [variorumref03_May.j1]; rw [if_pos trivial]) (Ev.now _)
theorem rmay_loop (g : List S38) (hl : g.length ≤ 2000) : ∀ (d i : Nat) (w s h : Int), i + d = g.length → (0 ≤ w ∧ w ≤ (i : Int) * 1073741823) → (0 ≤ s ∧ s ≤ (i : Int) * 1073741823) → (0 ≤ h ∧ h ≤ (i : Int) * 1073741823) → Ev (fun k => variorumref03_May.l0 k g w s h (i : Int)) (mv g d i w s h) := by
  intro d
  induction d with
  | zero =>
    intro i w s h hi hw hs hh
    have g0 : ¬ (i : Int) < (g.length : Int) := by omega
    refine Ev.step (f := fun _ => some _) (fun k => ?_) (Ev.now _)
    simp only [variorumref03_May.l0]
    rw [if_neg g0, rfits_f, rfits_f, rfits_f, fi_am hw.1, fi_am hs.1, fi_am hh.1]
    simp only [Option.bind_some, mv]
    cases am w <;> cases am s <;> rfl
  | succ d ih =>
    intro i w s h hi hw hs hh
    have g1 : (i : Int) < (g.length : Int) := by omega
    have g2 : (0 : Int) ≤ (i : Int) := by omega
    have g3 : i ≤ 1000000000000000 := by omega
    have step : ∀ (r : Bool) (f : Nat → Option Bool), (∀ k, variorumref03_May.l0 (k + 1) g w s h (i : Int) = f k) → Ev f r → Ev (fun k => variorumref03_May.l0 k g w s h (i : Int)) r := fun r f e v => Ev.step e v
    by_cases a1 : fi (rd_T38 g (i : Int)).f0 = true
    · by_cases a2' : (rd_T38 g (i : Int)).f1 < 0
      · have e : mv g (d + 1) i w s h = false := by simp only [mv]; rw [if_pos a1, neg_am a2', if_neg (by decide)]
        rw [e]
        refine step _ _ (fun k => ?_) (rmay_no g w s h i (rd_T38 g (i : Int)).f0 (rd_T38 g (i : Int)).f1 (rd_T38 g (i : Int)).f2 (rd_T38 g (i : Int)).f3)
        simp only [variorumref03_May.l0]
        rw [if_pos g1, if_pos g2, rfits_f]
        simp only [Option.bind_some]
        rw [if_pos a1, if_pos a2']
      · by_cases a2 : fi (rd_T38 g (i : Int)).f1 = true
        · by_cases a3' : (rd_T38 g (i : Int)).f2 < 0
          · have e : mv g (d + 1) i w s h = false := by simp only [mv]; rw [if_pos a1, neg_am a3', if_neg (by decide : ¬ false = true)]; split <;> rfl
            rw [e]
            refine step _ _ (fun k => ?_) (rmay_no g w s h i (rd_T38 g (i : Int)).f0 (rd_T38 g (i : Int)).f1 (rd_T38 g (i : Int)).f2 (rd_T38 g (i : Int)).f3)
            simp only [variorumref03_May.l0]
            rw [if_pos g1, if_pos g2, rfits_f]
            simp only [Option.bind_some]
            rw [if_pos a1, if_neg a2', rfits_f]
            simp only [Option.bind_some]
            rw [if_pos a2, if_pos a3']
          · by_cases a3 : fi (rd_T38 g (i : Int)).f2 = true
            · have a2m : am (rd_T38 g (i : Int)).f1 = true := by rw [← fi_am (by omega)]; exact a2
              have a3m : am (rd_T38 g (i : Int)).f2 = true := by rw [← fi_am (by omega)]; exact a3
              by_cases a4 : (rd_T38 g (i : Int)).f3 < 0
              · have e : mv g (d + 1) i w s h = false := by simp only [mv]; rw [if_pos a1, if_pos a2m, if_pos a3m, if_pos a4]
                rw [e]
                refine step _ _ (fun k => ?_) (rmay_no g w s h i (rd_T38 g (i : Int)).f0 (rd_T38 g (i : Int)).f1 (rd_T38 g (i : Int)).f2 (rd_T38 g (i : Int)).f3)
                simp only [variorumref03_May.l0]
                rw [if_pos g1, if_pos g2, rfits_f]
                simp only [Option.bind_some]
                rw [if_pos a1, if_neg a2', rfits_f]
                simp only [Option.bind_some]
                rw [if_pos a2, if_neg a3', rfits_f]
                simp only [Option.bind_some]
                rw [if_pos a3, if_pos a4]
              · refine step _ (fun k => variorumref03_May.j1 k g w s h (i : Int) (decide ((rd_T38 g (i : Int)).f3 > 3)) (rd_T38 g (i : Int)).f0 (rd_T38 g (i : Int)).f1 (rd_T38 g (i : Int)).f2 (rd_T38 g (i : Int)).f3) (fun k => ?_) ?_
                · simp only [variorumref03_May.l0]
                  rw [if_pos g1, if_pos g2, rfits_f]
                  simp only [Option.bind_some]
                  rw [if_pos a1, if_neg a2', rfits_f]
                  simp only [Option.bind_some]
                  rw [if_pos a2, if_neg a3', rfits_f]
                  simp only [Option.bind_some]
                  rw [if_pos a3, if_neg a4]
                · by_cases a5 : (rd_T38 g (i : Int)).f3 > 3
                  · have e : mv g (d + 1) i w s h = false := by simp only [mv]; rw [if_pos a1, if_pos a2m, if_pos a3m, if_neg a4, if_pos a5]
                    rw [e, decide_eq_true a5]
                    exact rmay_no ..
                  · have b1 := fi_iff.1 a1
                    have b2 := am_iff.1 a2m
                    have b3 := am_iff.1 a3m
                    have m1 : 0 ≤ mx (rd_T38 g (i : Int)).f0 (-(rd_T38 g (i : Int)).f0) ∧ mx (rd_T38 g (i : Int)).f0 (-(rd_T38 g (i : Int)).f0) ≤ 1073741823 := by unfold mx; split <;> omega
                    have m2 : (rd_T38 g (i : Int)).f0 < 0 → w - (rd_T38 g (i : Int)).f0 = w + mx (rd_T38 g (i : Int)).f0 (-(rd_T38 g (i : Int)).f0) := fun q => by unfold mx; split <;> omega
                    have m3 : ¬ (rd_T38 g (i : Int)).f0 < 0 → w + (rd_T38 g (i : Int)).f0 = w + mx (rd_T38 g (i : Int)).f0 (-(rd_T38 g (i : Int)).f0) := fun q => by unfold mx; split <;> omega
                    have e1 : wrap64 (w - (rd_T38 g (i : Int)).f0) = w - (rd_T38 g (i : Int)).f0 := wrap_small (by omega)
                    have e1' : wrap64 (w + (rd_T38 g (i : Int)).f0) = w + (rd_T38 g (i : Int)).f0 := wrap_small (by omega)
                    have e2 : wrap64 (s + (rd_T38 g (i : Int)).f1) = s + (rd_T38 g (i : Int)).f1 := wrap_small (by omega)
                    have e3 : wrap64 (h + (rd_T38 g (i : Int)).f2) = h + (rd_T38 g (i : Int)).f2 := wrap_small (by omega)
                    have hv : mv g (d + 1) i w s h = mv g d (i + 1) (w + mx (rd_T38 g (i : Int)).f0 (-(rd_T38 g (i : Int)).f0)) (s + (rd_T38 g (i : Int)).f1) (h + (rd_T38 g (i : Int)).f2) := by
                      simp only [mv]; rw [if_pos a1, if_pos a2m, if_pos a3m, if_neg a4, if_neg a5]
                    rw [hv, decide_eq_false a5]
                    refine Ev.step (fun k => ?_) (ih (i + 1) (w + mx (rd_T38 g (i : Int)).f0 (-(rd_T38 g (i : Int)).f0)) (s + (rd_T38 g (i : Int)).f1) (h + (rd_T38 g (i : Int)).f2) (by omega) (by omega) (by omega) (by omega))
                    simp only [variorumref03_May.j1]
                    rw [if_neg (by decide)]
                    by_cases a6 : (rd_T38 g (i : Int)).f0 < 0
                    · rw [if_pos a6, e1, e2, e3, m2 a6, succ_w i g3]
                    · rw [if_neg a6, e1', e2, e3, m3 a6, succ_w i g3]
            · have a3m : ¬ am (rd_T38 g (i : Int)).f2 = true := by rw [← fi_am (by omega)]; exact a3
              have e : mv g (d + 1) i w s h = false := by simp only [mv]; rw [if_pos a1, if_neg a3m]; split <;> rfl
              rw [e]
              refine step _ _ (fun k => ?_) (rmay_no g w s h i (rd_T38 g (i : Int)).f0 (rd_T38 g (i : Int)).f1 (rd_T38 g (i : Int)).f2 (rd_T38 g (i : Int)).f3)
              simp only [variorumref03_May.l0]
              rw [if_pos g1, if_pos g2, rfits_f]
              simp only [Option.bind_some]
              rw [if_pos a1, if_neg a2', rfits_f]
              simp only [Option.bind_some]
              rw [if_pos a2, if_neg a3', rfits_f]
              simp only [Option.bind_some]
              rw [if_neg a3]
        · have a2m : ¬ am (rd_T38 g (i : Int)).f1 = true := by rw [← fi_am (by omega)]; exact a2
          have e : mv g (d + 1) i w s h = false := by simp only [mv]; rw [if_pos a1, if_neg a2m]
          rw [e]
          refine step _ _ (fun k => ?_) (rmay_no g w s h i (rd_T38 g (i : Int)).f0 (rd_T38 g (i : Int)).f1 (rd_T38 g (i : Int)).f2 (rd_T38 g (i : Int)).f3)
          simp only [variorumref03_May.l0]
          rw [if_pos g1, if_pos g2, rfits_f]
          simp only [Option.bind_some]
          rw [if_pos a1, if_neg a2', rfits_f]
          simp only [Option.bind_some]
          rw [if_neg a2]
    · have e : mv g (d + 1) i w s h = false := by simp only [mv]; rw [if_neg a1]
      rw [e]
      refine step _ _ (fun k => ?_) (rmay_no g w s h i (rd_T38 g (i : Int)).f0 (rd_T38 g (i : Int)).f1 (rd_T38 g (i : Int)).f2 (rd_T38 g (i : Int)).f3)
      simp only [variorumref03_May.l0]
      rw [if_pos g1, if_pos g2, rfits_f]
      simp only [Option.bind_some]
      rw [if_neg a1]
theorem rmay_ev (g : List S38) : Ev (fun k => variorumref03_May.f k g) (my g) := by
  unfold variorumref03_May.f my
  by_cases h : (g.length : Int) > 2000
  · simp only [if_pos h]; exact Ev.now _
  · simp only [if_neg h]
    have := rmay_loop g (by omega) g.length 0 0 0 0 (by omega) (by omega) (by omega) (by omega)
    simpa using this
theorem rtotal_eq : ∀ (k : Nat) (g : List S38) (w h s0 s1 s2 s3 i : Int), variorumref03_Total.l0 k g w h s0 s1 s2 s3 i = glue_Total.l0 k g w h s0 s1 s2 s3 i := by
  intro k
  induction k with
  | zero => intros; rfl
  | succ k ih => intros; simp only [variorumref03_Total.l0, glue_Total.l0, ih]
theorem rtotal3_ev (g : List S38) : Ev (fun k => variorumref03_Total.f k g) (t7 (tt g) (my g)) := by
  unfold variorumref03_Total.f tt
  refine Ev.bind (rmay_ev g) ?_
  by_cases h : my g = true
  · have a := my_all h
    rw [h]; simp only [if_pos, rtotal_eq]
    exact total_loop g a.1 (fun j hj => (a.2 j hj).2.2) g.length 0 _ _ _ _ _ _ (by omega)
  · simp only [if_neg h]
    rw [Bool.eq_false_iff.mpr h]; exact Ev.now _
theorem rone_f (a : Int) (b : Bool) : variorumref02_one.f a b = some (if b = true then (if fi a = true then (a, true) else (0, false)) else (0, false)) := by
  unfold variorumref02_one.f
  cases b
  · rfl
  · simp only [if_true, rfits_f, Option.bind_some]; split <;> rfl
theorem rsub_f (a b : Int) : variorumref02_Sub.f a b = some (sb a b) := by
  unfold variorumref02_Sub.f sb
  rw [rfits_f]; simp only [Option.bind_some]
  by_cases h : fi a = true
  · rw [if_pos h, if_pos h, rfits_f]; simp only [Option.bind_some, rone_f]
  · rw [if_neg h, if_neg h]; simp only [rone_f, Option.bind_some]; rfl
theorem rbad_no (t s : Int) : Ev (fun k => variorumref03_Badness.j0 k t s true) (-1) :=
  Ev.step (f := fun _ => some _) (fun k => by simp only [variorumref03_Badness.j0]; rw [if_pos trivial]) (Ev.now _)
theorem rbad_2 (t s r : Int) : Ev (fun k => variorumref03_Badness.j2 k t s r false) (fin r) := by
  refine Ev.step (f := fun _ => some _) (fun k => ?_) (Ev.now _)
  simp only [variorumref03_Badness.j2]
  rw [if_neg (by decide)]; unfold fin; split <;> rfl
theorem rbad_3 (t s r : Int) (h : s ≥ 1663497) (h2 : s ≤ 1073741823) : Ev (fun k => variorumref03_Badness.j2 k t s r true) (fin (wrap64 (Int.tdiv t (wrap64 (Int.tdiv s 297))))) := by
  have q := quot_ne s h h2
  refine Ev.step (f := fun _ => some _) (fun k => ?_) (Ev.now _)
  simp only [variorumref03_Badness.j2]
  rw [if_pos trivial, if_neg q]; unfold fin; split <;> rfl
theorem rbad_yes (t s : Int) (ht : 0 ≤ t ∧ t ≤ 1073741823) (hs : 0 ≤ s ∧ s ≤ 1073741823) : Ev (fun k => variorumref03_Badness.j0 k t s false) (bd t s) := by
  unfold bd
  rw [if_pos (am_iff.2 ht), if_pos (am_iff.2 hs)]
  by_cases c1 : t = 0
  · rw [if_pos c1]
    exact Ev.step (f := fun _ => some _) (fun k => by simp only [variorumref03_Badness.j0]; rw [if_neg (by decide), if_pos c1]) (Ev.now _)
  · rw [if_neg c1]
    by_cases c2 : s = 0
    · rw [if_pos c2]
      exact Ev.step (f := fun _ => some _) (fun k => by simp only [variorumref03_Badness.j0]; rw [if_neg (by decide), if_neg c1, if_pos c2]) (Ev.now _)
    · rw [if_neg c2]
      by_cases c3 : t ≤ 7230584
      · have c3' : ¬ t > 7230584 := by omega
        rw [if_pos c3]
        refine Ev.step (f := fun k => variorumref03_Badness.j1 k t s (wrap64 (Int.tdiv (wrap64 (t * 297)) s))) (fun k => by simp only [variorumref03_Badness.j0]; rw [if_neg (by decide), if_neg c1, if_neg c2, if_pos c3, Int.mul_comm 297 t]) ?_
        refine Ev.step (f := fun k => variorumref03_Badness.j2 k t s _ false) (fun k => by simp only [variorumref03_Badness.j1]; rw [if_neg c3']) (rbad_2 ..)
      · have c3' : t > 7230584 := by omega
        rw [if_neg c3]
        refine Ev.step (f := fun k => variorumref03_Badness.j1 k t s t) (fun k => by simp only [variorumref03_Badness.j0]; rw [if_neg (by decide), if_neg c1, if_neg c2, if_neg c3]) ?_
        by_cases c4 : s ≥ 1663497
        · rw [if_pos c4]
          exact Ev.step (f := fun k => variorumref03_Badness.j2 k t s _ true) (fun k => by simp only [variorumref03_Badness.j1]; rw [if_pos c3', decide_eq_true c4]) (rbad_3 t s t c4 hs.2)
        · rw [if_neg c4]
          exact Ev.step (f := fun k => variorumref03_Badness.j2 k t s _ false) (fun k => by simp only [variorumref03_Badness.j1]; rw [if_pos c3', decide_eq_false c4]) (rbad_2 ..)
theorem rbad_ev (t s : Int) : Ev (fun k => variorumref03_Badness.f k t s) (bd t s) := by
  unfold variorumref03_Badness.f variorumref02_Most.f
  simp only [Option.bind_some]
  by_cases c1 : t < 0
  · simp only [if_pos c1]
    have e : bd t s = -1 := by unfold bd; rw [neg_am c1, if_neg (by decide)]
    rw [e]; exact rbad_no t s
  · simp only [if_neg c1]
    by_cases c2 : s < 0
    · simp only [if_pos c2]
      have e : bd t s = -1 := by unfold bd; rw [neg_am c2, if_neg (by decide : ¬ false = true)]; split <;> rfl
      rw [e]; exact rbad_no t s
    · simp only [if_neg c2]
      by_cases c3 : t > 1073741823
      · simp only [if_pos c3]
        have e : bd t s = -1 := by unfold bd; rw [if_neg (fun q => by have := am_iff.1 q; omega)]
        rw [e]; exact rbad_no t s
      · simp only [if_neg c3]
        by_cases c4 : s > 1073741823
        · rw [decide_eq_true c4]
          have e : bd t s = -1 := by unfold bd; split
                                     · rw [if_neg (fun q => by have := am_iff.1 q; omega)]
                                     · rfl
          rw [e]; exact rbad_no t s
        · rw [decide_eq_false c4]
          exact rbad_yes t s (by omega) (by omega)
theorem rset_no (e : Int) (x0 x1 x2 x3 x4 x5 : Int) : Ev (fun k => variorumref03_Set.j0 k e true 0 0 0 0 x0 x1 x2 x3 x4 x5) (0, 0, 0, 0, false) :=
  Ev.step (f := fun _ => some _) (fun k => by simp only [variorumref03_Set.j0]; rw [if_pos trivial]) (Ev.now _)
theorem rset_yes (e : Int) (x0 x1 x2 x3 x4 x5 : Int) (h2 : 0 ≤ x2) (h3 : 0 ≤ x3) (h4 : 0 ≤ x4) (h5 : 0 ≤ x5) : Ev (fun k => variorumref03_Set.j0 k e false 0 0 0 0 x0 x1 x2 x3 x4 x5) (sw e (x0, x1, x2, x3, x4, x5)) := by
  unfold sw
  by_cases c0 : e = 0
  · have c1 : ¬ e < 0 := by omega
    have c2 : ¬ e > 0 := by omega
    rw [if_neg c1, if_neg c2]
    refine Ev.step (f := fun _ => some _) (fun k => ?_) (Ev.now _)
    simp only [variorumref03_Set.j0]; rw [if_neg (by decide), if_pos c0, c0]
  · by_cases c1 : e < 0
    · rw [if_pos c1]
      refine Ev.step (f := fun k => (variorumref03_Badness.f k (wrap64 (-e)) x1).bind fun t => (if x1 < (wrap64 (-e)) then (some ((-1), 0, e, 1000000, true)) else (some ((-1), 0, e, t, true)))) (fun k => by simp only [variorumref03_Set.j0]; rw [if_neg (by decide), if_neg c0, if_pos c1]) (Ev.bind (rbad_ev _ _) ?_)
      by_cases c2 : x1 < wrap64 (-e)
      · have c2' : wrap64 (-e) > x1 := c2
        simp only [if_pos c2, if_pos c2']; exact Ev.now _
      · have c2' : ¬ wrap64 (-e) > x1 := c2
        simp only [if_neg c2, if_neg c2']; exact Ev.now _
    · have c2 : e > 0 := by omega
      rw [if_neg c1, if_pos c2]
      by_cases c5 : x5 = 0
      · have c5' : ¬ x5 > 0 := by omega
        by_cases c4 : x4 = 0
        · have c4' : ¬ x4 > 0 := by omega
          by_cases c3 : x3 = 0
          · have c3' : ¬ x3 > 0 := by omega
            by_cases c6 : x2 = 0
            · have c6' : ¬ x2 > 0 := by omega
              simp only [if_pos c5, if_pos c4, if_pos c3, if_pos c6]
              exact Ev.step (f := fun _ => some _) (fun k => by simp only [variorumref03_Set.j0]; rw [if_neg (by decide), if_neg c0, if_neg c1, if_neg c5', if_neg c4', if_neg c3', if_neg c6']) (Ev.now _)
            · have c6' : x2 > 0 := by omega
              simp only [if_pos c5, if_pos c4, if_pos c3, if_neg c6]
              exact Ev.step (f := fun k => (variorumref03_Badness.f k e x2).bind fun t => some (1, 0, e, t, true)) (fun k => by simp only [variorumref03_Set.j0]; rw [if_neg (by decide), if_neg c0, if_neg c1, if_neg c5', if_neg c4', if_neg c3', if_pos c6']) (Ev.bind (rbad_ev _ _) (Ev.now _))
          · have c3' : x3 > 0 := by omega
            simp only [if_pos c5, if_pos c4, if_neg c3]
            exact Ev.step (f := fun _ => some _) (fun k => by simp only [variorumref03_Set.j0]; rw [if_neg (by decide), if_neg c0, if_neg c1, if_neg c5', if_neg c4', if_pos c3']) (Ev.now _)
        · have c4' : x4 > 0 := by omega
          simp only [if_pos c5, if_neg c4]
          exact Ev.step (f := fun _ => some _) (fun k => by simp only [variorumref03_Set.j0]; rw [if_neg (by decide), if_neg c0, if_neg c1, if_neg c5', if_pos c4']) (Ev.now _)
      · have c5' : x5 > 0 := by omega
        simp only [if_neg c5]
        exact Ev.step (f := fun _ => some _) (fun k => by simp only [variorumref03_Set.j0]; rw [if_neg (by decide), if_neg c0, if_neg c1, if_pos c5']) (Ev.now _)
theorem rset_ev (g : List S38) (target : Int) : Ev (fun k => variorumref03_Set.f k g target) (sv g target) := by
  have p := tt_pos g
  unfold variorumref03_Set.f sv
  refine Ev.bind (rtotal3_ev g) ?_
  refine Ev.bind (a := sb target (tt g).1) (by rw [show (t7 (tt g) (my g)).1 = (tt g).1 from rfl, rsub_f]; exact Ev.now _) ?_
  by_cases h : my g = true
  · rw [h]; simp only [t7, if_true]
    by_cases h2 : (sb target (tt g).1).2 = true
    · rw [if_pos h2, h2]; exact rset_yes _ _ _ _ _ _ _ p.1 p.2.1 p.2.2.1 p.2.2.2
    · rw [if_neg h2, Bool.eq_false_iff.mpr h2]; exact rset_no ..
  · rw [Bool.eq_false_iff.mpr h]; simp only [t7, if_neg (by decide : ¬ (false = true))]
    exact rset_no ..

/-! ## Line, cost, total -/
theorem rline_no (l : List S40) (a b w : Int) : Ev (fun k => variorumref10_Line.j0 k l a b w true 0 0 0 0) (0, 0, 0, 0, false) :=
  Ev.step (f := fun _ => some _) (fun k => by simp only [variorumref10_Line.j0]; rw [if_pos trivial]) (Ev.now _)
theorem rline_loop (l : List S40) (a w : Int) (b : Nat) (hl : l.length ≤ 2000) (hb : b < l.length) (hs : (st l a : Int) ≤ b) : ∀ (d i : Nat), i + d = b → Ev (fun k => variorumref10_Line.l0 k l a (b : Int) w (i : Int) 0 0 0 0) (if nf l d i = true then sv (gs l a b) w else (0, 0, 0, 0, false)) := by
  intro d
  induction d with
  | zero =>
    intro i hi
    have g : ¬ (i : Int) < (b : Int) := by omega
    rw [if_pos (show nf l 0 i = true from rfl)]
    refine Ev.step (f := fun k => (variorumref10_Glues.f k l a (b : Int)).bind fun t => (variorumref03_Set.f k t w).bind fun bt => some (bt.1, bt.2.1, bt.2.2.1, bt.2.2.2.1, bt.2.2.2.2)) (fun k => ?_) (Ev.bind (rglues_ev l a b hl (by omega) (by omega) hs) (Ev.bind (rset_ev _ _) (Ev.now _)))
    simp only [variorumref10_Line.l0]
    rw [if_neg g]
  | succ d ih =>
    intro i hi
    have g1 : (i : Int) < (b : Int) := by omega
    have g2 : (0 : Int) ≤ (i : Int) := by omega
    have g3 : i ≤ 1000000000000000 := by omega
    have g4 : (i : Int) < (l.length : Int) := by omega
    by_cases a2 : fz (rd_T40 l (i : Int)) = true
    · have e : nf l (d + 1) i = false := by simp [nf, a2]
      rw [e, if_neg (by decide)]
      refine Ev.step (f := fun _ => some _) (fun k => ?_) (Ev.now _)
      simp only [variorumref10_Line.l0]
      rw [if_pos g1, if_pos g2, if_pos g4, rforced_f]
      simp only [Option.bind_some]
      rw [if_pos a2]
    · have e : nf l (d + 1) i = nf l d (i + 1) := by simp [nf, a2]
      rw [e]
      refine Ev.step (fun k => ?_) (ih (i + 1) (by omega))
      simp only [variorumref10_Line.l0]
      rw [if_pos g1, if_pos g2, if_pos g4, rforced_f]
      simp only [Option.bind_some]
      rw [if_neg a2, succ_w i g3]
theorem rline_rest (l : List S40) (a b w : Int) (hl : l.length ≤ 2000) (ha : -1 ≤ a) (hA : (decide (a = -1) || lg l a) = true) : Ev (fun k => (variorumref10_Legal.f k l b).bind fun t => (if t = true then (if a ≥ b then (variorumref10_Line.j0 k l a b w true 0 0 0 0) else ((variorumref10_Start.f k l a).bind fun t2 => (variorumref10_Line.j0 k l a b w (decide (t2 > b)) 0 0 0 0))) else (variorumref10_Line.j0 k l a b w true 0 0 0 0))) (lv l a b w) := by
  refine Ev.bind (rlegal_ev l b hl) ?_
  unfold lv
  by_cases h1 : lg l b = true
  · simp only [if_pos h1]
    by_cases h2 : a ≥ b
    · simp only [if_pos h2]
      have : mb l a b = false := by unfold mb; rw [decide_eq_false (show ¬ a < b by omega)]; simp
      rw [this, if_neg (by decide)]; exact rline_no l a b w
    · simp only [if_neg h2]
      refine Ev.bind (rstart_ev l a hl) ?_
      by_cases h3 : (st l a : Int) > b
      · rw [decide_eq_true h3]
        have : mb l a b = false := by unfold mb; rw [decide_eq_false (show ¬ (st l a : Int) ≤ b by omega)]; simp
        rw [this, if_neg (by decide)]; exact rline_no l a b w
      · rw [decide_eq_false h3]
        have hb := lg_in h1
        have e : mb l a b = nf l (b.toNat - (a + 1).toNat) (a + 1).toNat := by
          unfold mb; rw [hA, h1, decide_eq_true (show a < b by omega), decide_eq_true (show (st l a : Int) ≤ b by omega)]; simp
        rw [e]
        have g1 : a + 1 = (((a + 1).toNat : Nat) : Int) := by omega
        have g2 : b = ((b.toNat : Nat) : Int) := by omega
        have g3 : b.toNat < l.length := by omega
        have g4 : (a + 1).toNat + (b.toNat - (a + 1).toNat) = b.toNat := by omega
        have g5 : wrap64 (a + 1) = (((a + 1).toNat : Nat) : Int) := by rw [wrap_small (by omega)]; exact g1
        have L := rline_loop l a w b.toNat hl g3 (by omega) _ _ g4
        rw [← g2] at L
        refine Ev.step (fun k => ?_) L
        simp only [variorumref10_Line.j0]
        rw [if_neg (by decide), g5]
  · simp only [if_neg h1]
    have : mb l a b = false := by unfold mb; rw [Bool.eq_false_iff.mpr h1]; simp
    rw [this, if_neg (by decide)]; exact rline_no l a b w
theorem rline_ev (l : List S40) (a b w : Int) (hl : l.length ≤ 2000) : Ev (fun k => variorumref10_Line.f k l a b w) (lv l a b w) := by
  unfold variorumref10_Line.f
  by_cases h0 : a < -1
  · simp only [if_pos h0]
    have e : mb l a b = false := by
      cases c : mb l a b
      · rfl
      · have := mb_in c; omega
    unfold lv; rw [e, if_neg (by decide)]; exact rline_no l a b w
  · simp only [if_neg h0]
    by_cases h : a ≥ 0
    · simp only [if_pos h]
      refine Ev.bind (rlegal_ev l a hl) ?_
      by_cases h1 : lg l a = true
      · simp only [if_pos h1]
        exact rline_rest l a b w hl (by omega) (by rw [h1]; simp)
      · simp only [if_neg h1]
        have : mb l a b = false := by unfold mb; rw [Bool.eq_false_iff.mpr h1, decide_eq_false (show ¬ a = -1 by omega)]; rfl
        unfold lv; rw [this, if_neg (by decide)]; exact rline_no l a b w
    · simp only [if_neg h]
      exact rline_rest l a b w hl (by omega) (by rw [decide_eq_true (show a = -1 by omega)]; rfl)

def rcl (s n : Int) : Int := if n ≤ 12 then 2 else if s = -1 then 3 else if n < 100 then 1 else 0
theorem rc6 (n d s o e q : Int) : Ev (fun k => variorumref10_Cost.j6 k n d s o e q) (d, rcl s n, true) := by
  have r7 : ∀ c : Int, Ev (fun k => variorumref10_Cost.j7 k n d c s o e q) (d, (if n ≤ 12 then 2 else if s = -1 then 3 else c), true) := by
    intro c
    refine Ev.step (f := fun _ => some _) (fun k => ?_) (Ev.now _)
    simp only [variorumref10_Cost.j7]
    by_cases c1 : s = -1
    · rw [if_pos c1, if_pos c1]; split <;> rfl
    · rw [if_neg c1, if_neg c1]; split <;> rfl
  unfold rcl
  by_cases c : n < 100
  · have := r7 1
    refine Ev.step (fun k => ?_) (by rw [if_pos c]; exact this)
    simp only [variorumref10_Cost.j6]; rw [if_pos c]
  · have := r7 0
    refine Ev.step (fun k => ?_) (by rw [if_neg c]; exact this)
    simp only [variorumref10_Cost.j6]; rw [if_neg c]
theorem rc5 (n d : Int) (b : Bool) (s o e q : Int) : Ev (fun k => variorumref10_Cost.j5 k n d b s o e q) ((if b = true then wrap64 (d + 10000) else d), rcl s n, true) := by
  cases b
  · exact Ev.step (fun k => by simp only [variorumref10_Cost.j5]; rw [if_neg (by decide)]) (rc6 n d s o e q)
  · exact Ev.step (fun k => by simp only [variorumref10_Cost.j5]; rw [if_pos trivial]) (rc6 n (wrap64 (d + 10000)) s o e q)
theorem rc4 (l : List S40) (a b n d s o e q : Int) (h0 : 0 ≤ b) (h1 : b < (l.length : Int)) (h2 : a < (l.length : Int)) : Ev (fun k => variorumref10_Cost.j4 k l a b n d s o e q) ((if (if a ≥ 0 then (rd_T40 l (mx a 0)).f3 else false) = true then (if (rd_T40 l b).f3 = true then wrap64 (d + 10000) else d) else d), rcl s n, true) := by
  by_cases c : a ≥ 0
  · have e0 : mx a 0 = a := by unfold mx; split <;> omega
    have c' : 0 ≤ a := c
    rw [if_pos c, e0]
    by_cases c2 : (rd_T40 l a).f3 = true
    · rw [if_pos c2]
      refine Ev.step (fun k => ?_) (rc5 n d (rd_T40 l b).f3 s o e q)
      simp only [variorumref10_Cost.j4]; rw [if_pos c, if_pos c', if_pos h2, if_pos c2, if_pos h0, if_pos h1]
    · rw [if_neg c2]
      refine Ev.step (fun k => ?_) (rc5 n d false s o e q)
      simp only [variorumref10_Cost.j4]; rw [if_pos c, if_pos c', if_pos h2, if_neg c2]
  · rw [if_neg c]
    refine Ev.step (fun k => ?_) (rc5 n d false s o e q)
    simp only [variorumref10_Cost.j4]; rw [if_neg c]
theorem wrap_zero (x : Int) : wrap64 (wrap64 x - wrap64 0) = wrap64 x := by unfold wrap64; omega
theorem rc0 (l : List S40) (a b n s o e : Int) (h0 : 0 ≤ b) (h1 : b < (l.length : Int)) (h2 : a < (l.length : Int)) : Ev (fun k => variorumref10_Cost.j0 k l a b false s o e n) (dm n (if a ≥ 0 then (rd_T40 l (mx a 0)).f3 else false) (rd_T40 l b), rcl s n, true) := by
  have r4 := fun d => rc4 l a b n d s o e n h0 h1 h2
  have r3 : ∀ (d : Int) (c : Bool), Ev (fun k => variorumref10_Cost.j3 k l a b n d (rd_T40 l b).f2 c s o e n) ((if (if a ≥ 0 then (rd_T40 l (mx a 0)).f3 else false) = true then (if (rd_T40 l b).f3 = true then wrap64 ((if c = true then wrap64 (d - wrap64 ((rd_T40 l b).f2 * (rd_T40 l b).f2)) else d) + 10000) else (if c = true then wrap64 (d - wrap64 ((rd_T40 l b).f2 * (rd_T40 l b).f2)) else d)) else (if c = true then wrap64 (d - wrap64 ((rd_T40 l b).f2 * (rd_T40 l b).f2)) else d)), rcl s n, true) := by
    intro d c
    cases c
    · exact Ev.step (f := fun k => variorumref10_Cost.j4 k l a b n d s o e n) (fun k => by simp only [variorumref10_Cost.j3]; rw [if_neg (by decide)]) (r4 d)
    · exact Ev.step (f := fun k => variorumref10_Cost.j4 k l a b n (wrap64 (d - wrap64 ((rd_T40 l b).f2 * (rd_T40 l b).f2))) s o e n) (fun k => by simp only [variorumref10_Cost.j3]; rw [if_pos trivial]) (r4 (wrap64 (d - wrap64 ((rd_T40 l b).f2 * (rd_T40 l b).f2))))
  unfold dm d1
  by_cases c2 : (rd_T40 l b).f0 = 2
  · rw [if_pos c2]
    by_cases c3 : (rd_T40 l b).f2 > 0
    · have c3' : ¬ (rd_T40 l b).f2 < 0 := by omega
      rw [if_pos c3]
      refine Ev.step (f := fun k => variorumref10_Cost.j1 k l a b n (d0 n) (rd_T40 l b).f2 true s o e n) (fun k => by simp only [variorumref10_Cost.j0]; rw [if_neg (by decide), if_pos h0, if_pos h1, if_pos c2, decide_eq_true c3]; rfl) ?_
      refine Ev.step (f := fun k => variorumref10_Cost.j2 k l a b n (wrap64 (d0 n + wrap64 ((rd_T40 l b).f2 * (rd_T40 l b).f2))) (rd_T40 l b).f2 s o e n) (fun k => by simp only [variorumref10_Cost.j1]; rw [if_pos trivial]) ?_
      exact Ev.step (fun k => by simp only [variorumref10_Cost.j2]; rw [if_pos h0, if_pos h1, if_pos c2, if_neg c3']) (r3 (wrap64 (d0 n + wrap64 ((rd_T40 l b).f2 * (rd_T40 l b).f2))) false)
    · rw [if_neg c3]
      refine Ev.step (f := fun k => variorumref10_Cost.j1 k l a b n (d0 n) (rd_T40 l b).f2 false s o e n) (fun k => by simp only [variorumref10_Cost.j0]; rw [if_neg (by decide), if_pos h0, if_pos h1, if_pos c2, decide_eq_false c3]; rfl) ?_
      refine Ev.step (f := fun k => variorumref10_Cost.j2 k l a b n (d0 n) (rd_T40 l b).f2 s o e n) (fun k => by simp only [variorumref10_Cost.j1]; rw [if_neg (by decide)]) ?_
      by_cases c4 : (rd_T40 l b).f2 < 0
      · by_cases c5 : (rd_T40 l b).f2 = -10000
        · have e1 : fz (rd_T40 l b) = true := by unfold fz; rw [decide_eq_true c2, c5]; rfl
          have e2 : ((rd_T40 l b).f2 != (-10000)) = false := by rw [c5]; rfl
          rw [if_pos e1]
          exact Ev.step (fun k => by simp only [variorumref10_Cost.j2]; rw [if_pos h0, if_pos h1, if_pos c2, if_pos c4, e2]) (r3 (d0 n) false)
        · have e1 : ¬ fz (rd_T40 l b) = true := by unfold fz; rw [decide_eq_true c2, Bool.true_and, beq_iff_eq]; exact c5
          have e2 : ((rd_T40 l b).f2 != (-10000)) = true := bne_iff_ne.mpr c5
          rw [if_neg e1]
          exact Ev.step (fun k => by simp only [variorumref10_Cost.j2]; rw [if_pos h0, if_pos h1, if_pos c2, if_pos c4, e2]) (r3 (d0 n) true)
      · have z : (rd_T40 l b).f2 = 0 := by omega
        have e1 : ¬ fz (rd_T40 l b) = true := by unfold fz; rw [decide_eq_true c2, Bool.true_and, beq_iff_eq, z]; decide
        have e3 : wrap64 (d0 n - wrap64 ((rd_T40 l b).f2 * (rd_T40 l b).f2)) = d0 n := by rw [z, Int.mul_zero]; exact wrap_zero _
        rw [if_neg e1, e3]
        exact Ev.step (fun k => by simp only [variorumref10_Cost.j2]; rw [if_pos h0, if_pos h1, if_pos c2, if_neg c4]) (r3 (d0 n) false)
  · rw [if_neg c2]
    refine Ev.step (f := fun k => variorumref10_Cost.j1 k l a b n (d0 n) (rd_T40 l b).f2 false s o e n) (fun k => by simp only [variorumref10_Cost.j0]; rw [if_neg (by decide), if_pos h0, if_pos h1, if_neg c2]; rfl) ?_
    refine Ev.step (f := fun k => variorumref10_Cost.j2 k l a b n (d0 n) (rd_T40 l b).f2 s o e n) (fun k => by simp only [variorumref10_Cost.j1]; rw [if_neg (by decide)]) ?_
    exact Ev.step (fun k => by simp only [variorumref10_Cost.j2]; rw [if_pos h0, if_pos h1, if_neg c2]) (r3 (d0 n) false)
theorem rcost_no (l : List S40) (a b s o e n : Int) : Ev (fun k => variorumref10_Cost.j0 k l a b true s o e n) (0, 0, false) :=
  Ev.step (f := fun _ => some _) (fun k => by simp only [variorumref10_Cost.j0]; rw [if_pos trivial]) (Ev.now _)
theorem lv_sign (l : List S40) (a b w : Int) : (lv l a b w).1 = -1 ∨ (lv l a b w).1 = 0 ∨ (lv l a b w).1 = 1 := by
  unfold lv; split
  · exact sv_sign _ _
  · exact Or.inr (Or.inl rfl)
theorem rcost_ev (l : List S40) (a b w tol : Int) (hl : l.length ≤ 2000) : Ev (fun k => variorumref10_Cost.f k l a b w tol) (cv l a b w tol) := by
  unfold variorumref10_Cost.f
  refine Ev.bind (rline_ev l a b w hl) ?_
  unfold cv
  by_cases c : (lv l a b w).2.2.2.2 = true
  · have j := mb_in (lv_ok c)
    simp only [if_pos c]
    by_cases c1 : (lv l a b w).2.2.2.1 > tol
    · have c2 : (lv l a b w).2.2.2.1 > mn tol 10000 := by unfold mn; split <;> omega
      simp only [if_pos c1, if_pos c2]; exact rcost_no ..
    · simp only [if_neg c1]
      by_cases c3 : (lv l a b w).2.2.2.1 > 10000
      · have c2 : (lv l a b w).2.2.2.1 > mn tol 10000 := by unfold mn; split <;> omega
        rw [decide_eq_true c3, if_pos c2]; exact rcost_no ..
      · have c2 : ¬ (lv l a b w).2.2.2.1 > mn tol 10000 := by unfold mn; split <;> omega
        have e : rcl (lv l a b w).1 (lv l a b w).2.2.2.1 = cs (lv l a b w).1 (lv l a b w).2.2.2.1 := by
          have := lv_sign l a b w
          unfold rcl cs
          by_cases q : (lv l a b w).1 = -1
          · rw [if_pos q, if_pos (by omega : (lv l a b w).1 < 0)]
          · rw [if_neg q, if_neg (by omega : ¬ (lv l a b w).1 < 0)]
        rw [decide_eq_false c3, if_neg c2, ← e]
        exact rc0 l a b _ _ _ _ j.2.2.1 j.2.2.2.1 (by omega)
  · simp only [if_neg c]; exact rcost_no ..

theorem rright_j2 (p c : Bool) (x : S40) (h0 : ¬ x.f0 = 0) (hc : c = true ↔ ¬ (x.f4 = 0 ∧ x.f5 = 0)) : Ev (fun k => variorumref09_Right.j2 k p c x.f0 x.f1.f0 x.f1.f1 x.f1.f2 x.f1.f3 x.f2 x.f3 x.f4 x.f5 x.f1.f0 x.f1.f1 x.f1.f2 x.f1.f3) (rj p x) := by
  unfold rj
  rw [if_neg h0]
  by_cases e : c = true
  · have n := hc.1 e
    refine Ev.step (f := fun _ => some _) (fun k => ?_) (Ev.now _)
    simp only [variorumref09_Right.j2]
    rw [if_pos e]
    congr 1; symm
    by_cases f : x.f4 = 0
    · have f5 : ¬ x.f5 = 0 := fun q => n ⟨f, q⟩
      split
      · simp [f5]
      · split
        · simp [f5]
        · rfl
    · split
      · simp [f]
      · split
        · simp [f]
        · rfl
  · have q : x.f4 = 0 ∧ x.f5 = 0 := by
      by_cases f : x.f4 = 0 ∧ x.f5 = 0
      · exact f
      · exact absurd (hc.2 f) e
    by_cases h1 : x.f0 = 1
    · rw [if_pos h1]
      refine Ev.step (f := fun k => (variorumref03_May.f k [x.f1]).bind fun t140 => (if t140 = true then (if x.f1.f0 ≥ x.f1.f2 then (if x.f2 = 0 then (some (!x.f3)) else (some false)) else (some false)) else (some false))) (fun k => ?_) (Ev.bind (rmay_ev [x.f1]) ?_)
      · simp only [variorumref09_Right.j2]
        rw [if_neg e, if_pos h1]
      · by_cases a : my [x.f1] = true
        · simp only [if_pos a]
          by_cases b : x.f1.f0 ≥ x.f1.f2
          · simp only [if_pos b]
            by_cases c : x.f2 = 0
            · simp only [if_pos c]; simp [a, b, c, q.1, q.2]; exact Ev.now _
            · simp only [if_neg c]; rw [(beq_eq_false_iff_ne.mpr c : (x.f2 == 0) = false)]; simp only [Bool.false_and, Bool.and_false]; exact Ev.now _
          · simp only [if_neg b]; rw [show decide (x.f1.f0 ≥ x.f1.f2) = false from decide_eq_false b]; simp only [Bool.false_and, Bool.and_false]; exact Ev.now _
        · simp only [if_neg a]; rw [Bool.eq_false_iff.mpr a]; simp only [Bool.false_and, Bool.and_false]; exact Ev.now _
    · rw [if_neg h1]
      refine Ev.step (f := fun _ => some _) (fun k => ?_) (Ev.now _)
      simp only [variorumref09_Right.j2]
      rw [if_neg e, if_neg h1]
      by_cases h2 : x.f0 = 2
      · rw [if_pos h2, if_pos h2]
        by_cases a : p = true
        · rw [if_pos a]
          by_cases b : x.f2 ≥ -10000
          · rw [if_pos b]; simp [a, b, q.1, q.2]
          · rw [if_neg b]; simp [b]
        · rw [if_neg a]; simp [a]
      · rw [if_neg h2, if_neg h2]
theorem rright_j1 (p : Bool) (x : S40) : Ev (fun k => variorumref09_Right.j1 k p x.f0 x.f1.f0 x.f1.f1 x.f1.f2 x.f1.f3 x.f2 x.f3 x.f4 x.f5 x.f1.f0 x.f1.f1 x.f1.f2 x.f1.f3) (rj p x) := by
  by_cases h0 : x.f0 = 0
  · unfold rj
    rw [if_pos h0]
    refine Ev.step (f := fun _ => some _) (fun k => ?_) (Ev.now _)
    simp only [variorumref09_Right.j1]
    rw [if_pos h0]
    by_cases a : p = true
    · rw [if_pos a]
      by_cases b : x.f2 = 0
      · rw [if_pos b]
        by_cases c : x.f3 = true
        · rw [if_pos c]; simp [a, b, c]
        · rw [if_neg c]
          by_cases e : x.f4 ≥ 0
          · rw [if_pos e]; simp [a, b, c, e]
          · rw [if_neg e]; simp [a, b, c, e]
      · rw [if_neg b]; simp [a, b]
    · rw [if_neg a]; simp [a]
  · by_cases h4 : x.f4 = 0
    · refine Ev.step (fun k => ?_) (rright_j2 p (x.f5 != 0) x h0 (by simp [h4]))
      simp only [variorumref09_Right.j1]; rw [if_neg h0, if_pos h4]
    · refine Ev.step (fun k => ?_) (rright_j2 p true x h0 (by simp [h4]))
      simp only [variorumref09_Right.j1]; rw [if_neg h0, if_neg h4]
theorem rright_j0 (p : Bool) (x : S40) : Ev (fun k => variorumref09_Right.j0 k p x.f0 x.f1.f0 x.f1.f1 x.f1.f2 x.f1.f3 x.f2 x.f3 x.f4 x.f5 x.f1.f0 x.f1.f1 x.f1.f2 x.f1.f3) (rj (p && (x.f1.f1 == 0 && (x.f1.f2 == 0 && x.f1.f3 == 0))) x) := by
  by_cases a : p = true
  · by_cases b : x.f1.f1 = 0
    · by_cases c : x.f1.f2 = 0
      · refine Ev.step (fun k => ?_) (rright_j1 _ x)
        simp only [variorumref09_Right.j0]; rw [if_pos a, if_pos b, if_pos c, a, b, c]; rfl
      · refine Ev.step (fun k => ?_) (rright_j1 _ x)
        simp only [variorumref09_Right.j0]; rw [if_pos a, if_pos b, if_neg c, a, b, (beq_eq_false_iff_ne.mpr c : (x.f1.f2 == 0) = false)]; rfl
    · refine Ev.step (fun k => ?_) (rright_j1 _ x)
      simp only [variorumref09_Right.j0]; rw [if_pos a, if_neg b, a, (beq_eq_false_iff_ne.mpr b : (x.f1.f1 == 0) = false)]; rfl
  · refine Ev.step (fun k => ?_) (rright_j1 _ x)
    simp only [variorumref09_Right.j0]; rw [if_neg a, Bool.eq_false_iff.mpr a]; rfl
theorem rright_ev (x : S40) : Ev (fun k => variorumref09_Right.f k x.f0 x.f1.f0 x.f1.f1 x.f1.f2 x.f1.f3 x.f2 x.f3 x.f4 x.f5) (ri x) := by
  unfold variorumref09_Right.f ri
  by_cases a : x.f1.f0 ≥ 0
  · simp only [if_pos a, rfits_f, Option.bind_some]
    have e : pl x = (fi x.f1.f0 && (x.f1.f1 == 0 && (x.f1.f2 == 0 && x.f1.f3 == 0))) := by
      unfold pl; rw [fi_am a]
      cases am x.f1.f0 <;> cases (x.f1.f1 == 0) <;> cases (x.f1.f2 == 0) <;> cases (x.f1.f3 == 0) <;> rfl
    rw [e]; exact rright_j0 _ x
  · simp only [if_neg a]
    have e : pl x = (false && (x.f1.f1 == 0 && (x.f1.f2 == 0 && x.f1.f3 == 0))) := by unfold pl; rw [neg_am (by omega)]; simp
    rw [e]; exact rright_j0 _ x

theorem glues_loop9 (l : List S40) (hl : l.length ≤ 2000) : ∀ (d i : Nat) (acc : List S38), i + d = l.length → acc.length ≤ i → Ev (fun k => variorumref09_Glues.l0 k l acc (i : Int)) (acc ++ gq l d i) := by
  intro d
  induction d with
  | zero =>
    intro i acc hi ha
    have g0 : ¬ (i : Int) < (l.length : Int) := by omega
    refine Ev.step (f := fun _ => some _) (fun k => ?_) (Ev.now _)
    simp only [variorumref09_Glues.l0]; rw [if_neg g0]; simp [gq]
  | succ d ih =>
    intro i acc hi ha
    have g1 : (i : Int) < (l.length : Int) := by omega
    have g2 : (0 : Int) ≤ (i : Int) := by omega
    have g3 : i ≤ 1000000000000000 := by omega
    have g4 : acc.length < 4398046511104 := by omega
    have e : acc ++ gq l (d + 1) i = (acc ++ [(rd_T40 l (i : Int)).f1]) ++ gq l d (i + 1) := by simp [gq]
    rw [e]
    refine Ev.step (fun k => ?_) (ih (i + 1) (acc ++ [(rd_T40 l (i : Int)).f1]) (by omega) (by simp; omega))
    simp only [variorumref09_Glues.l0]; rw [if_pos g1, if_pos g2, if_pos g4, succ_w i g3]
theorem rmay9_loop (l : List S40) (hl : l.length ≤ 1000000000000000) : ∀ (d i : Nat), i + d = l.length → Ev (fun k => variorumref09_May.l0 k l (i : Int)) (decide ((l.length : Int) ≤ 2000) && (ar l d i && my (gq l l.length 0))) := by
  intro d
  induction d with
  | zero =>
    intro i hi
    have g0 : ¬ (i : Int) < (l.length : Int) := by omega
    by_cases h : (l.length : Int) ≤ 2000
    · rw [decide_eq_true h]
      refine Ev.step (f := fun k => (variorumref09_Glues.f k l).bind fun t => (variorumref03_May.f k t).bind fun b => some b) (fun k => ?_) (Ev.bind (a := gq l l.length 0) ?_ (Ev.bind (rmay_ev _) (Ev.now _)))
      · simp only [variorumref09_May.l0]; rw [if_neg g0, if_pos h]
      · have := glues_loop9 l (by omega) l.length 0 [] (by omega) (by simp)
        simpa [variorumref09_Glues.f] using this
    · rw [decide_eq_false h]
      refine Ev.step (f := fun _ => some _) (fun k => ?_) (Ev.now _)
      simp only [variorumref09_May.l0]; rw [if_neg g0, if_neg h]; rfl
  | succ d ih =>
    intro i hi
    have g1 : (i : Int) < (l.length : Int) := by omega
    have g2 : (0 : Int) ≤ (i : Int) := by omega
    have g3 : i ≤ 1000000000000000 := by omega
    refine Ev.step (f := fun k => (variorumref09_Right.f k (rd_T40 l (i : Int)).f0 (rd_T40 l (i : Int)).f1.f0 (rd_T40 l (i : Int)).f1.f1 (rd_T40 l (i : Int)).f1.f2 (rd_T40 l (i : Int)).f1.f3 (rd_T40 l (i : Int)).f2 (rd_T40 l (i : Int)).f3 (rd_T40 l (i : Int)).f4 (rd_T40 l (i : Int)).f5).bind fun t => (if t = true then variorumref09_May.l0 k l (((i + 1 : Nat) : Int)) else some false)) (fun k => ?_) (Ev.bind (rright_ev _) ?_)
    · simp only [variorumref09_May.l0]; rw [if_pos g1, if_pos g2]; simp only [succ_w i g3]
    · by_cases a : ri (rd_T40 l (i : Int)) = true
      · simp only [if_pos a, ar, a, Bool.true_and]; exact ih (i + 1) (by omega)
      · simp only [if_neg a, ar, Bool.eq_false_iff.mpr a, Bool.false_and, Bool.and_false]; exact Ev.now _
theorem rmay9_ev (l : List S40) (hl : l.length ≤ 1000000000000000) : Ev (fun k => variorumref09_May.f k l) (mi l) := rmay9_loop l hl l.length 0 (by omega)


end Go.Proofs.Ytpfnfofaajpdmaa.Pure

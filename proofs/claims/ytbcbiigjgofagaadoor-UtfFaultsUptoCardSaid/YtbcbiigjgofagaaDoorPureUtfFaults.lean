/- UtfFaults, where what comes in is of bulk at most 1048576: bytes up to a fault are letters; and the fault stays where it is, whatever stands behind it, four bytes and more away. -/
import Derived.Test.YtbcbiigjgofagaaDoorPUtx3
import Derived.Test.YtbcbiigjgofagaaDoorULib
namespace Go.Proofs.YtbcbiigjgofagaaDoor.Pure
set_option linter.unusedVariables false
set_option linter.unusedSimpArgs false
open Go Go.RowKit Go.Proofs.YtbcbiigjgofagaaDoor.PUt Go.Proofs.YtbcbiigjgofagaaDoorW.PrintWords Go.Proofs.YtbcbiigjgofagaaDoorW.PrintLast Go.Proofs.YtbcbiigjgofagaaDoorW.PrintMore Go.Proofs.YtbcbiigjgofagaaDoor.UMath

theorem UtfFaults : variorumlaw04_UtfFaults.Pure := by
  intro s m _ hs _ hm
  refine Ev.rounds (g := fun k => variorumlaw04_UtfFaults.f k s m) ?_
  unfold variorumlaw04_UtfFaults.f
  rcases text s with ⟨cs, ps, h⟩ | ⟨cs, ps, q, h, hq, hb⟩
  · refine Ev.bind (decode_ok h (by omega)) (Ev.bind fixed_ev ?_)
    simp only [if_true]
    refine Ev.step (f := fun k => (variorumlaw04_fixed.f k).bind fun t => some t) (fun k => ?_) (Ev.bind fixed_ev (Ev.now _))
    simp [variorumlaw04_UtfFaults.j0]
  · refine Ev.bind (decode_no h hq hb (by omega)) (Ev.bind fixed_ev ?_)
    simp only [if_true]
    have g1 : ¬ (q : Int) < 0 := by omega
    have g2 : decide ((q : Int) ≥ (s.size : Int)) = false := decide_eq_false (by omega)
    refine Ev.step (f := fun k => variorumlaw04_UtfFaults.j1 k s m false 40 (q : Int)) (fun k => ?_) ?_
    · simp only [variorumlaw04_UtfFaults.j0]
      rw [if_neg (by decide)]
      simp only [if_true, if_neg g1, g2]
    have l1 : Ls (s.extract 0 q) 0 cs ps (s.extract 0 q).size := by
      rw [ext0_size s (by omega)]
      exact h.same (by rw [ext0_size s (by omega)]; exact Nat.le_refl _) (fun j hj => g_ext0 s hj)
    have g3 : (0 : Int) ≤ (q : Int) := by omega
    have g4 : (q : Int) ≤ (s.size : Int) := by omega
    have d1 := decode_ok l1 (by rw [ext0_size s (by omega)]; omega)
    by_cases c : s.size - q < 4
    · refine Ev.step (f := fun k => (utf_Decode.f k (s.extract 0 q)).bind fun b => if b.2.1 = 0 then some true else none) (fun k => ?_) (Ev.bind d1 ?_)
      · simp only [variorumlaw04_UtfFaults.j1]
        have g5 : wrap64 ((s.size : Int) - (q : Int)) < 4 := by rw [wrap_small (by omega)]; omega
        rw [if_neg (by decide), if_pos g3, if_pos g4, Int.toNat_natCast]
        simp only [if_pos g5]
      · exact Ev.now _
    · have l2 : Ls (s ++ m) 0 cs ps q := h.same (by rw [app_size]; omega) (fun j hj => g_app_left s m (by omega))
      have b2 : Utf8.decode (s ++ m) q = (65533, 1) := by
        have hb' := hb
        rw [Lib.decode_at] at hb' ⊢
        have hq0 := g_app_left s m (j := q) (by omega)
        have hq1 := g_app_left s m (j := q + 1) (by omega)
        have hq2 := g_app_left s m (j := q + 2) (by omega)
        have hq3 := g_app_left s m (j := q + 3) (by omega)
        unfold g at hq0 hq1 hq2 hq3
        rw [hq0, hq1, hq2, hq3]
        have := bad_stays (n := s.size - q) (m := (s ++ m).size - q) (by omega) (by rw [app_size]; omega) (show bad _ by rw [hb']; exact ⟨rfl, rfl⟩)
        exact Prod.ext this.1 this.2
      have d2 := decode_no l2 (by rw [app_size]; omega) b2 (by rw [app_size]; omega)
      refine Ev.step (f := fun k => (utf_Decode.f k (s.extract 0 q)).bind fun b => if b.2.1 = 0 then ((utf_Decode.f k (s ++ m)).bind fun d => some (d.2.1 == 40 && (d.2.2 == (q : Int)))) else none) (fun k => ?_) (Ev.bind d1 ?_)
      · simp only [variorumlaw04_UtfFaults.j1]
        have g5 : ¬ wrap64 ((s.size : Int) - (q : Int)) < 4 := by rw [wrap_small (by omega)]; omega
        have g6 : s.size + m.size ≤ 9223372036854775807 := by omega
        rw [if_neg (by decide), if_pos g3, if_pos g4, Int.toNat_natCast]
        simp only [if_neg g5, if_pos g6]
      · simp only [if_true]
        refine Ev.bind d2 ?_
        simp only [beq_self_eq_true, Bool.and_self]
        exact Ev.now _
end Go.Proofs.YtbcbiigjgofagaaDoor.Pure

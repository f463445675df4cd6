/- UtfParts, where what comes in is of bulk at most 1048576: of two texts, one behind the other, letters are those of the one, and then of the other one; they begin where they did, behind the first one's bytes. -/
import Derived.Test.YtbcbiigjgofagaaDoorPUtx6
import Derived.Test.YtbcbiigjgofagaaDoorULib
namespace Go.Proofs.YtbcbiigjgofagaaDoor.Pure
set_option linter.unusedVariables false
set_option linter.unusedSimpArgs false
open Go Go.RowKit Go.Proofs.YtbcbiigjgofagaaDoor.PUt Go.Proofs.YtbcbiigjgofagaaDoorW.PrintWords Go.Proofs.YtbcbiigjgofagaaDoorW.PrintLast Go.Proofs.YtbcbiigjgofagaaDoorW.PrintMore Go.Proofs.YtbcbiigjgofagaaDoor.UMath

theorem ls_bound {s : ByteArray} {p q : Nat} {cs ps : List Int} (h : Ls s p cs ps q) (hp : p ≤ s.size) : ∀ x ∈ ps, 0 ≤ x ∧ x < s.size := by
  induction h with
  | nil => intro x hx; cases hx
  | cons h0 h1 hl ih =>
    intro x hx
    have := at_width h0 h1
    rcases List.mem_cons.1 hx with rfl | hx
    · omega
    · exact ih (by omega) x hx
/-- Both texts' letters. -/
theorem both {s t : ByteArray} {cs ps ds qs : List Int} {q : Nat} (h : Ls s 0 cs ps s.size) (h2 : Ls t 0 ds qs q) (hq : q ≤ t.size) : Ls (s ++ t) 0 (cs ++ ds) (ps ++ qs.map fun x => (s.size : Int) + x) (s.size + q) :=
  (h.same (by rw [app_size]; omega) (fun j hj => g_app_left s t hj)).app (by
    have := h2.shift (t := s ++ t) (m := s.size) (app_size s t) (fun j _ => g_app_right s t j)
    simpa using this)
section
variable (s : ByteArray) (cs ds es : List Int) (ps qs zs : List Int) (a b : Int)
theorem parts_loop (hs : s.size ≤ 1000000000) (hqs : qs.length ≤ 1000000000) (hq : ∀ x ∈ qs, 0 ≤ x ∧ x < 1000000000) (hps : ps.length ≤ 1000000000) (hcs : cs.length ≤ 1000000000) (hds : ds.length ≤ 1000000000) (he : es = cs ++ ds) (hz : zs = ps ++ qs.map fun x => (s.size : Int) + x) :
    ∀ (d i : Nat), i + d = qs.length → Ev (fun k => variorumlaw04_UtfParts.l0 k s cs ds es (ps ++ (qs.take i).map fun x => (s.size : Int) + x) qs zs true (i : Int) 0 0) true := by
  intro d
  induction d with
  | zero =>
    intro i hi
    have g1 : ¬ (i : Int) < (qs.length : Int) := by omega
    have e1 : qs.take i = qs := List.take_of_length_le (by omega)
    refine Ev.step (f := fun k => (variorumref04_Runes.f k es es).bind fun t => if t = true then ((variorumref04_Ints.f k zs zs).bind fun t2 => some t2) else none) (fun k => ?_) (Ev.bind (runes_ev es (by rw [he, List.length_append]; omega)) ?_)
    · simp only [variorumlaw04_UtfParts.l0]
      have g2 : ([] : List Int).length + cs.length < 35184372088832 := by simp; omega
      have g3 : cs.length + ds.length < 35184372088832 := by omega
      rw [if_neg g1]
      simp only [if_true, Option.bind_some, if_pos g2, List.nil_append, if_pos g3, ← he, e1, ← hz]
    · simp only [if_true]
      exact Ev.bind (ints_ev zs (by rw [hz, List.length_append, List.length_map]; omega)) (Ev.now _)
  | succ d ih =>
    intro i hi
    have hil : i < qs.length := by omega
    have h := ih (i + 1) (by omega)
    have hx := hq qs[i] (List.getElem_mem hil)
    have e1 : rd qs (i : Int) = qs[i] := by unfold rd; rw [Int.toNat_natCast, List.getD_eq_getElem?_getD, List.getElem?_eq_getElem hil]; rfl
    have e2 : wrap64 ((s.size : Int) + qs[i]) = (s.size : Int) + qs[i] := wrap_small (by omega)
    have e3 : (ps ++ (qs.take i).map fun x => (s.size : Int) + x) ++ [(s.size : Int) + qs[i]] = ps ++ (qs.take (i + 1)).map fun x => (s.size : Int) + x := by
      rw [List.take_succ_eq_append_getElem hil, List.map_append, List.append_assoc]; rfl
    have g1 : (i : Int) < (qs.length : Int) := by omega
    have g2 : (0 : Int) ≤ (i : Int) := by omega
    have g3 : (ps ++ (qs.take i).map fun x => (s.size : Int) + x).length < 17592186044416 := by rw [List.length_append, List.length_map, List.length_take]; omega
    refine Ev.step (fun k => ?_) h
    simp only [variorumlaw04_UtfParts.l0]
    rw [if_pos g1, if_pos g2, if_pos g3, e1, e2, e3, wrap_succ (by omega)]
end
theorem UtfParts : variorumlaw04_UtfParts.Pure := by
  intro s t _ hs _ ht
  refine Ev.rounds (g := fun k => variorumlaw04_UtfParts.f k s t) ?_
  unfold variorumlaw04_UtfParts.f
  have g0 : s.size + t.size ≤ 9223372036854775807 := by omega
  rcases text s with ⟨cs, ps, h⟩ | ⟨cs, ps, q, h, hq, hb⟩
  · have hl := h.len
    refine Ev.bind (decode_ok h (by omega)) ?_
    rcases text t with ⟨ds, qs, h2⟩ | ⟨ds, qs, q, h2, hq, hb⟩
    · have hl2 := h2.len
      refine Ev.bind (decode_ok h2 (by omega)) (Ev.bind fixed_ev ?_)
      simp only [if_true]
      have h3 := both h h2 (Nat.le_refl _)
      rw [← app_size] at h3
      have z : (s ++ t).size ≤ 10000000000000 := by rw [app_size]; omega
      refine Ev.step (f := fun k => (utf_Decode.f k (s ++ t)).bind fun b => ((utf_Starts.f k s).bind fun x => ((utf_Starts.f k t).bind fun y => ((utf_Starts.f k (s ++ t)).bind fun w => variorumlaw04_UtfParts.l0 k s cs ds b.1 x.1 y.1 w.1 w.2 0 b.2.1 b.2.2)))) (fun k => ?_) ?_
      · simp only [variorumlaw04_UtfParts.j0]
        rw [if_neg (by decide), if_pos g0]
        simp only [if_true]
      refine Ev.bind (decode_ok h3 z) (Ev.bind (starts_ok h (by omega)) (Ev.bind (starts_ok h2 (by omega)) (Ev.bind (starts_ok h3 z) ?_)))
      have := parts_loop s cs ds (cs ++ ds) ps qs _ (by omega) (by omega) (fun x hx => by have := ls_bound h2 (by omega) x hx; omega) (by omega) (by omega) (by omega) rfl rfl qs.length 0 (by omega)
      simpa using this
    · refine Ev.bind (decode_no h2 hq hb (by omega)) (Ev.bind fixed_ev ?_)
      simp only [if_true]
      have h3 := both h h2 (by omega)
      have b3 : Utf8.decode (s ++ t) (s.size + q) = (65533, 1) := by rw [dec_app_right]; exact hb
      have d3 := decode_no h3 (by rw [app_size]; omega) b3 (by rw [app_size]; omega)
      refine Ev.step (f := fun k => (utf_Decode.f k (s ++ t)).bind fun b => if (b.2.1 == 40 && (b.2.2 == wrap64 ((s.size : Int) + (q : Int)))) = true then some ((b.1.length : Int) == 0) else none) (fun k => ?_) (Ev.bind d3 ?_)
      · simp only [variorumlaw04_UtfParts.j0]
        rw [if_neg (by decide), if_pos g0]
        rfl
      · have e : wrap64 ((s.size : Int) + (q : Int)) = ((s.size + q : Nat) : Int) := wrap_add (by omega)
        simp only [e, beq_self_eq_true, Bool.and_self, if_true]
        exact Ev.now _
  · refine Ev.bind (decode_no h hq hb (by omega)) ?_
    have key : ∀ r : List Int × Int × Int, Ev (fun k => (variorumlaw04_fixed.f k).bind fun t231 => (if t231 = true then (variorumlaw04_UtfParts.j0 k s t [] r.1 true r.2.1 r.2.2) else (variorumlaw04_UtfParts.j0 k s t [] r.1 true r.2.1 r.2.2))) true := by
      intro r
      refine Ev.bind fixed_ev ?_
      simp only [if_true]
      refine Ev.step (f := fun k => (variorumlaw04_fixed.f k).bind fun t => some t) (fun k => ?_) (Ev.bind fixed_ev (Ev.now _))
      simp only [variorumlaw04_UtfParts.j0, if_true]
    rcases text t with ⟨ds, qs, h2⟩ | ⟨ds, qs, q2, h2, hq2, hb2⟩
    · exact Ev.bind (decode_ok h2 (by omega)) (key _)
    · exact Ev.bind (decode_no h2 hq2 hb2 (by omega)) (key _)
end Go.Proofs.YtbcbiigjgofagaaDoor.Pure

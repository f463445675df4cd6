/- UtfBack, where what comes in is of bulk at most 1048576: letters are decoded from their bytes as they were; bytes that are decoded are encoded as they were; letters begin where the bytes of those ahead of them end. -/
import Derived.Test.YtbcbiigjgofagaaDoorPUtx7
import Derived.Test.YtbcbiigjgofagaaDoorUEnc
import Derived.Test.YtbcbiigjgofagaaDoorOpenB
namespace Go.Proofs.YtbcbiigjgofagaaDoor.Pure
set_option linter.unusedVariables false
set_option linter.unusedSimpArgs false
open Go Go.RowKit Go.Proofs.YtbcbiigjgofagaaDoor.PUt Go.Proofs.YtbcbiigjgofagaaDoorW.PrintWords Go.Proofs.YtbcbiigjgofagaaDoorW.PrintLast Go.Proofs.YtbcbiigjgofagaaDoorW.PrintMore Go.Proofs.YtbcbiigjgofagaaDoor.UMath

theorem bulk_ones (l : List Int) : l.length + 1 ≤ OpenB.bulkOf (fun _ => 1) l := by
  induction l with
  | nil => simp [OpenB.bulkOf]
  | cons x l ih => simp only [OpenB.bulkOf, List.length_cons]; omega
/-- The letters of letters' bytes are those. -/
theorem enc_text {l : List Int} (h : ∀ c ∈ l, letter c) : ∃ ps, Ls (strOfNums (enc l)) 0 l ps (strOfNums (enc l)).size :=
  Ls.of_enc l 0 h (by rw [Nat.zero_add, strOfNums_size]) (by rw [by_str (enc_bytes l)])
theorem text_enc {s : ByteArray} {cs ps : List Int} (h : Ls s 0 cs ps s.size) : strOfNums (enc cs) = s := str_of_by h.enc
theorem back_loop {s : ByteArray} {cs ps : List Int} (h : Ls s 0 cs ps s.size) (hs : s.size ≤ 1000000000) : ∀ (d i : Nat), i + d = cs.length → Ev (fun k => variorumlaw04_UtfBack.l0 k cs ps (i : Int)) true := by
  have hl := h.len
  intro d
  induction d with
  | zero =>
    intro i hi
    refine Ev.step (f := fun _ => some true) (fun k => ?_) (Ev.now _)
    simp only [variorumlaw04_UtfBack.l0]; rw [if_neg (by omega)]
  | succ d ih =>
    intro i hi
    have g1 : (i : Int) < (cs.length : Int) := by omega
    have g2 : (0 : Int) ≤ (i : Int) := by omega
    have g3 : (i : Int) ≤ (cs.length : Int) := by omega
    have g4 : (i : Int) < (ps.length : Int) := by omega
    have hip : i < ps.length := by omega
    have e := h.place i hip
    have ea : ∀ c ∈ cs.take i, letter c := fun c hc => h.letters c (List.mem_of_mem_take hc)
    have et : (cs.take i).length ≤ i := List.length_take_le _ _
    refine Ev.step (f := fun k => (utf_Encode.f k (cs.take i)).bind fun b => (if (rd ps (i : Int)) = (b.1.size : Int) then variorumlaw04_UtfBack.l0 k cs ps (wrap64 ((i : Int) + 1)) else none)) (fun k => ?_) (Ev.bind (encode_ok (by omega) ea) ?_)
    · simp only [variorumlaw04_UtfBack.l0]
      rw [if_pos g1, if_pos g2, if_pos g3, Int.toNat_natCast]
      simp only [if_pos g4]
    · rw [wrap_succ (by omega), rd_at hip, e]
      have e2 : ((0 : Nat) : Int) + ((enc (cs.take i)).length : Int) = ((strOfNums (enc (cs.take i))).size : Int) := by rw [strOfNums_size]; omega
      simp only [e2, if_true]
      exact ih (i + 1) (by omega)
theorem back_j0 (s : ByteArray) (hs : s.size ≤ 1000000000) : Ev (fun k => variorumlaw04_UtfBack.j0 k s false) true := by
  rcases text s with ⟨cs, ps, h⟩ | ⟨cs, ps, q, h, hq, hb⟩
  · have hl := h.len
    have hn : ((ps.length : Int) != (cs.length : Int)) = false := by rw [hl.1]; simp
    refine Ev.step (f := fun k => (utf_Decode.f k s).bind fun b => if b.2.1 = 0 then ((utf_Encode.f k b.1).bind fun c => ((utf_Starts.f k s).bind fun d => (if c.2 = true then (if c.1.toList = s.toList then (if d.2 = true then (variorumlaw04_UtfBack.j1 k b.1 d.1 ((d.1.length : Int) != (b.1.length : Int))) else (variorumlaw04_UtfBack.j1 k b.1 d.1 true)) else (variorumlaw04_UtfBack.j1 k b.1 d.1 true)) else (variorumlaw04_UtfBack.j1 k b.1 d.1 true)))) else some true) (fun k => ?_) (Ev.bind (decode_ok h (by omega)) ?_)
    · simp only [variorumlaw04_UtfBack.j0]
      rw [if_neg (by decide)]
    · simp only [if_true]
      refine Ev.bind (encode_ok (by omega) h.letters) (Ev.bind (starts_ok h (by omega)) ?_)
      rw [text_enc h]
      simp only [if_true, hn]
      refine Ev.step (f := fun k => variorumlaw04_UtfBack.l0 k cs ps 0) (fun k => ?_) (back_loop h hs cs.length 0 (by omega))
      simp only [variorumlaw04_UtfBack.j1]
      rw [if_neg (by decide)]
  · refine Ev.step (f := (fun k => (utf_Decode.f k s).bind fun b => if b.2.1 = 0 then ((utf_Encode.f k b.1).bind fun c => ((utf_Starts.f k s).bind fun d => (if c.2 = true then (if c.1.toList = s.toList then (if d.2 = true then (variorumlaw04_UtfBack.j1 k b.1 d.1 ((d.1.length : Int) != (b.1.length : Int))) else (variorumlaw04_UtfBack.j1 k b.1 d.1 true)) else (variorumlaw04_UtfBack.j1 k b.1 d.1 true)) else (variorumlaw04_UtfBack.j1 k b.1 d.1 true)))) else some true)) (fun k => ?_) (Ev.bind (decode_no h hq hb (by omega)) ?_)
    · simp only [variorumlaw04_UtfBack.j0]
      rw [if_neg (by decide)]
    · simp only [show ¬ (40 : Int) = 0 by decide, if_false]
      exact Ev.now _
theorem UtfBack : variorumlaw04_UtfBack.Pure := by
  intro l s hl hk _ hs
  refine Ev.rounds (g := fun k => variorumlaw04_UtfBack.f k l s) ?_
  have hn := bulk_ones l
  unfold variorumlaw04_UtfBack.f
  by_cases ha : ∀ c ∈ l, letter c
  · obtain ⟨ps, h⟩ := enc_text ha
    have he := (enc_length l).2
    have hz : (strOfNums (enc l)).size ≤ 10000000000000 := by rw [strOfNums_size]; omega
    refine Ev.bind (encode_ok hl.1 ha) (Ev.bind (decode_ok h hz) (Ev.bind fixed_ev ?_))
    simp only [if_true]
    refine Ev.bind (runes_ev l (by omega)) ?_
    exact back_j0 s (by omega)
  · have e : encd l = (⟨#[]⟩, false) := by unfold encd; rw [if_neg ha]
    have h0 := encode_ev l hl.1
    rw [e] at h0
    have h1 : Ls (⟨#[]⟩ : ByteArray) 0 [] [] (⟨#[]⟩ : ByteArray).size := .nil 0
    refine Ev.bind h0 (Ev.bind (decode_ok h1 (by decide)) (Ev.bind fixed_ev ?_))
    simp only [if_true]
    exact back_j0 s (by omega)
end Go.Proofs.YtbcbiigjgofagaaDoor.Pure

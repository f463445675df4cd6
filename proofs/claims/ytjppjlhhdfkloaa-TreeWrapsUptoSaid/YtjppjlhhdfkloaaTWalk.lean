/- The walk over nodes with each of its closures: what it tells. -/
import Derived.Test.YtjppjlhhdfkloaaTMay
namespace Go.Proofs.Ytjppjlhhdfkloaa.Pure
set_option linter.unusedVariables false
set_option linter.unusedSimpArgs false
open Go.RowKit Go.Proofs.Ytjppjlhhdfkloaa.PTp Go.Proofs.YtjppjlhhdfkloaaW.PrintWords Go.Proofs.YtjppjlhhdfkloaaW.PrintLast Go.Proofs.YtjppjlhhdfkloaaW.PrintMore

def EW (K : Int) (n : S38) : List ByteArray := if K = 0 then [n.f1] else []
def EF (K : Int) (n : S38) : List S44 := [⟨K, (if K = 0 then n.f1 else if K = 1 then n.f1 else (⟨#[]⟩ : ByteArray)), n.f3⟩]
theorem tellW (K : Int) (n : S38) (xs : List ByteArray) (h : xs.length < 4398046511104) : tWords.tell K n xs = some (xs ++ EW K n) := by
  unfold tWords.tell EW
  by_cases c : K = 0
  · rw [if_pos c, if_pos c, if_pos (by omega)]
  · rw [if_neg c, if_neg c, List.append_nil]
theorem tellF (K : Int) (n : S38) (xs : List S44) (h : xs.length < 4398046511104) : tFlat.tell K n xs = some (xs ++ EF K n) := by
  unfold tFlat.tell EF
  rw [if_pos h]

/-! ## tWords -/
theorem tWords_l1 {d : Nat} (hd : d < 100) (ih : ∀ g, SM g → ∀ xs : List ByteArray, xs.length + (GT EW d g).length < 4398046511104 → Ev (fun k => tWords.f k g (d : Int) xs) (xs ++ GT EW d g)) {l : List S38} (hl : SM l) {i : Nat} (hi : i < l.length) {r : List ByteArray} :
    ∀ (c j : Nat) (xs : List ByteArray), j + c = l[i].f2.length → xs.length + ((l[i].f2.drop j).flatMap (fun g => EW 2 l[i] ++ (GT EW d g ++ EW 3 l[i]))).length < 4398046511104 → Ev (fun k => tWords.l0 k l ((d + 1 : Nat) : Int) (xs ++ (l[i].f2.drop j).flatMap (fun g => EW 2 l[i] ++ (GT EW d g ++ EW 3 l[i]))) ((i + 1 : Nat) : Int)) r → Ev (fun k => tWords.l1 k l ((d + 1 : Nat) : Int) xs (i : Int) (j : Int)) r
  | 0, j, xs => fun hj hs h => by
    have hll := hl.len
    rw [List.drop_eq_nil_of_le (by omega)] at h
    simp only [List.flatMap_nil, List.append_nil] at h
    refine Ev.step (fun k => ?_) h
    simp only [tWords.l1, rd38 hi]
    rw [if_neg (by omega), succ_w i (by omega)]
  | c + 1, j, xs => fun hj hs h => by
    have hjl : j < l[i].f2.length := by omega
    have hll := hl.len
    have hl2 := hl.args _ (List.getElem_mem hi)
    rw [List.drop_eq_getElem_cons hjl, List.flatMap_cons] at hs h
    simp only [List.length_append] at hs
    have e1 : wrap64 (((d + 1 : Nat) : Int) - 1) = (d : Int) := by rw [wrap_small (by omega)]; omega
    have nx := tWords_l1 hd ih hl hi c (j + 1) (xs ++ EW 2 l[i] ++ GT EW d l[i].f2[j] ++ EW 3 l[i]) (by omega) (by simp only [List.length_append]; omega) (by simpa only [List.append_assoc] using h)
    have t2 := tellW 2 l[i] xs (by omega)
    have t3 := tellW 3 l[i] (xs ++ EW 2 l[i] ++ GT EW d l[i].f2[j]) (by simp only [List.length_append]; omega)
    have b1 := ih _ (hl.sub _ (List.getElem_mem hi) _ (List.getElem_mem hjl)) (xs ++ EW 2 l[i]) (by simp only [List.length_append]; omega)
    refine Ev.step (f := fun k => (tWords.f k l[i].f2[j] (d : Int) (xs ++ EW 2 l[i])).bind fun x2 => (tWords.tell 3 l[i] x2).bind fun x3 => tWords.l1 k l ((d + 1 : Nat) : Int) x3 (i : Int) ((j + 1 : Nat) : Int)) (fun k => ?_) (Ev.bind b1 ?_)
    · simp only [tWords.l1, rd38 hi, rdL5 hjl, t2, Option.bind_some]
      rw [if_pos (by omega), if_pos (by omega), succ_w j (by omega), e1]
    · simp only [t3, Option.bind_some]
      exact nx
theorem tWords_z {l : List S38} (hl : SM l) : ∀ (c i : Nat) (xs : List ByteArray), i + c = l.length → xs.length + (GT EW 0 (l.drop i)).length < 4398046511104 → Ev (fun k => tWords.l0 k l ((0 : Nat) : Int) xs (i : Int)) (xs ++ GT EW 0 (l.drop i))
  | 0, i, xs => fun hi hs => by
    rw [List.drop_eq_nil_of_le (by omega)]
    simp only [GT, List.flatMap_nil, List.append_nil]
    refine Ev.step (f := fun _ => some xs) (fun k => ?_) (Ev.now _)
    simp only [tWords.l0]
    rw [if_neg (by omega)]
  | c + 1, i, xs => fun hi hs => by
    have hil : i < l.length := by omega
    have hll := hl.len
    have e : GT EW 0 (l.drop i) = (if l[i].f0 = true then EW 1 l[i] else EW 0 l[i]) ++ GT EW 0 (l.drop (i + 1)) := by
      rw [List.drop_eq_getElem_cons hil]; simp only [GT, List.flatMap_cons]
    rw [e, List.length_append] at hs
    rw [e, ← List.append_assoc]
    have nx := tWords_z hl c (i + 1) (xs ++ (if l[i].f0 = true then EW 1 l[i] else EW 0 l[i])) (by omega) (by rw [List.length_append]; omega)
    refine Ev.step (fun k => ?_) nx
    simp only [tWords.l0, rd38 hil]
    rw [if_pos (by omega), if_pos (by omega)]
    by_cases c : l[i].f0 = true
    · rw [if_pos c, if_pos c, tellW 1 l[i] xs (by omega)]
      simp only [Option.bind_some]
      rw [if_pos (by rfl), succ_w i (by omega)]
    · rw [if_neg c, if_neg c, tellW 0 l[i] xs (by omega)]
      simp only [Option.bind_some]
      rw [succ_w i (by omega)]
theorem tWords_s {d : Nat} (hd : d < 100) (ih : ∀ g, SM g → ∀ xs : List ByteArray, xs.length + (GT EW d g).length < 4398046511104 → Ev (fun k => tWords.f k g (d : Int) xs) (xs ++ GT EW d g)) {l : List S38} (hl : SM l) : ∀ (c i : Nat) (xs : List ByteArray), i + c = l.length → xs.length + (GT EW (d + 1) (l.drop i)).length < 4398046511104 → Ev (fun k => tWords.l0 k l ((d + 1 : Nat) : Int) xs (i : Int)) (xs ++ GT EW (d + 1) (l.drop i))
  | 0, i, xs => fun hi hs => by
    rw [List.drop_eq_nil_of_le (by omega)]
    simp only [GT, List.flatMap_nil, List.append_nil]
    refine Ev.step (f := fun _ => some xs) (fun k => ?_) (Ev.now _)
    simp only [tWords.l0]
    rw [if_neg (by omega)]
  | c + 1, i, xs => fun hi hs => by
    have hil : i < l.length := by omega
    have hll := hl.len
    have e : GT EW (d + 1) (l.drop i) = (if l[i].f0 = true then EW 1 l[i] ++ l[i].f2.flatMap (fun g => EW 2 l[i] ++ (GT EW d g ++ EW 3 l[i])) else EW 0 l[i]) ++ GT EW (d + 1) (l.drop (i + 1)) := by
      rw [List.drop_eq_getElem_cons hil, GT, List.flatMap_cons]; rfl
    rw [e, List.length_append] at hs
    rw [e, ← List.append_assoc]
    by_cases q : l[i].f0 = true
    · rw [if_pos q] at hs ⊢
      rw [List.length_append] at hs
      have nx := tWords_s hd ih hl c (i + 1) (xs ++ (EW 1 l[i] ++ l[i].f2.flatMap (fun g => EW 2 l[i] ++ (GT EW d g ++ EW 3 l[i])))) (by omega) (by simp only [List.length_append]; omega)
      rw [← List.append_assoc] at nx ⊢
      have h1 := tWords_l1 hd ih hl hil l[i].f2.length 0 (xs ++ EW 1 l[i]) (by omega) (by rw [List.drop_zero, List.length_append]; omega) (by rw [List.drop_zero]; exact nx)
      refine Ev.step (fun k => ?_) h1
      simp only [tWords.l0, rd38 hil]
      rw [if_pos (by omega), if_pos (by omega), if_pos q, tellW 1 l[i] xs (by omega)]
      simp only [Option.bind_some]
      rw [if_neg (by omega)]; rfl
    · rw [if_neg q] at hs ⊢
      have nx := tWords_s hd ih hl c (i + 1) (xs ++ EW 0 l[i]) (by omega) (by rw [List.length_append]; omega)
      refine Ev.step (fun k => ?_) nx
      simp only [tWords.l0, rd38 hil]
      rw [if_pos (by omega), if_pos (by omega), if_neg q, tellW 0 l[i] xs (by omega)]
      simp only [Option.bind_some]
      rw [succ_w i (by omega)]
theorem tWords_ev : ∀ (d : Nat), d ≤ 100 → ∀ l, SM l → ∀ xs : List ByteArray, xs.length + (GT EW d l).length < 4398046511104 → Ev (fun k => tWords.f k l (d : Int) xs) (xs ++ GT EW d l)
  | 0 => fun _ l hl xs hs => by
    have h := tWords_z hl l.length 0 xs (by omega) (by rw [List.drop_zero]; exact hs)
    rw [List.drop_zero] at h
    exact Ev.step (fun k => by simp only [tWords.f]; rfl) h
  | d + 1 => fun hd l hl xs hs => by
    have h := tWords_s (by omega) (tWords_ev d (by omega)) hl l.length 0 xs (by omega) (by rw [List.drop_zero]; exact hs)
    rw [List.drop_zero] at h
    exact Ev.step (fun k => by simp only [tWords.f]; rfl) h

/-! ## tFlat -/
theorem tFlat_l1 {d : Nat} (hd : d < 100) (ih : ∀ g, SM g → ∀ xs : List S44, xs.length + (GT EF d g).length < 4398046511104 → Ev (fun k => tFlat.f k g (d : Int) xs) (xs ++ GT EF d g)) {l : List S38} (hl : SM l) {i : Nat} (hi : i < l.length) {r : List S44} :
    ∀ (c j : Nat) (xs : List S44), j + c = l[i].f2.length → xs.length + ((l[i].f2.drop j).flatMap (fun g => EF 2 l[i] ++ (GT EF d g ++ EF 3 l[i]))).length < 4398046511104 → Ev (fun k => tFlat.l0 k l ((d + 1 : Nat) : Int) (xs ++ (l[i].f2.drop j).flatMap (fun g => EF 2 l[i] ++ (GT EF d g ++ EF 3 l[i]))) ((i + 1 : Nat) : Int)) r → Ev (fun k => tFlat.l1 k l ((d + 1 : Nat) : Int) xs (i : Int) (j : Int)) r
  | 0, j, xs => fun hj hs h => by
    have hll := hl.len
    rw [List.drop_eq_nil_of_le (by omega)] at h
    simp only [List.flatMap_nil, List.append_nil] at h
    refine Ev.step (fun k => ?_) h
    simp only [tFlat.l1, rd38 hi]
    rw [if_neg (by omega), succ_w i (by omega)]
  | c + 1, j, xs => fun hj hs h => by
    have hjl : j < l[i].f2.length := by omega
    have hll := hl.len
    have hl2 := hl.args _ (List.getElem_mem hi)
    rw [List.drop_eq_getElem_cons hjl, List.flatMap_cons] at hs h
    simp only [List.length_append] at hs
    have e1 : wrap64 (((d + 1 : Nat) : Int) - 1) = (d : Int) := by rw [wrap_small (by omega)]; omega
    have nx := tFlat_l1 hd ih hl hi c (j + 1) (xs ++ EF 2 l[i] ++ GT EF d l[i].f2[j] ++ EF 3 l[i]) (by omega) (by simp only [List.length_append]; omega) (by simpa only [List.append_assoc] using h)
    have t2 := tellF 2 l[i] xs (by omega)
    have t3 := tellF 3 l[i] (xs ++ EF 2 l[i] ++ GT EF d l[i].f2[j]) (by simp only [List.length_append]; omega)
    have b1 := ih _ (hl.sub _ (List.getElem_mem hi) _ (List.getElem_mem hjl)) (xs ++ EF 2 l[i]) (by simp only [List.length_append]; omega)
    refine Ev.step (f := fun k => (tFlat.f k l[i].f2[j] (d : Int) (xs ++ EF 2 l[i])).bind fun x2 => (tFlat.tell 3 l[i] x2).bind fun x3 => tFlat.l1 k l ((d + 1 : Nat) : Int) x3 (i : Int) ((j + 1 : Nat) : Int)) (fun k => ?_) (Ev.bind b1 ?_)
    · simp only [tFlat.l1, rd38 hi, rdL5 hjl, t2, Option.bind_some]
      rw [if_pos (by omega), if_pos (by omega), succ_w j (by omega), e1]
    · simp only [t3, Option.bind_some]
      exact nx
theorem tFlat_z {l : List S38} (hl : SM l) : ∀ (c i : Nat) (xs : List S44), i + c = l.length → xs.length + (GT EF 0 (l.drop i)).length < 4398046511104 → Ev (fun k => tFlat.l0 k l ((0 : Nat) : Int) xs (i : Int)) (xs ++ GT EF 0 (l.drop i))
  | 0, i, xs => fun hi hs => by
    rw [List.drop_eq_nil_of_le (by omega)]
    simp only [GT, List.flatMap_nil, List.append_nil]
    refine Ev.step (f := fun _ => some xs) (fun k => ?_) (Ev.now _)
    simp only [tFlat.l0]
    rw [if_neg (by omega)]
  | c + 1, i, xs => fun hi hs => by
    have hil : i < l.length := by omega
    have hll := hl.len
    have e : GT EF 0 (l.drop i) = (if l[i].f0 = true then EF 1 l[i] else EF 0 l[i]) ++ GT EF 0 (l.drop (i + 1)) := by
      rw [List.drop_eq_getElem_cons hil]; simp only [GT, List.flatMap_cons]
    rw [e, List.length_append] at hs
    rw [e, ← List.append_assoc]
    have nx := tFlat_z hl c (i + 1) (xs ++ (if l[i].f0 = true then EF 1 l[i] else EF 0 l[i])) (by omega) (by rw [List.length_append]; omega)
    refine Ev.step (fun k => ?_) nx
    simp only [tFlat.l0, rd38 hil]
    rw [if_pos (by omega), if_pos (by omega)]
    by_cases c : l[i].f0 = true
    · rw [if_pos c, if_pos c, tellF 1 l[i] xs (by omega)]
      simp only [Option.bind_some]
      rw [if_pos (by rfl), succ_w i (by omega)]
    · rw [if_neg c, if_neg c, tellF 0 l[i] xs (by omega)]
      simp only [Option.bind_some]
      rw [succ_w i (by omega)]
theorem tFlat_s {d : Nat} (hd : d < 100) (ih : ∀ g, SM g → ∀ xs : List S44, xs.length + (GT EF d g).length < 4398046511104 → Ev (fun k => tFlat.f k g (d : Int) xs) (xs ++ GT EF d g)) {l : List S38} (hl : SM l) : ∀ (c i : Nat) (xs : List S44), i + c = l.length → xs.length + (GT EF (d + 1) (l.drop i)).length < 4398046511104 → Ev (fun k => tFlat.l0 k l ((d + 1 : Nat) : Int) xs (i : Int)) (xs ++ GT EF (d + 1) (l.drop i))
  | 0, i, xs => fun hi hs => by
    rw [List.drop_eq_nil_of_le (by omega)]
    simp only [GT, List.flatMap_nil, List.append_nil]
    refine Ev.step (f := fun _ => some xs) (fun k => ?_) (Ev.now _)
    simp only [tFlat.l0]
    rw [if_neg (by omega)]
  | c + 1, i, xs => fun hi hs => by
    have hil : i < l.length := by omega
    have hll := hl.len
    have e : GT EF (d + 1) (l.drop i) = (if l[i].f0 = true then EF 1 l[i] ++ l[i].f2.flatMap (fun g => EF 2 l[i] ++ (GT EF d g ++ EF 3 l[i])) else EF 0 l[i]) ++ GT EF (d + 1) (l.drop (i + 1)) := by
      rw [List.drop_eq_getElem_cons hil, GT, List.flatMap_cons]; rfl
    rw [e, List.length_append] at hs
    rw [e, ← List.append_assoc]
    by_cases q : l[i].f0 = true
    · rw [if_pos q] at hs ⊢
      rw [List.length_append] at hs
      have nx := tFlat_s hd ih hl c (i + 1) (xs ++ (EF 1 l[i] ++ l[i].f2.flatMap (fun g => EF 2 l[i] ++ (GT EF d g ++ EF 3 l[i])))) (by omega) (by simp only [List.length_append]; omega)
      rw [← List.append_assoc] at nx ⊢
      have h1 := tFlat_l1 hd ih hl hil l[i].f2.length 0 (xs ++ EF 1 l[i]) (by omega) (by rw [List.drop_zero, List.length_append]; omega) (by rw [List.drop_zero]; exact nx)
      refine Ev.step (fun k => ?_) h1
      simp only [tFlat.l0, rd38 hil]
      rw [if_pos (by omega), if_pos (by omega), if_pos q, tellF 1 l[i] xs (by omega)]
      simp only [Option.bind_some]
      rw [if_neg (by omega)]; rfl
    · rw [if_neg q] at hs ⊢
      have nx := tFlat_s hd ih hl c (i + 1) (xs ++ EF 0 l[i]) (by omega) (by rw [List.length_append]; omega)
      refine Ev.step (fun k => ?_) nx
      simp only [tFlat.l0, rd38 hil]
      rw [if_pos (by omega), if_pos (by omega), if_neg q, tellF 0 l[i] xs (by omega)]
      simp only [Option.bind_some]
      rw [succ_w i (by omega)]
theorem tFlat_ev : ∀ (d : Nat), d ≤ 100 → ∀ l, SM l → ∀ xs : List S44, xs.length + (GT EF d l).length < 4398046511104 → Ev (fun k => tFlat.f k l (d : Int) xs) (xs ++ GT EF d l)
  | 0 => fun _ l hl xs hs => by
    have h := tFlat_z hl l.length 0 xs (by omega) (by rw [List.drop_zero]; exact hs)
    rw [List.drop_zero] at h
    exact Ev.step (fun k => by simp only [tFlat.f]; rfl) h
  | d + 1 => fun hd l hl xs hs => by
    have h := tFlat_s (by omega) (tFlat_ev d (by omega)) hl l.length 0 xs (by omega) (by rw [List.drop_zero]; exact hs)
    rw [List.drop_zero] at h
    exact Ev.step (fun k => by simp only [tFlat.f]; rfl) h

theorem Words_ev {l : List S38} {n : Nat} (h : NBk (.inl l) n) (hn : n ≤ 4194304) : Ev (fun k => tree_Words.f k l) (GT EW 100 l) := by
  have hl := gt_len EW (fun K x => by unfold EW; split <;> simp) h 100
  have := tWords_ev 100 (Nat.le_refl _) l (nbk_sm h hn).2 [] (by simp only [List.length_nil]; omega)
  rw [List.nil_append] at this
  exact this
theorem Flat_ev {l : List S38} {n : Nat} (h : NBk (.inl l) n) (hn : n ≤ 4194304) : Ev (fun k => tree_Flat.f k l) (GT EF 100 l) := by
  have hl := gt_len EF (fun K x => by unfold EF; simp) h 100
  have := tFlat_ev 100 (Nat.le_refl _) l (nbk_sm h hn).2 [] (by simp only [List.length_nil]; omega)
  rw [List.nil_append] at this
  exact this
theorem Flat_evS {l : List S38} (h : SM l) (hn : (GT EF 100 l).length < 4398046511104) : Ev (fun k => tree_Flat.f k l) (GT EF 100 l) := by
  have := tFlat_ev 100 (Nat.le_refl _) l h [] (by simp only [List.length_nil]; omega)
  rw [List.nil_append] at this
  exact this
end Go.Proofs.Ytjppjlhhdfkloaa.Pure

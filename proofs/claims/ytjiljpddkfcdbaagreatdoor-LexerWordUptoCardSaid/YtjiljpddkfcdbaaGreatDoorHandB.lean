/- The lexer's own small functions (letter, next, command, word, name) and strings.ContainsAny at the four blanks, walked: each returns what the plain function beside it says, and leaves what was there as it was. Conditions: those of each theorem, on sizes alone; the program is the given one. -/
import Derived.Test.YtjiljpddkfcdbaaGreatDoorHandA
import Derived.Deep.QuietTactic
import Derived.BigQuiet
import Derived.Laws.RangeAny
import Derived.Lib.IndexAny
import Derived.WalkMore
namespace Go.Proofs.YtjiljpddkfcdbaaGreatDoor.PLx
open Go.RowKit Go.Proofs.YtjiljpddkfcdbaaGreatDoorW.PrintWords Go.Proofs.YtjiljpddkfcdbaaGreatDoorW.PrintLast Go.Proofs.YtjiljpddkfcdbaaGreatDoorW.PrintMore
set_option linter.unusedVariables false
set_option linter.unusedSimpArgs false
/-! the lexer's small functions -/
def cls (c : UInt8) : Nat := if c = 9 ∨ c = 10 ∨ c = 13 ∨ c = 32 then 1 else if c = 37 then 2 else if c = 123 ∨ c = 125 then 3 else if c = 92 then 4 else 0
def isLetter (c : UInt8) : Bool := decide (97 ≤ c.toNat ∧ c.toNat ≤ 122 ∨ 65 ≤ c.toNat ∧ c.toNat ≤ 90)
def escd (c : UInt8) : Option ByteArray := if c = 45 then some ⟨#[194, 173]⟩ else if c = 92 ∨ c = 123 ∨ c = 125 ∨ c = 37 then some ⟨#[c]⟩ else none
theorem ne_int {c : UInt8} {n : Nat} (d : UInt8) (hd : d.toNat = n) (h : c ≠ d) : ¬ ((c.toNat : Int) = (n : Int)) := fun e => h (UInt8.toNat_inj.1 (by omega))
theorem of_calls (c : UInt8) (w : World) : Calls Tryz.prog 25 #[.int .u8 (c.toNat : Int)] w fun e w' => e = .returned (.int .i64 (cls c : Nat)) ∧ w' = w := by
  by_cases h0 : c = 9
  · subst h0; go_enter Tryz.func25, Tryz.ntmps25; go_wp2; go_ret; exact ⟨rfl, rfl⟩
  by_cases h1 : c = 10
  · subst h1; go_enter Tryz.func25, Tryz.ntmps25; go_wp2; go_ret; exact ⟨rfl, rfl⟩
  by_cases h2 : c = 13
  · subst h2; go_enter Tryz.func25, Tryz.ntmps25; go_wp2; go_ret; exact ⟨rfl, rfl⟩
  by_cases h3 : c = 32
  · subst h3; go_enter Tryz.func25, Tryz.ntmps25; go_wp2; go_ret; exact ⟨rfl, rfl⟩
  by_cases h4 : c = 37
  · subst h4; go_enter Tryz.func25, Tryz.ntmps25; go_wp2; go_ret; exact ⟨rfl, rfl⟩
  by_cases h5 : c = 123
  · subst h5; go_enter Tryz.func25, Tryz.ntmps25; go_wp2; go_ret; exact ⟨rfl, rfl⟩
  by_cases h6 : c = 125
  · subst h6; go_enter Tryz.func25, Tryz.ntmps25; go_wp2; go_ret; exact ⟨rfl, rfl⟩
  by_cases h7 : c = 92
  · subst h7; go_enter Tryz.func25, Tryz.ntmps25; go_wp2; go_ret; exact ⟨rfl, rfl⟩
  have hc : cls c = 0 := by simp [cls, h0, h1, h2, h3, h4, h5, h6, h7]
  have n0 := ne_int (n := 9) 9 rfl h0
  have n1 := ne_int (n := 10) 10 rfl h1
  have n2 := ne_int (n := 13) 13 rfl h2
  have n3 := ne_int (n := 32) 32 rfl h3
  have n4 := ne_int (n := 37) 37 rfl h4
  have n5 := ne_int (n := 123) 123 rfl h5
  have n6 := ne_int (n := 125) 125 rfl h6
  have n7 := ne_int (n := 92) 92 rfl h7
  rw [hc]
  clear h0 h1 h2 h3 h4 h5 h6 h7 hc
  go_enter Tryz.func25, Tryz.ntmps25
  go_wp2
  go_ret
  exact ⟨rfl, rfl⟩
theorem letter_calls (c : UInt8) (w : World) : Calls Tryz.prog 26 #[.int .u8 (c.toNat : Int)] w fun e w' => e = .returned (.bool (isLetter c)) ∧ w' = w := by
  unfold isLetter
  obtain ⟨n, hn⟩ : ∃ n, c.toNat = n := ⟨_, rfl⟩
  rw [hn]
  clear hn c
  by_cases h1 : 97 ≤ n
  · have h1' : (97 : Int) ≤ (n : Int) := by omega
    by_cases h2 : n ≤ 122
    · have h2' : (n : Int) ≤ 122 := by omega
      rw [show decide (97 ≤ n ∧ n ≤ 122 ∨ 65 ≤ n ∧ n ≤ 90) = true by simp; omega]
      clear h1 h2
      go_enter Tryz.func26, Tryz.ntmps26; go_wp2; go_ret; exact ⟨rfl, rfl⟩
    · have h2' : ¬ (n : Int) ≤ 122 := by omega
      have h3' : (65 : Int) ≤ (n : Int) := by omega
      have h4' : ¬ (n : Int) ≤ 90 := by omega
      rw [show decide (97 ≤ n ∧ n ≤ 122 ∨ 65 ≤ n ∧ n ≤ 90) = false by simp; omega]
      clear h1 h2
      go_enter Tryz.func26, Tryz.ntmps26; go_wp2; go_ret; exact ⟨rfl, rfl⟩
  · have h1' : ¬ (97 : Int) ≤ (n : Int) := by omega
    by_cases h3 : 65 ≤ n
    · have h3' : (65 : Int) ≤ (n : Int) := by omega
      by_cases h4 : n ≤ 90
      · have h4' : (n : Int) ≤ 90 := by omega
        rw [show decide (97 ≤ n ∧ n ≤ 122 ∨ 65 ≤ n ∧ n ≤ 90) = true by simp; omega]
        clear h1 h3 h4
        go_enter Tryz.func26, Tryz.ntmps26; go_wp2; go_ret; exact ⟨rfl, rfl⟩
      · have h4' : ¬ (n : Int) ≤ 90 := by omega
        rw [show decide (97 ≤ n ∧ n ≤ 122 ∨ 65 ≤ n ∧ n ≤ 90) = false by simp; omega]
        clear h1 h3 h4
        go_enter Tryz.func26, Tryz.ntmps26; go_wp2; go_ret; exact ⟨rfl, rfl⟩
    · have h3' : ¬ (65 : Int) ≤ (n : Int) := by omega
      rw [show decide (97 ≤ n ∧ n ≤ 122 ∨ 65 ≤ n ∧ n ≤ 90) = false by simp; omega]
      clear h1 h3
      go_enter Tryz.func26, Tryz.ntmps26; go_wp2; go_ret; exact ⟨rfl, rfl⟩
/-- The reader's block. -/
def Rdr (rb : Nat) (s : ByteArray) (i : Nat) (w : World) : Prop := w.heap[rb]? = some (.cells #[.string s, .int .i64 (i : Int)] 47 (0, 0))
def nextb (s : ByteArray) (i : Nat) : UInt8 := (s.data.toList[i + 1]?).getD 0
set_option maxHeartbeats 2000000 in
set_option maxRecDepth 100000 in
theorem more_calls (rb : Nat) (s : ByteArray) (i : Nat) (w : World) (h : Rdr rb s i w) : Calls Tryz.prog 24 #[.pointer (some ⟨rb, 0, none⟩)] w fun e w' => e = .returned (.bool (decide (i < s.size))) ∧ w' = w.drew := by
  have c0 : w.cell? ⟨rb, 0, none⟩ = some (.string s) := by rw [blk_cell h]; rfl
  have c1 : w.cell? ⟨rb, 1, none⟩ = some (.int .i64 (i : Int)) := by rw [blk_cell h]; rfl
  have hlt := blk_lt h
  clear h
  go_enter Tryz.func24, Tryz.ntmps24
  go_wp2
  go_still_tail 10, (by kernel_rfl)
  change wpList _ _ _ _ _ w.drew
  go_wp2
  go_ret
  exact ⟨rfl, rfl⟩
set_option maxHeartbeats 2000000 in
set_option maxRecDepth 100000 in
theorem next_calls (rb : Nat) (s : ByteArray) (i : Nat) (hi : i + 1 ≤ 9223372036854775807) (w : World) (h : Rdr rb s i w) : Calls Tryz.prog 27 #[.pointer (some ⟨rb, 0, none⟩)] w fun e w' => e = .returned (.int .u8 ((nextb s i).toNat : Int)) ∧ ∃ m, w' = w.drewN m := by
  have c0 : w.cell? ⟨rb, 0, none⟩ = some (.string s) := by rw [blk_cell h]; rfl
  have c1 : w.cell? ⟨rb, 1, none⟩ = some (.int .i64 (i : Int)) := by rw [blk_cell h]; rfl
  have hlt := blk_lt h
  clear h
  have hw1 : IntKind.i64.wrap ((i : Int) + 1) = (i : Int) + 1 := by simp [IntKind.wrap_i64]; omega
  have hw2 : wrap64 ((i : Int) + 1) = (i : Int) + 1 := by unfold wrap64; omega
  by_cases hn : i + 1 < s.size
  · have hn' : (i : Int) + 1 < (s.size : Int) := by omega
    have hn0 : (0 : Int) ≤ (i : Int) + 1 := by omega
    have hnt : ((i : Int) + 1).toNat = i + 1 := by omega
    obtain ⟨c, hc⟩ : ∃ c : UInt8, s[i + 1]'hn = c := ⟨_, rfl⟩
    rw [show nextb s i = c by unfold nextb; rw [Lib.data_getElem? s (i + 1) hn, hc]; rfl]
    go_enter Tryz.func27, Tryz.ntmps27
    go_wp2
    go_still_tail 10, (by kernel_rfl)
    change wpList _ _ _ _ _ w.drew
    go_wp2
    have c0' : w.drew.cell? ⟨rb, 0, none⟩ = some (.string s) := c0
    have c1' : w.drew.cell? ⟨rb, 1, none⟩ = some (.int .i64 (i : Int)) := c1
    have hq : Aside0 (∃ m, w.drew = w.drewN m) := ⟨1, rfl⟩
    have hltd : rb < w.drew.heap.size := hlt
    generalize w.drew = w1 at *
    clear c0 c1
    go_still_tail 10, (by kernel_rfl)
    change wpList _ _ _ _ _ w1.drew
    go_wp2
    go_ret
    exact ⟨rfl, (by obtain ⟨m, hm⟩ := hq.out; exact ⟨m + 1, by rw [hm]; rfl⟩)⟩
  · have hn' : ¬ (i : Int) + 1 < (s.size : Int) := by omega
    rw [show nextb s i = 0 by unfold nextb; rw [List.getElem?_eq_none (by show s.size ≤ i + 1; omega)]; rfl]
    go_enter Tryz.func27, Tryz.ntmps27
    go_wp2
    go_still_tail 10, (by kernel_rfl)
    change wpList _ _ _ _ _ w.drew
    go_wp2
    go_ret
    exact ⟨rfl, 1, rfl⟩

theorem one_string (c : UInt8) (w : World) : (convert 63 9 (.slice (some ⟨w.heap.size, 0, none⟩) 1 1)).run Tryz.prog (w.alloc (.cells #[.int .u8 (c.toNat : Int)] 5 (0, 0))) = .ok (.string ⟨#[c]⟩) (w.alloc (.cells #[.int .u8 (c.toNat : Int)] 5 (0, 0))) :=
  run_convert_bytes_back _ 63 9 5 ⟨w.heap.size, 0, none⟩ 1 [c] Tryz.underlying63 Tryz.underlying5 Tryz.underlying9 fun j hj => by
    have : j = 0 := by simpa using hj
    subst this
    exact (blk_cell (blk_new w _) 0).trans rfl
set_option maxHeartbeats 2000000 in
set_option maxRecDepth 100000 in
theorem escaped_calls (c : UInt8) (w : World) : Calls Tryz.prog 43 #[.int .u8 (c.toNat : Int)] w fun e w' => e = .returned (.tuple #[.string ((escd c).getD e0), .bool (escd c).isSome]) ∧ Below w.heap.size w w' := by
  by_cases h0 : c = 45
  · subst h0; go_enter Tryz.func43, Tryz.ntmps43; go_wp2; go_ret2; exact ⟨rfl, Below.refl _ _⟩
  by_cases h4 : c = 92
  · subst h4; have hcv : (convert 63 9 (.slice (some ⟨w.heap.size, 0, none⟩) 1 1)).run Tryz.prog (w.alloc (.cells #[.int .u8 92] 5 (0, 0))) = .ok (.string ⟨#[92]⟩) (w.alloc (.cells #[.int .u8 92] 5 (0, 0))) := one_string 92 w; go_enter Tryz.func43, Tryz.ntmps43; go_wp2; go_ret2; exact ⟨rfl, below_alloc (Below.refl _ _) _⟩
  by_cases h5 : c = 123
  · subst h5; have hcv : (convert 63 9 (.slice (some ⟨w.heap.size, 0, none⟩) 1 1)).run Tryz.prog (w.alloc (.cells #[.int .u8 123] 5 (0, 0))) = .ok (.string ⟨#[123]⟩) (w.alloc (.cells #[.int .u8 123] 5 (0, 0))) := one_string 123 w; go_enter Tryz.func43, Tryz.ntmps43; go_wp2; go_ret2; exact ⟨rfl, below_alloc (Below.refl _ _) _⟩
  by_cases h6 : c = 125
  · subst h6; have hcv : (convert 63 9 (.slice (some ⟨w.heap.size, 0, none⟩) 1 1)).run Tryz.prog (w.alloc (.cells #[.int .u8 125] 5 (0, 0))) = .ok (.string ⟨#[125]⟩) (w.alloc (.cells #[.int .u8 125] 5 (0, 0))) := one_string 125 w; go_enter Tryz.func43, Tryz.ntmps43; go_wp2; go_ret2; exact ⟨rfl, below_alloc (Below.refl _ _) _⟩
  by_cases h7 : c = 37
  · subst h7; have hcv : (convert 63 9 (.slice (some ⟨w.heap.size, 0, none⟩) 1 1)).run Tryz.prog (w.alloc (.cells #[.int .u8 37] 5 (0, 0))) = .ok (.string ⟨#[37]⟩) (w.alloc (.cells #[.int .u8 37] 5 (0, 0))) := one_string 37 w; go_enter Tryz.func43, Tryz.ntmps43; go_wp2; go_ret2; exact ⟨rfl, below_alloc (Below.refl _ _) _⟩
  have hc : escd c = none := by simp [escd, h0, h4, h5, h6, h7]
  have n0 := ne_int (n := 45) 45 rfl h0
  have n4 := ne_int (n := 92) 92 rfl h4
  have n5 := ne_int (n := 123) 123 rfl h5
  have n6 := ne_int (n := 125) 125 rfl h6
  have n7 := ne_int (n := 37) 37 rfl h7
  rw [hc]
  clear h0 h4 h5 h6 h7 hc
  go_enter Tryz.func43, Tryz.ntmps43
  go_wp2
  go_ret2
  exact ⟨rfl, Below.refl _ _⟩

/-! command -/
theorem Rdr.turns {rb : Nat} {s : ByteArray} {i : Nat} {w w' : World} (h : Rdr rb s i w) {S : Nat → Prop} (t : Turns S w w') (hS : ¬ S rb) : Rdr rb s i w' := t.blk h hS
theorem Rdr.below {rb : Nat} {s : ByteArray} {i : Nat} {w w' : World} (h : Rdr rb s i w) {B : Nat} (t : Below B w w') (hB : rb < B) : Rdr rb s i w' := (t.block rb hB).trans h
theorem Rdr.put {rb : Nat} {s : ByteArray} {i : Nat} {w : World} (h : Rdr rb s i w) (j : Nat) (x : Int) (hx : x = (j : Int)) : Rdr rb s j (w.setCell ⟨rb, 1, none⟩ (.int .i64 x)) := by subst hx; exact blk_put h 1 _ rfl
theorem more_q (rb : Nat) (s : ByteArray) (i : Nat) (b : Bool) (hb : decide (i < s.size) = b) (w : World) (h : Rdr rb s i w) : Calls Tryz.prog 24 #[.pointer (some ⟨rb, 0, none⟩)] w fun e w' => e = .returned (.bool b) ∧ ∃ m, w' = w.drewN m := by
  refine (more_calls rb s i w h).mono ?_
  rintro e w' ⟨rfl, rfl⟩
  rw [hb]
  exact ⟨rfl, 1, rfl⟩
theorem letter_q (c : UInt8) (b : Bool) (hb : isLetter c = b) (w : World) : Calls Tryz.prog 26 #[.int .u8 (c.toNat : Int)] w fun e w' => e = .returned (.bool b) ∧ w' = w := by
  rw [← hb]
  exact letter_calls c w
def run_ (S : List UInt8) : Nat := (S.takeWhile isLetter).length
theorem run_le (S : List UInt8) : run_ S ≤ S.length := by unfold run_; exact List.Sublist.length_le (List.takeWhile_sublist _)
theorem runs_in {S : List UInt8} : ∀ {j : Nat}, j < run_ S → ∃ c, S[j]? = some c ∧ isLetter c = true := by
  induction S with
  | nil => intro j h; simp [run_] at h
  | cons a r ih =>
    intro j h
    unfold run_ at h
    by_cases ha : isLetter a = true
    · rw [List.takeWhile_cons_of_pos ha] at h
      cases j with
      | zero => exact ⟨a, rfl, ha⟩
      | succ j => exact ih (by simpa [run_] using h)
    · rw [List.takeWhile_cons_of_neg ha] at h
      simp at h
theorem run_end {S : List UInt8} {c : UInt8} (h : S[run_ S]? = some c) : isLetter c = false := by
  induction S with
  | nil => simp at h
  | cons a r ih =>
    by_cases ha : isLetter a = true
    · have : run_ (a :: r) = run_ r + 1 := by unfold run_; rw [List.takeWhile_cons_of_pos ha]; rfl
      rw [this] at h
      exact ih (by simpa using h)
    · have : run_ (a :: r) = 0 := by unfold run_; rw [List.takeWhile_cons_of_neg ha]; rfl
      rw [this] at h
      simp at h
      subst h
      simpa using ha
set_option maxHeartbeats 4000000 in
set_option maxRecDepth 100000 in
theorem command_calls (rb : Nat) (s : ByteArray) (i : Nat) (hi : i < s.size) (hs : s.size ≤ 35184372088832) (w : World) (h : Rdr rb s i w) :
    Calls Tryz.prog 28 #[.pointer (some ⟨rb, 0, none⟩)] w fun e w' => e = .returned (.string (s.extract (i + 1) (i + 1 + run_ (s.data.toList.drop (i + 1))))) ∧ Rdr rb s (i + 1 + run_ (s.data.toList.drop (i + 1))) w' ∧ Turns (fun k => k = rb) w w' := by
  have hle := run_le (s.data.toList.drop (i + 1))
  rw [List.length_drop, show s.data.toList.length = s.size from rfl] at hle
  obtain ⟨n, hn⟩ : ∃ n, run_ (s.data.toList.drop (i + 1)) = n := ⟨_, rfl⟩
  have HIN : Aside0 (∀ j, i + 1 ≤ j → j < i + 1 + n → ∃ c : UInt8, s.data.toList[j]? = some c ∧ isLetter c = true) := ⟨fun j h1 h2 => by
    obtain ⟨c, hc, hl⟩ := runs_in (S := s.data.toList.drop (i + 1)) (j := j - (i + 1)) (by omega)
    rw [List.getElem?_drop, show i + 1 + (j - (i + 1)) = j by omega] at hc
    exact ⟨c, hc, hl⟩⟩
  have HEND : Aside0 (∀ c : UInt8, s.data.toList[i + 1 + n]? = some c → isLetter c = false) := ⟨fun c hc => run_end (S := s.data.toList.drop (i + 1)) (by rw [hn, List.getElem?_drop]; exact hc)⟩
  rw [hn] at hle ⊢
  clear hn
  have c1 : w.cell? ⟨rb, 1, none⟩ = some (.int .i64 (i : Int)) := by rw [blk_cell h]; rfl
  have z1 := blk_frozen h 1
  have hlt := blk_lt h
  have H0 := Aside0.mk h
  clear h
  go_enter Tryz.func28, Tryz.ntmps28
  go_wp2
  go_loopg [] n (fun gk w' => ∃ j : Nat, Aside0 (i + 1 ≤ j ∧ j + gk = i + 1 + n) ∧ Aside0 (Rdr rb s j w' ∧ Turns (fun k => k = rb) w w'))
  case atStart => exact ⟨i + 1, ⟨Nat.le_refl _, rfl⟩, ⟨H0.out.put (i + 1) _ rfl, (Turns.refl (fun k => k = rb) w).put ⟨rb, 1, none⟩ _ (.inl rfl)⟩⟩
  case round =>
    clear H0
    obtain ⟨j, HJ, HW⟩ := hrel
    have d0 : wr.cell? ⟨rb, 0, none⟩ = some (.string s) := by rw [blk_cell HW.out.1]; rfl
    have d1 : wr.cell? ⟨rb, 1, none⟩ = some (.int .i64 (j : Int)) := by rw [blk_cell HW.out.1]; rfl
    have zr := blk_frozen HW.out.1 1
    have hltr := blk_lt HW.out.1
    cases gk with
    | zero =>
      have hj : j = i + 1 + n := by have := HJ.out; omega
      have HE := Aside0.mk hj
      have hj0 : (i : Int) + 1 ≤ (j : Int) := by omega
      have hj1 : (j : Int) ≤ (s.size : Int) := by omega
      have hi0 : (0 : Int) ≤ (i : Int) + 1 := by omega
      have hi1 : ((i : Int) + 1).toNat = i + 1 := by omega
      by_cases hjs : j < s.size
      · have hjl : (j : Int) < (s.size : Int) := by omega
        obtain ⟨c, hcx⟩ : ∃ c : UInt8, s[j]'hjs = c := ⟨_, rfl⟩
        have hl : isLetter c = false := HEND.out c (by rw [← hj, Lib.data_getElem? s j hjs, hcx])
        clear hj
        go_wp2_with fail
        go_quiet (first | (go_at_call 24; refine Calls.quiet_of (more_q rb s j true (by simpa using hjs) _ ?_); exact HW.out.1) | (go_at_call 26; exact Calls.quiet_of_same (letter_q c false hl _)))
        go_wp2_with fail
        go_quiet (fail)
        go_wp2
        go_ret
        rw [← HE.out]
        exact ⟨rfl, HW.out.1, (HW.out.2.drewN _).drewN _⟩
      · have hjl : decide ((j : Int) < (s.size : Int)) = false := by simp; omega
        clear hj
        go_wp2_with fail
        go_quiet (first | (go_at_call 24; refine Calls.quiet_of (more_q rb s j false (by simpa using hjs) _ ?_); exact HW.out.1))
        go_wp2_with fail
        go_quiet (fail)
        go_wp2
        go_ret
        rw [← HE.out]
        exact ⟨rfl, HW.out.1, (HW.out.2.drewN _).drewN _⟩
    | succ g =>
      have hj : j < s.size := by have := HJ.out; omega
      have hjl : (j : Int) < (s.size : Int) := by omega
      obtain ⟨c, hc, hl⟩ := HIN.out j HJ.out.1 (by have := HJ.out; omega)
      have hcx : s[j]'hj = c := by rw [Lib.data_getElem? s j hj] at hc; exact Option.some.inj hc
      clear hc
      go_wp2_with fail
      go_quiet (first | (go_at_call 24; refine Calls.quiet_of (more_q rb s j true (by simpa using hj) _ ?_); exact HW.out.1) | (go_at_call 26; exact Calls.quiet_of_same (letter_q c true hl _)))
      go_wp2
      go_roundg g
      case measure => omega
      case rel => exact ⟨j + 1, ⟨by have := HJ.out; omega, by have := HJ.out; omega⟩, ⟨(show Rdr rb s j (wr.drewN _) from HW.out.1).put (j + 1) _ rfl, (HW.out.2.drewN _).put ⟨rb, 1, none⟩ _ (.inl rfl)⟩⟩

/-! the builder -/
def ren167 : Go.Shelf.Ren := ⟨fun | 167 => 45 | 240 => 53 | 276 => 64 | n => n, fun | 31 => 36 | 9 => 9 | 3 => 3 | 4 => 4 | 0 => 0 | 20 => 20 | 72 => 65 | 76 => 69 | 70 => 62 | 37 => 63 | 75 => 68 | 127 => 96 | 164 => 105 | 5 => 5 | 80 => 51 | n => n, fun | n => n⟩
theorem lays167 : Go.Proofs.Lays.n167 Tryz.prog ren167 := {
  mixed := by kernel_rfl
  f167 := Tryz.func45.trans (congrArg some (by kernel_rfl))
  f240 := Tryz.func53.trans (congrArg some (by kernel_rfl))
  f276 := Tryz.func64.trans (congrArg some (by kernel_rfl))
  t0 := Tryz.underlying0
  a0 := Tryz.isAgg0
  z0 := Tryz.sizeOf0
  v0 := Tryz.zeroValue0
  t4 := Tryz.underlying4
  a4 := Tryz.isAgg4
  z4 := Tryz.sizeOf4
  v4 := Tryz.zeroValue4
  t5 := Tryz.underlying5
  a5 := Tryz.isAgg5
  z5 := Tryz.sizeOf5
  v5 := Tryz.zeroValue5
  t9 := Tryz.underlying9
  a9 := Tryz.isAgg9
  z9 := Tryz.sizeOf9
  v9 := Tryz.zeroValue9
  t20 := Tryz.underlying20
  a20 := Tryz.isAgg20
  z20 := Tryz.sizeOf20
  v20 := Tryz.zeroValue20
  t37 := Tryz.underlying63
  a37 := Tryz.isAgg63
  z37 := Tryz.sizeOf63
  v37 := Tryz.zeroValue63
  t70 := Tryz.underlying62
  a70 := Tryz.isAgg62
  z70 := Tryz.sizeOf62
  v70 := Tryz.zeroValue62
  t72 := Tryz.underlying65
  a72 := Tryz.isAgg65
  z72 := Tryz.sizeOf65
  v72 := Tryz.zeroValue65
  t75 := Tryz.underlying68
  a75 := Tryz.isAgg68
  z75 := Tryz.sizeOf68
  v75 := Tryz.zeroValue68
  t164 := Tryz.underlying105
  a164 := Tryz.isAgg105
  z164 := Tryz.sizeOf105
  v164 := Tryz.zeroValue105 }
theorem extra167 : Builder.Extra Tryz.prog ren167 := {
  sizeBuilder := by kernel_rfl
  liesBuilder := by kernel_rfl
  t5 := Tryz.underlying5
  a5 := Tryz.isAgg5
  z5 := Tryz.sizeOf5
  v5 := Tryz.zeroValue5
  infoByte := by kernel_rfl
  cellsByte := by kernel_rfl
  sizeByte := by kernel_rfl
  neB5 := by decide }
/-- The builder holds these bytes. -/
def Bd (B b : Nat) (l : List UInt8) (w : World) : Prop := Lib.IsBuilder 65 5 B b (Lib.byteCells l) w
theorem bd_byte (B b : Nat) (l : List UInt8) (c : UInt8) (w : World) (h : Bd B b l w) (hlen : l.length + 1 ≤ 140737488355328) (hBw : B ≤ w.heap.size) :
    Calls Tryz.prog 45 #[.pointer (some ⟨b, 0, none⟩), .int .u8 (c.toNat : Int)] w fun e w' => e = .returned .nilIface ∧ Bd B b (l ++ [c]) w' ∧ Below B w w' := by
  refine (Any.Builder_WriteByte lays167 extra167 B b (Lib.byteCells l) (c.toNat : Int) w h (by rw [Lib.byteCells_length]; exact hlen) hBw).mono ?_
  rintro e w' ⟨rfl, h1, h2⟩
  refine ⟨rfl, .inr ?_, h2⟩
  have : Lib.byteCells (l ++ [c]) = Lib.byteCells l ++ [.int .u8 (c.toNat : Int)] := by simp [Lib.byteCells]
  rw [this]
  exact h1
theorem bd_string (B b : Nat) (l : List UInt8) (s : ByteArray) (w : World) (h : Bd B b l w) (hlen : l.length + s.size ≤ 140737488355328) (hBw : B ≤ w.heap.size) :
    Calls Tryz.prog 44 #[.pointer (some ⟨b, 0, none⟩), .string s] w fun e w' => e = .returned (.tuple #[.int .i64 s.size, .nilIface]) ∧ Bd B b (l ++ s.data.toList) w' ∧ Below B w w' := by
  refine (Any.Builder_WriteString { Tryz.lays156 with } Tryz.Builder_Extra_156 B b (Lib.byteCells l) s w h (by rw [Lib.byteCells_length]; exact hlen) hBw).mono ?_
  rintro e w' ⟨rfl, h1, h2⟩
  refine ⟨rfl, .inr ?_, h2⟩
  rw [← cells_put]
  exact h1
theorem bd_done (B b : Nat) (l : List UInt8) (w : World) (h : Bd B b l w) (hBw : B ≤ w.heap.size) :
    Calls Tryz.prog 42 #[.pointer (some ⟨b, 0, none⟩)] w fun e w' => e = .returned (.string ⟨l.toArray⟩) ∧ Below B w w' := Tryz.Builder_String_any B b l w h hBw
theorem Bd.turns {B b : Nat} {l : List UInt8} {w w' : World} (h : Bd B b l w) {S : Nat → Prop} (t : Turns S w w') (hS : ∀ i, S i → i < B) : Bd B b l w' := by
  have key : ∀ p, Lib.BuilderAt 65 5 B b p (Lib.byteCells l) w → Lib.BuilderAt 65 5 B b p (Lib.byteCells l) w' := by
    rintro p ⟨hB, v, hb, hown, hne⟩
    refine ⟨hB, v, t.blk hb (fun k => by have := hS _ k; omega), ?_, hne⟩
    have h2 := hown.2
    refine ⟨hown.1, ?_⟩
    rcases h2 with h2 | ⟨g, cap, cur, rfl, hg, hgg, rest⟩
    · exact .inl h2
    · exact .inr ⟨g, cap, cur, rfl, hg, t.blk hgg (fun k => by have := hS _ k; omega), rest⟩
  rcases h with h | h
  · exact .inl (key _ h)
  · exact .inr (key _ h)

/-! word -/
/-- What a word's bytes stand for, what is left, and whether its escapes are ones. -/
def wordL : List UInt8 → List UInt8 × List UInt8 × Bool
  | [] => ([], [], true)
  | [c] => if c = 92 then ([], [c], false) else if cls c = 0 then ([c], [], true) else ([], [c], true)
  | c :: d :: r => if c = 92 then (if isLetter d = true then ([], c :: d :: r, true) else match escd d with
      | some t => (t.data.toList ++ (wordL r).1, (wordL r).2)
      | none => ([], c :: d :: r, false)) else if cls c = 0 then (c :: (wordL (d :: r)).1, (wordL (d :: r)).2) else ([], c :: d :: r, true)
theorem w_nil : wordL [] = ([], [], true) := by rw [wordL]
theorem w_cmd {d : UInt8} {r : List UInt8} (h : isLetter d = true) : wordL (92 :: d :: r) = ([], 92 :: d :: r, true) := by rw [wordL, if_pos rfl, if_pos h]
theorem w_esc {d : UInt8} {r : List UInt8} {t : ByteArray} (h : isLetter d = false) (he : escd d = some t) : wordL (92 :: d :: r) = (t.data.toList ++ (wordL r).1, (wordL r).2) := by rw [wordL, if_pos rfl, if_neg (by rw [h]; decide), he]
theorem w_bad {d : UInt8} {r : List UInt8} (h : isLetter d = false) (he : escd d = none) : wordL (92 :: d :: r) = ([], 92 :: d :: r, false) := by rw [wordL, if_pos rfl, if_neg (by rw [h]; decide), he]
theorem w_end : wordL [92] = ([], [92], false) := by rw [wordL, if_pos rfl]
theorem cls_slash {c : UInt8} : cls c = 4 ↔ c = 92 := by
  unfold cls
  constructor
  · intro h
    repeat' split at h
    all_goals first | assumption | omega
  · rintro rfl; rfl
theorem w_plain {c : UInt8} {r : List UInt8} (h : cls c = 0) : wordL (c :: r) = (c :: (wordL r).1, (wordL r).2) := by
  have h92 : ¬ c = 92 := fun e => by rw [cls_slash.2 e] at h; omega
  cases r with
  | nil => rw [show wordL [c] = if c = 92 then ([], [c], false) else if cls c = 0 then ([c], [], true) else ([], [c], true) from rfl, if_neg h92, if_pos h]; rfl
  | cons d r => rw [wordL, if_neg h92, if_pos h]
theorem w_stop {c : UInt8} {r : List UInt8} (h : ¬ cls c = 0) (h4 : ¬ cls c = 4) : wordL (c :: r) = ([], c :: r, true) := by
  have h92 : ¬ c = 92 := fun e => h4 (cls_slash.2 e)
  cases r with
  | nil => rw [wordL, if_neg h92, if_neg h]
  | cons d r => rw [wordL, if_neg h92, if_neg h]
theorem next_some {s : ByteArray} {j : Nat} (h : ¬ nextb s j = 0) : s.data.toList[j + 1]? = some (nextb s j) := by
  unfold nextb at *
  cases hx : s.data.toList[j + 1]? with
  | none => rw [hx] at h; exact absurd rfl h
  | some d => rfl
theorem drop_two {S : List UInt8} {j : Nat} {c d : UInt8} (hc : S[j]? = some c) (hd : S[j + 1]? = some d) : S.drop j = c :: d :: S.drop (j + 2) := by
  obtain ⟨h1, h2⟩ := List.getElem?_eq_some_iff.1 hc
  obtain ⟨h3, h4⟩ := List.getElem?_eq_some_iff.1 hd
  rw [List.drop_eq_getElem_cons h1, List.drop_eq_getElem_cons h3, h2, h4]
theorem drop_one {S : List UInt8} {j : Nat} {c : UInt8} (hc : S[j]? = some c) : S.drop j = c :: S.drop (j + 1) := by
  obtain ⟨h1, h2⟩ := List.getElem?_eq_some_iff.1 hc
  rw [List.drop_eq_getElem_cons h1, h2]
theorem w_fail {s : ByteArray} {j : Nat} (hc : s.data.toList[j]? = some 92) (hl : isLetter (nextb s j) = false) (he : escd (nextb s j) = none) : wordL (s.data.toList.drop j) = ([], s.data.toList.drop j, false) := by
  cases hx : s.data.toList[j + 1]? with
  | none =>
    rw [drop_one hc, List.drop_of_length_le (by rw [List.getElem?_eq_none_iff] at hx; exact hx), w_end]
  | some d =>
    have : nextb s j = d := by unfold nextb; rw [hx]; rfl
    rw [this] at hl he
    rw [drop_two hc hx, w_bad hl he]
theorem esc_small {d : UInt8} {t : ByteArray} (h : escd d = some t) : t.size ≤ 2 := by
  unfold escd at h
  split at h
  · cases h; decide
  · split at h
    · cases h; exact (by decide : (1 : Nat) ≤ 2)
    · cases h
theorem next_q (rb : Nat) (s : ByteArray) (i : Nat) (hi : i + 1 ≤ 9223372036854775807) (d : UInt8) (hd : nextb s i = d) (w : World) (h : Rdr rb s i w) : Calls Tryz.prog 27 #[.pointer (some ⟨rb, 0, none⟩)] w fun e w' => e = .returned (.int .u8 (d.toNat : Int)) ∧ ∃ m, w' = w.drewN m := by
  rw [← hd]
  exact next_calls rb s i hi w h
theorem of_q (c : UInt8) (n : Nat) (hn : cls c = n) (w : World) : Calls Tryz.prog 25 #[.int .u8 (c.toNat : Int)] w fun e w' => e = .returned (.int .i64 (n : Int)) ∧ w' = w := by
  rw [← hn]
  exact of_calls c w
theorem w_done {s T : ByteArray} {K : Bool} {N : Nat} {X : List UInt8 × List UInt8 × Bool} {l t rest : List UInt8} {b : Bool} (h : (if X.2.2 = true then (⟨X.1.toArray⟩ : ByteArray) else e0) = T ∧ X.2.2 = K ∧ s.size - X.2.1.length = N) (hX : (l ++ t, rest, b) = X) : T = (if b = true then ⟨(l ++ t).toArray⟩ else e0) ∧ K = b ∧ N = s.size - rest.length := by
  subst hX
  exact ⟨h.1.symm, h.2.1.symm, h.2.2.symm⟩
theorem Turns.over {S : Nat → Prop} {a b c : World} (h : Turns S a b) {B : Nat} (q : Below B b c) (hB : a.heap.size ≤ B) : Turns S a c :=
  ⟨q.os.trans h.os, q.tape.trans h.tape, q.output.trans h.output, Nat.le_trans h.size q.size, fun i hi hg => (q.block i (by omega)).trans (h.block i hi hg)⟩
theorem box_bd (w : World) : Bd w.heap.size w.heap.size [] (w.alloc (.cells #[.pointer none, .slice none 0 0] 65 (0, 0))) :=
  .inl ⟨Nat.le_refl _, .slice none 0 0, blk_new _ _, ⟨rfl, .inl ⟨rfl, rfl⟩⟩, by simp [Value.ownBlock]⟩
set_option maxHeartbeats 1000000 in
set_option maxRecDepth 100000 in
theorem word_calls (rb : Nat) (s : ByteArray) (i : Nat) (hi : i ≤ s.size) (hs : s.size ≤ 35184372088832) (w : World) (h : Rdr rb s i w) :
    Calls Tryz.prog 29 #[.pointer (some ⟨rb, 0, none⟩)] w fun e w' => e = .returned (.tuple #[.string (if (wordL (s.data.toList.drop i)).2.2 = true then ⟨(wordL (s.data.toList.drop i)).1.toArray⟩ else e0), .bool (wordL (s.data.toList.drop i)).2.2]) ∧ Rdr rb s (s.size - (wordL (s.data.toList.drop i)).2.1.length) w' ∧ Turns (fun k => k = rb) w w' := by
  obtain ⟨X, hX⟩ : ∃ X, wordL (s.data.toList.drop i) = X := ⟨_, rfl⟩
  rw [hX]
  obtain ⟨T, hT⟩ : ∃ T, (if X.2.2 = true then (⟨X.1.toArray⟩ : ByteArray) else e0) = T := ⟨_, rfl⟩
  obtain ⟨K, hK⟩ : ∃ K, X.2.2 = K := ⟨_, rfl⟩
  obtain ⟨N, hN⟩ : ∃ N, s.size - X.2.1.length = N := ⟨_, rfl⟩
  have HR := Aside0.mk (And.intro hT (And.intro hK hN))
  rw [hT, hK, hN]
  clear hT hK hN
  have hlt := blk_lt h
  have HX := Aside0.mk hX
  have H0 := Aside0.mk (And.intro (h.below (below_alloc (Below.refl w.heap.size w) (.cells #[.pointer none, .slice none 0 0] 65 (0, 0))) hlt) (And.intro (box_bd w) ((Turns.refl (fun k => k = rb) w).alloc (.cells #[.pointer none, .slice none 0 0] 65 (0, 0)))))
  have hnot : ∀ (x : Bool) (w : World), (Op.unary .not (.bool x)).run Tryz.prog w = .ok (.bool (!x)) w := fun _ _ => rfl
  clear hX h
  go_enter Tryz.func29, Tryz.ntmps29
  go_wp2
  go_loopg [] (s.size - i) (fun gk w' => ∃ (j : Nat) (l : List UInt8), Aside0 (j + gk = s.size ∧ l.length ≤ j ∧ (l ++ (wordL (s.data.toList.drop j)).1, (wordL (s.data.toList.drop j)).2) = X) ∧ Aside0 (Rdr rb s j w' ∧ Bd w.heap.size w.heap.size l w' ∧ Turns (fun k => k = rb) w w'))
  case atStart => exact ⟨i, [], ⟨by omega, by simp, by rw [← HX.out]; rfl⟩, H0⟩
  case round =>
    clear H0 HX
    obtain ⟨j, l, HJ, HW⟩ := hrel
    have d0 : wr.cell? ⟨rb, 0, none⟩ = some (.string s) := by rw [blk_cell HW.out.1]; rfl
    have d1 : wr.cell? ⟨rb, 1, none⟩ = some (.int .i64 (j : Int)) := by rw [blk_cell HW.out.1]; rfl
    have zr := blk_frozen HW.out.1 1
    have hltr := blk_lt HW.out.1
    have hBw : w.heap.size ≤ wr.heap.size := HW.out.2.2.size
    cases gk with
    | zero =>
      have hj : j = s.size := by have := HJ.out.1; omega
      have HE := Aside0.mk hj
      have hm := more_q rb s j false (by simp; omega) wr HW.out.1
      clear hj
      go_wp2_with fail
      refine hm.mono ?_
      rintro e w1 ⟨rfl, m, rfl⟩
      go_wp2_with fail
      refine (bd_done w.heap.size w.heap.size l (wr.drewN m) (HW.out.2.1.turns ((Turns.refl Quiet wr).drewN m) (fun _ k => k.elim)) hBw).mono ?_
      rintro e w2 ⟨rfl, q⟩
      have HX := HJ.out.2.2
      rw [List.drop_of_length_le (show s.data.toList.length ≤ j by rw [← Lib.size_eq]; have := HE.out; omega), w_nil] at HX
      obtain ⟨h1, h2, h3⟩ := w_done HR.out HX
      rw [List.append_nil, if_pos rfl] at h1
      rw [show s.size - ([] : List UInt8).length = j by have := HE.out; simp; omega] at h3
      have HT := Aside0.mk h1
      have HK := Aside0.mk h2
      have HN := Aside0.mk h3
      clear h1 h2 h3
      go_wp2
      go_ret2
      exact ⟨by rw [HT.out, HK.out]; rfl, by rw [HN.out]; exact (show Rdr rb s j (wr.drewN m) from HW.out.1).below q hlt, (HW.out.2.2.drewN m).over q (Nat.le_refl _)⟩
    | succ g =>
      have hj : j < s.size := by have := HJ.out.1; omega
      have hjl : (j : Int) < (s.size : Int) := by omega
      obtain ⟨c, hc⟩ : ∃ c : UInt8, s[j]'hj = c := ⟨_, rfl⟩
      have hcd : Aside0 (s.data.toList[j]? = some c) := ⟨by rw [Lib.data_getElem? s j hj, hc]⟩
      have hm := more_q rb s j true (by simp; omega) wr HW.out.1
      have hlen : Aside0 ((s.data.toList.drop j).length = s.size - j) := ⟨by rw [List.length_drop, ← Lib.size_eq]⟩
      go_wp2_with fail
      refine hm.mono ?_
      rintro e w1 ⟨rfl, m, rfl⟩
      go_wp2_with fail
      go_quiet (fail)
      have HQ : Aside0 (Rdr rb s j ((wr.drewN m).drewN nq) ∧ Bd w.heap.size w.heap.size l ((wr.drewN m).drewN nq) ∧ Turns (fun k => k = rb) w ((wr.drewN m).drewN nq)) := ⟨HW.out.1, HW.out.2.1.turns (((Turns.refl Quiet wr).drewN m).drewN nq) (fun _ k => k.elim), (HW.out.2.2.drewN m).drewN nq⟩
      have f1 : ((wr.drewN m).drewN nq).cell? ⟨rb, 1, none⟩ = some (.int .i64 (j : Int)) := d1
      have fz : ((wr.drewN m).drewN nq).frozen? ⟨rb, 1, none⟩ = false := zr
      have fl : rb < ((wr.drewN m).drewN nq).heap.size := hltr
      have fB : w.heap.size ≤ ((wr.drewN m).drewN nq).heap.size := hBw
      generalize (wr.drewN m).drewN nq = wq at *
      clear hm d0 d1 zr hltr hBw HW
      by_cases h4 : cls c = 4
      · have hof := of_q c 4 h4 wq
        obtain rfl : c = 92 := cls_slash.1 h4
        obtain ⟨d, hd⟩ : ∃ d, nextb s j = d := ⟨_, rfl⟩
        have hnx := fun w h => next_q rb s j (by omega) d hd w h
        have HD := Aside0.mk hd
        clear hd h4
        go_wp2_with fail
        refine hof.mono ?_
        rintro e w2 ⟨rfl, hw2⟩
        subst w2
        go_wp2_with fail
        refine (hnx _ HQ.out.1).mono ?_
        rintro e w3 ⟨rfl, m3, rfl⟩
        have HQ3 : Aside0 (Rdr rb s j (wq.drewN m3) ∧ Bd w.heap.size w.heap.size l (wq.drewN m3) ∧ Turns (fun k => k = rb) w (wq.drewN m3)) := ⟨HQ.out.1, HQ.out.2.1.turns ((Turns.refl Quiet wq).drewN m3) (fun _ k => k.elim), HQ.out.2.2.drewN m3⟩
        have f1 : (wq.drewN m3).cell? ⟨rb, 1, none⟩ = some (.int .i64 (j : Int)) := f1
        have fz : (wq.drewN m3).frozen? ⟨rb, 1, none⟩ = false := fz
        have fl : rb < (wq.drewN m3).heap.size := fl
        have fB : w.heap.size ≤ (wq.drewN m3).heap.size := fB
        generalize wq.drewN m3 = wt at *
        clear HQ hof
        by_cases hl : isLetter d = true
        · have hlq := letter_q d true hl wt
          have HX := HJ.out.2.2
          have hd1 : s.data.toList[j + 1]? = some d := by rw [← HD.out]; exact next_some (fun e => by rw [← HD.out, e] at hl; cases hl)
          have hdr := drop_two hcd.out hd1
          rw [show wordL (s.data.toList.drop j) = ([], s.data.toList.drop j, true) by rw [hdr, w_cmd hl]] at HX
          obtain ⟨h1, h2, h3⟩ := w_done HR.out HX
          rw [List.append_nil, if_pos rfl] at h1
          rw [hlen.out, show s.size - (s.size - j) = j by omega] at h3
          have HT := Aside0.mk h1
          have HK := Aside0.mk h2
          have HN := Aside0.mk h3
          clear h1 h2 h3 HX hd1 hdr hl hnx
          go_wp2_with fail
          refine hlq.mono ?_
          rintro e w4 ⟨rfl, hw4⟩
          subst w4
          clear hlq
          go_wp2_with fail
          refine (bd_done w.heap.size w.heap.size l wt HQ3.out.2.1 fB).mono ?_
          rintro e w5 ⟨rfl, q⟩
          go_wp2
          go_ret2
          exact ⟨by rw [HT.out, HK.out]; rfl, by rw [HN.out]; exact HQ3.out.1.below q hlt, HQ3.out.2.2.over q (Nat.le_refl _)⟩
        · have hl : isLetter d = false := by simpa using hl
          have hlq := letter_q d false hl wt
          have HLET := Aside0.mk hl
          clear hl
          go_wp2_with fail
          refine hlq.mono ?_
          rintro e w4 ⟨rfl, hw4⟩
          subst w4
          clear hlq
          go_wp2_with fail
          refine (hnx _ HQ3.out.1).mono ?_
          rintro e w3 ⟨rfl, m3, rfl⟩
          have HQ5 : Aside0 (Rdr rb s j (wt.drewN m3) ∧ Bd w.heap.size w.heap.size l (wt.drewN m3) ∧ Turns (fun k => k = rb) w (wt.drewN m3)) := ⟨HQ3.out.1, HQ3.out.2.1.turns ((Turns.refl Quiet wt).drewN m3) (fun _ k => k.elim), HQ3.out.2.2.drewN m3⟩
          have fl : rb < (wt.drewN m3).heap.size := fl
          have fB : w.heap.size ≤ (wt.drewN m3).heap.size := fB
          generalize wt.drewN m3 = wu at *
          clear HQ3 hnx f1 fz
          have hes := escaped_calls d wu
          go_wp2_with fail
          refine hes.mono ?_
          rintro e w6 ⟨rfl, q6⟩
          clear hes
          have HQ6 : Aside0 (Rdr rb s j w6 ∧ Bd w.heap.size w.heap.size l w6 ∧ Turns (fun k => k = rb) w w6) := ⟨HQ5.out.1.below q6 fl, HQ5.out.2.1.turns (Turns.below (S := Quiet) q6) (fun _ k => k.elim), HQ5.out.2.2.over q6 fB⟩
          have fB6 : w.heap.size ≤ w6.heap.size := Nat.le_trans fB q6.size
          clear HQ5 q6 fl fB
          cases he : escd d with
          | none =>
            have HX := HJ.out.2.2
            rw [w_fail hcd.out (by rw [HD.out]; exact HLET.out) (by rw [HD.out]; exact he)] at HX
            obtain ⟨h1, h2, h3⟩ := w_done HR.out HX
            rw [if_neg (by decide)] at h1
            rw [hlen.out, show s.size - (s.size - j) = j by omega] at h3
            have HT := Aside0.mk h1
            have HK := Aside0.mk h2
            have HN := Aside0.mk h3
            clear h1 h2 h3 HX he
            go_wp2
            go_ret2
            exact ⟨by rw [HT.out, HK.out]; rfl, by rw [HN.out]; exact HQ6.out.1, HQ6.out.2.2⟩
          | some t =>
            have hts := esc_small he
            have hd0 : ¬ d = 0 := fun e => by rw [e] at he; cases he
            have hd1 : s.data.toList[j + 1]? = some d := by rw [← HD.out]; exact next_some (fun e => hd0 (by rw [← HD.out, e]))
            have hj2 : j + 2 ≤ s.size := by have := (List.getElem?_eq_some_iff.1 hd1).1; rw [← Lib.size_eq] at this; omega
            have HX := HJ.out.2.2
            rw [drop_two hcd.out hd1, w_esc HLET.out he] at HX
            have HX2 : Aside0 ((l ++ t.data.toList ++ (wordL (s.data.toList.drop (j + 2))).1, (wordL (s.data.toList.drop (j + 2))).2) = X) := ⟨by rw [← HX, List.append_assoc]⟩
            have HS := Aside0.mk hts
            have HL2 := Aside0.mk (show l.length + t.size ≤ 140737488355328 by have := HJ.out.2.1; omega)
            clear HX hd1 hd0 he hts
            go_wp2_with fail
            refine (bd_string w.heap.size w.heap.size l t w6 HQ6.out.2.1 HL2.out fB6).mono ?_
            rintro e w7 ⟨rfl, q7, q8⟩
            have HQ7 : Aside0 (Rdr rb s j w7 ∧ Bd w.heap.size w.heap.size (l ++ t.data.toList) w7 ∧ Turns (fun k => k = rb) w w7) := ⟨HQ6.out.1.below q8 hlt, q7, HQ6.out.2.2.over q8 (Nat.le_refl _)⟩
            clear HQ6 q7 q8 fB6
            have d1 : w7.cell? ⟨rb, 1, none⟩ = some (.int .i64 (j : Int)) := by rw [blk_cell HQ7.out.1]; rfl
            have zr := blk_frozen HQ7.out.1 1
            have hltr := blk_lt HQ7.out.1
            go_wp2
            go_roundg (g - 1)
            case measure => have := HJ.out.1; omega
            case rel => exact ⟨j + 2, l ++ t.data.toList, ⟨by have := HJ.out.1; omega, by have := HJ.out.2.1; have := HS.out; rw [List.length_append, ← Lib.size_eq]; omega, HX2.out⟩, ⟨HQ7.out.1.put (j + 2) _ rfl, HQ7.out.2.1.turns ((Turns.refl (fun k => k = rb) w7).put ⟨rb, 1, none⟩ _ (.inl rfl)) (fun i (hi : i = rb) => by omega), HQ7.out.2.2.put ⟨rb, 1, none⟩ _ (.inl rfl)⟩⟩
      · by_cases h0 : cls c = 0
        · have hof := of_q c 0 h0 wq
          have HX := HJ.out.2.2
          rw [drop_one hcd.out, w_plain h0] at HX
          have HX2 : Aside0 ((l ++ [c] ++ (wordL (s.data.toList.drop (j + 1))).1, (wordL (s.data.toList.drop (j + 1))).2) = X) := ⟨by rw [← HX, List.append_assoc]; rfl⟩
          have HL2 := Aside0.mk (show l.length + 1 ≤ 140737488355328 by have := HJ.out.2.1; omega)
          clear HX h0 h4
          go_wp2_with fail
          refine hof.mono ?_
          rintro e w2 ⟨rfl, hw2⟩
          subst w2
          clear hof
          go_wp2_with fail
          refine (bd_byte w.heap.size w.heap.size l c wq HQ.out.2.1 HL2.out fB).mono ?_
          rintro e w7 ⟨rfl, q7, q8⟩
          have HQ7 : Aside0 (Rdr rb s j w7 ∧ Bd w.heap.size w.heap.size (l ++ [c]) w7 ∧ Turns (fun k => k = rb) w w7) := ⟨HQ.out.1.below q8 hlt, q7, HQ.out.2.2.over q8 (Nat.le_refl _)⟩
          clear HQ q7 q8 f1 fz fl fB
          have d1 : w7.cell? ⟨rb, 1, none⟩ = some (.int .i64 (j : Int)) := by rw [blk_cell HQ7.out.1]; rfl
          have zr := blk_frozen HQ7.out.1 1
          have hltr := blk_lt HQ7.out.1
          go_wp2
          go_roundg g
          case measure => omega
          case rel => exact ⟨j + 1, l ++ [c], ⟨by have := HJ.out.1; omega, by have := HJ.out.2.1; rw [List.length_append]; simp; omega, HX2.out⟩, ⟨HQ7.out.1.put (j + 1) _ rfl, HQ7.out.2.1.turns ((Turns.refl (fun k => k = rb) w7).put ⟨rb, 1, none⟩ _ (.inl rfl)) (fun i (hi : i = rb) => by omega), HQ7.out.2.2.put ⟨rb, 1, none⟩ _ (.inl rfl)⟩⟩
        · have hof := of_q c (cls c) rfl wq
          have n4 : ¬ ((cls c : Int) = 4) := by omega
          have n0 : ¬ ((cls c : Int) = 0) := by omega
          have HX := HJ.out.2.2
          rw [show wordL (s.data.toList.drop j) = ([], s.data.toList.drop j, true) by rw [drop_one hcd.out, w_stop h0 h4]] at HX
          obtain ⟨h1, h2, h3⟩ := w_done HR.out HX
          rw [List.append_nil, if_pos rfl] at h1
          rw [hlen.out, show s.size - (s.size - j) = j by omega] at h3
          have HT := Aside0.mk h1
          have HK := Aside0.mk h2
          have HN := Aside0.mk h3
          clear h1 h2 h3 HX h0 h4
          generalize cls c = kc at *
          go_wp2_with fail
          refine hof.mono ?_
          rintro e w2 ⟨rfl, hw2⟩
          subst w2
          clear hof
          go_wp2_with fail
          refine (bd_done w.heap.size w.heap.size l wq HQ.out.2.1 fB).mono ?_
          rintro e w5 ⟨rfl, q⟩
          go_wp2
          go_ret2
          exact ⟨by rw [HT.out, HK.out]; rfl, by rw [HN.out]; exact HQ.out.1.below q hlt, HQ.out.2.2.over q (Nat.le_refl _)⟩

/-! what a source's tokens are: (kind, text, place) -/
def notNl (c : UInt8) : Bool := decide (c ≠ 10)
def rem_ (S : List UInt8) : Nat := (S.takeWhile notNl).length
theorem rem_le (S : List UInt8) : rem_ S ≤ S.length := by unfold rem_; exact List.Sublist.length_le (List.takeWhile_sublist _)
theorem rem_in {S : List UInt8} : ∀ {j : Nat}, j < rem_ S → ∃ c, S[j]? = some c ∧ c ≠ 10 := by
  induction S with
  | nil => intro j h; simp [rem_] at h
  | cons a r ih =>
    intro j h
    unfold rem_ at h
    by_cases ha : notNl a = true
    · rw [List.takeWhile_cons_of_pos ha] at h
      cases j with
      | zero => exact ⟨a, rfl, by simpa [notNl] using ha⟩
      | succ j => exact ih (by simpa [rem_] using h)
    · rw [List.takeWhile_cons_of_neg ha] at h
      simp at h
theorem rem_end {S : List UInt8} {c : UInt8} (h : S[rem_ S]? = some c) : c = 10 := by
  induction S with
  | nil => simp at h
  | cons a r ih =>
    by_cases ha : notNl a = true
    · have : rem_ (a :: r) = rem_ r + 1 := by unfold rem_; rw [List.takeWhile_cons_of_pos ha]; rfl
      rw [this] at h
      exact ih (by simpa using h)
    · have : rem_ (a :: r) = 0 := by unfold rem_; rw [List.takeWhile_cons_of_neg ha]; rfl
      rw [this] at h
      simp at h
      subst h
      simpa [notNl] using ha
theorem rem_pos {c : UInt8} {r : List UInt8} (h : cls c = 2) : 1 ≤ rem_ (c :: r) := by
  unfold rem_
  rw [List.takeWhile_cons_of_pos (by
    have : c ≠ 10 := by rintro rfl; revert h; decide
    simpa [notNl] using this)]
  simp
abbrev Tok := Nat × List UInt8 × Nat
def lexK : Nat → Nat → List UInt8 → List Tok × Option Nat
  | 0, _, _ => ([], none)
  | _ + 1, _, [] => ([], none)
  | k + 1, p, c :: r =>
    if cls c = 2 then lexK k (p + rem_ (c :: r)) ((c :: r).drop (rem_ (c :: r)))
    else if cls c = 1 then lexK k (p + 1) r
    else if cls c = 3 then ((if c = 125 then 3 else 2, [], p) :: (lexK k (p + 1) r).1, (lexK k (p + 1) r).2)
    else if cls c = 4 ∧ isLetter (r.headD 0) = true then ((1, r.take (run_ r), p) :: (lexK k (p + 1 + run_ r) (r.drop (run_ r))).1, (lexK k (p + 1 + run_ r) (r.drop (run_ r))).2)
    else if (wordL (c :: r)).2.2 = true then ((0, (wordL (c :: r)).1, p) :: (lexK k (p + ((c :: r).length - (wordL (c :: r)).2.1.length)) (wordL (c :: r)).2.1).1, (lexK k (p + ((c :: r).length - (wordL (c :: r)).2.1.length)) (wordL (c :: r)).2.1).2)
    else ([], some (p + ((c :: r).length - (wordL (c :: r)).2.1.length)))
theorem lx_nil (k p : Nat) : lexK (k + 1) p [] = ([], none) := by rw [lexK]
theorem lx_rem {k p : Nat} {c : UInt8} {r : List UInt8} (h : cls c = 2) : lexK (k + 1) p (c :: r) = lexK k (p + rem_ (c :: r)) ((c :: r).drop (rem_ (c :: r))) := by rw [lexK, if_pos h]
theorem lx_blank {k p : Nat} {c : UInt8} {r : List UInt8} (h : cls c = 1) : lexK (k + 1) p (c :: r) = lexK k (p + 1) r := by rw [lexK, if_neg (by omega), if_pos h]
theorem lx_brace {k p : Nat} {c : UInt8} {r : List UInt8} (h : cls c = 3) : lexK (k + 1) p (c :: r) = ((if c = 125 then 3 else 2, [], p) :: (lexK k (p + 1) r).1, (lexK k (p + 1) r).2) := by rw [lexK, if_neg (by omega), if_neg (by omega), if_pos h]
theorem lx_cmd {k p : Nat} {c : UInt8} {r : List UInt8} (h : cls c = 4) (hl : isLetter (r.headD 0) = true) : lexK (k + 1) p (c :: r) = ((1, r.take (run_ r), p) :: (lexK k (p + 1 + run_ r) (r.drop (run_ r))).1, (lexK k (p + 1 + run_ r) (r.drop (run_ r))).2) := by rw [lexK, if_neg (by omega), if_neg (by omega), if_neg (by omega), if_pos ⟨h, hl⟩]
theorem lx_word {k p : Nat} {c : UInt8} {r : List UInt8} (h : cls c = 0 ∨ cls c = 4 ∧ isLetter (r.headD 0) = false) (hw : (wordL (c :: r)).2.2 = true) : lexK (k + 1) p (c :: r) = ((0, (wordL (c :: r)).1, p) :: (lexK k (p + ((c :: r).length - (wordL (c :: r)).2.1.length)) (wordL (c :: r)).2.1).1, (lexK k (p + ((c :: r).length - (wordL (c :: r)).2.1.length)) (wordL (c :: r)).2.1).2) := by
  rw [lexK, if_neg (by omega), if_neg (by omega), if_neg (by omega), if_neg (by rintro ⟨h1, h2⟩; rcases h with h | h; omega; rw [h.2] at h2; cases h2), if_pos hw]
theorem lx_fail {k p : Nat} {c : UInt8} {r : List UInt8} (h : cls c = 0 ∨ cls c = 4 ∧ isLetter (r.headD 0) = false) (hw : (wordL (c :: r)).2.2 = false) : lexK (k + 1) p (c :: r) = ([], some (p + ((c :: r).length - (wordL (c :: r)).2.1.length))) := by
  rw [lexK, if_neg (by omega), if_neg (by omega), if_neg (by omega), if_neg (by rintro ⟨h1, h2⟩; rcases h with h | h; omega; rw [h.2] at h2; cases h2), if_neg (by rw [hw]; decide)]
theorem w_suffix : ∀ (n : Nat) (S : List UInt8), S.length ≤ n → (wordL S).2.1 <:+ S
  | _, [], _ => by rw [w_nil]; exact List.suffix_refl _
  | 0, c :: r, h => by simp at h
  | n + 1, c :: r, h => by
    have hr : r.length ≤ n := by simpa using h
    by_cases h0 : cls c = 0
    · rw [w_plain h0]
      exact (w_suffix n r hr).trans (List.suffix_cons _ _)
    · by_cases h4 : cls c = 4
      · obtain rfl := cls_slash.1 h4
        cases r with
        | nil => rw [w_end]; exact List.suffix_refl _
        | cons d r =>
          by_cases hl : isLetter d = true
          · rw [w_cmd hl]; exact List.suffix_refl _
          · have hl : isLetter d = false := by simpa using hl
            cases he : escd d with
            | none => rw [w_bad hl he]; exact List.suffix_refl _
            | some t =>
              rw [w_esc hl he]
              exact ((w_suffix n r (by simp at hr; omega)).trans (List.suffix_cons _ _)).trans (List.suffix_cons _ _)
      · rw [w_stop h0 h4]; exact List.suffix_refl _
theorem w_lt {c : UInt8} {r : List UInt8} (h : cls c = 0 ∨ cls c = 4 ∧ isLetter (r.headD 0) = false) (hw : (wordL (c :: r)).2.2 = true) : (wordL (c :: r)).2.1.length < (c :: r).length := by
  rcases h with h0 | ⟨h4, hl⟩
  · rw [w_plain h0]
    have := (w_suffix _ r (Nat.le_refl _)).length_le
    simp only [List.length_cons]
    omega
  · obtain rfl := cls_slash.1 h4
    cases r with
    | nil => rw [w_end] at hw; cases hw
    | cons d r =>
      have hl : isLetter d = false := hl
      cases he : escd d with
      | none => rw [w_bad hl he] at hw; cases hw
      | some t =>
        rw [w_esc hl he]
        have := (w_suffix _ r (Nat.le_refl _)).length_le
        simp only [List.length_cons]
        omega
theorem suffix_drop {S T : List UInt8} (h : T <:+ S) : S.drop (S.length - T.length) = T := by
  obtain ⟨p, rfl⟩ := h
  rw [List.length_append, Nat.add_sub_cancel, List.drop_left]

/-! strings.IndexAny(s, "\t\n\r "), whatever s -/
def blanks : ByteArray := ⟨#[9, 10, 13, 32]⟩
theorem enc_last (r : Int) (h : 128 ≤ r) : ∃ (L : Nat) (c : UInt8) (hl : L < (Utf8.encode r).size), (Utf8.encode r).size = L + 1 ∧ 1 ≤ L ∧ L ≤ 3 ∧ (Utf8.encode r)[L]'hl = c ∧ 128 ≤ c.toNat := by
  have key : ∀ n : Nat, 128 ≤ (UInt8.ofNat (128 + n % 64)).toNat := fun n => by
    rw [UInt8.toNat_ofNat']
    omega
  unfold Utf8.encode
  obtain ⟨c, hc⟩ : ∃ c, (if Utf8.valid r then r.toNat else Utf8.runeError) = c := ⟨_, rfl⟩
  have hc128 : ¬ c < 128 := by
    rw [← hc]
    split
    · omega
    · decide
  simp only [hc, hc128, if_false]
  split
  · exact ⟨1, _, Nat.lt_succ_self 1, rfl, by omega, by omega, rfl, key c⟩
  · split
    · exact ⟨2, _, Nat.lt_succ_self 2, rfl, by omega, by omega, rfl, key c⟩
    · exact ⟨3, _, Nat.lt_succ_self 3, rfl, by omega, by omega, rfl, key c⟩
theorem no_high {c : UInt8} (h : 128 ≤ c.toNat) (n : Nat) : Lib.indexByte (blanks.data.toList.drop n) c = -1 := by
  have ne : ∀ d : UInt8, d.toNat < 128 → (d == c) = false := fun d hd => beq_eq_false_iff_ne.2 (fun e => by rw [e] at hd; omega)
  have h1 := ne 9 (by decide); have h2 := ne 10 (by decide); have h3 := ne 13 (by decide); have h4 := ne 32 (by decide)
  rcases n with _ | _ | _ | _ | n
  · show Lib.indexByte [9, 10, 13, 32] c = -1
    simp [Lib.indexByte, h1, h2, h3, h4]
  · show Lib.indexByte [10, 13, 32] c = -1
    simp [Lib.indexByte, h2, h3, h4]
  · show Lib.indexByte [13, 32] c = -1
    simp [Lib.indexByte, h3, h4]
  · show Lib.indexByte [32] c = -1
    simp [Lib.indexByte, h4]
  · show Lib.indexByte ([9, 10, 13, 32].drop (n + 4)) c = -1
    rw [List.drop_of_length_le (by simp)]
    rfl
theorem rune_string (r : Int) (w : World) : (convert 21 9 (.int .i32 r)).run Tryz.prog w = .ok (.string (Utf8.encode r)) w := by
  simp [convert, run_underlying Tryz.underlying21, run_underlying Tryz.underlying9, Conv.intToString]
set_option maxHeartbeats 4000000 in
set_option maxRecDepth 100000 in
theorem rune_high (r : Int) (h : 128 ≤ r) (h2 : r ≤ 2147483647) (w : World) :
    Calls Tryz.prog 55 #[.string blanks, .int .i32 r] w fun e w' => e = .returned (.int .i64 (-1)) ∧ Below w.heap.size w w' := by
  unfold blanks
  have hnot : ∀ (x : Bool) (w : World), (Op.unary .not (.bool x)).run Tryz.prog w = .ok (.bool (!x)) w := fun _ _ => rfl
  have r0 : (0 : Int) ≤ r := by omega
  have r1 : ¬ r < 128 := by omega
  have hvr := Tryz.utf8_ValidRune r w
  by_cases he : r = 65533
  · subst he
    have n0 := fun ty => run_next_ascii (P := Tryz.prog) w ⟨#[9, 10, 13, 32]⟩ 0 ty (by decide) (by decide)
    have n1 := fun ty => run_next_ascii (P := Tryz.prog) w ⟨#[9, 10, 13, 32]⟩ 1 ty (by decide) (by decide)
    have n2 := fun ty => run_next_ascii (P := Tryz.prog) w ⟨#[9, 10, 13, 32]⟩ 2 ty (by decide) (by decide)
    have n3 := fun ty => run_next_ascii (P := Tryz.prog) w ⟨#[9, 10, 13, 32]⟩ 3 ty (by decide) (by decide)
    have n4 := fun ty => run_next_end (P := Tryz.prog) w ⟨#[9, 10, 13, 32]⟩ 4 ty (by decide)
    clear hvr
    go_enter Tryz.func55, Tryz.ntmps55
    go_wp2
    refine wp_loop_rounds 5 ?_
    repeat (rw [rounds_succ]; go_wp2)
    all_goals go_ret
    all_goals exact ⟨rfl, below_alloc (Below.refl _ _) _⟩
  · cases hv : Lib.validRune r with
    | false =>
      rw [hv] at hvr
      go_enter Tryz.func55, Tryz.ntmps55
      go_wp2_with fail
      refine hvr.mono ?_
      rintro e w' ⟨rfl, hw⟩
      rw [hw]
      clear hw w'
      go_wp2
      go_ret
      exact ⟨rfl, Below.refl _ _⟩
    | true =>
      rw [hv] at hvr
      obtain ⟨L, c, hl, h3, h4, h5, h6, h7⟩ := enc_last r h
      obtain ⟨rs, hrs⟩ : ∃ rs, Utf8.encode r = rs := ⟨_, rfl⟩
      have hib : ∀ n w, Calls Tryz.prog 67 #[.string ((⟨#[9, 10, 13, 32]⟩ : ByteArray).extract n 4), .int .u8 (c.toNat : Int)] w fun e w' => e = .returned (.int .i64 (-1)) ∧ w' = w := fun n w => by
        have hx := Tryz.strings_IndexByte ((⟨#[9, 10, 13, 32]⟩ : ByteArray).extract n 4) (c.toNat : Int) w
        have hcn : ((c.toNat : Int)).toNat.toUInt8 = c := by simp
        rw [hcn, Lib.extract_data, List.take_of_length_le (by simp)] at hx
        rw [show Lib.indexByte ((⟨#[9, 10, 13, 32]⟩ : ByteArray).data.toList.drop n) c = -1 from no_high h7 n] at hx
        exact hx
      have hne : ∀ d : Int, d < 128 → (d != (c.toNat : Int)) = true := fun d hd => by simp; omega
      go_enter Tryz.func55, Tryz.ntmps55
      go_wp2_with fail
      refine hvr.mono ?_
      rintro e w' ⟨rfl, hw⟩
      rw [hw]
      clear hw w'
      simp only [hrs] at h3 h6 hl
      have hcv := fun w => rune_string r w
      rw [hrs] at hcv
      go_wp2
      go_step3
      go_wp2
      refine wp_loop_rounds 1 ?_
      rw [rounds_succ]
      have hcz : 128 ≤ (c.toNat : Int) := by omega
      rcases (show L = 1 ∨ L = 2 ∨ L = 3 by omega) with rfl | rfl | rfl
      · have hcx : ∀ h, (⟨#[9, 10, 13, 32]⟩ : ByteArray)[1]'h = 10 := fun _ => rfl
        have hl2 : (1 : Int) < (rs.size : Int) := by omega
        have hd := hne 10 (by omega)
        have hi := hib 2
        go_wp2_with fail
        go_step3
        go_wp2_with fail
        go_quiet (fail)
        go_wp2_with fail
        go_quiet (first | (go_at_call 67; refine (hi _).mono ?_; rintro e w3 ⟨rfl, rfl⟩; exact ⟨rfl, _, rfl⟩))
        go_wp2
        simp only [Exit.noGoto, Exit.inBlock, Exit.then, Exit.noGoto_ret]
        go_ret
        exact ⟨rfl, pw_below_drewN (Below.refl _ _) _⟩
      · have hcx : ∀ h, (⟨#[9, 10, 13, 32]⟩ : ByteArray)[2]'h = 13 := fun _ => rfl
        have hl2 : (2 : Int) < (rs.size : Int) := by omega
        have hd := hne 13 (by omega)
        have hi := hib 3
        go_wp2_with fail
        go_step3
        go_wp2_with fail
        go_quiet (fail)
        go_wp2_with fail
        go_quiet (first | (go_at_call 67; refine (hi _).mono ?_; rintro e w3 ⟨rfl, rfl⟩; exact ⟨rfl, _, rfl⟩))
        go_wp2
        simp only [Exit.noGoto, Exit.inBlock, Exit.then, Exit.noGoto_ret]
        go_ret
        exact ⟨rfl, pw_below_drewN (Below.refl _ _) _⟩
      · have hcx : ∀ h, (⟨#[9, 10, 13, 32]⟩ : ByteArray)[3]'h = 32 := fun _ => rfl
        have hl2 : (3 : Int) < (rs.size : Int) := by omega
        have hd := hne 32 (by omega)
        have hi : ∀ w, Calls Tryz.prog 67 #[.string ByteArray.empty, .int .u8 (c.toNat : Int)] w fun e w' => e = .returned (.int .i64 (-1)) ∧ w' = w := hib 4
        go_wp2_with fail
        go_step3
        go_wp2_with fail
        go_quiet (fail)
        go_wp2_with fail
        go_quiet (first | (go_at_call 67; refine (hi _).mono ?_; rintro e w3 ⟨rfl, rfl⟩; exact ⟨rfl, _, rfl⟩))
        go_wp2
        simp only [Exit.noGoto, Exit.inBlock, Exit.then, Exit.noGoto_ret]
        go_ret
        exact ⟨rfl, pw_below_drewN (Below.refl _ _) _⟩

theorem get_list (s : ByteArray) (p : Nat) (h : p < s.size) : s.data.toList[p]? = some (s.get! p) := by
  have := get_at s p h
  rw [Nat.add_zero] at this
  rw [this]
  exact Lib.data_getElem? s p h
theorem decode_mid (s : ByteArray) (pos : Nat) (h : pos < s.size) (ha : 128 ≤ (s.get! pos).toNat) : pos + (Utf8.decode s pos).2 ≤ s.size ∧ ∀ j b, pos ≤ j → j < pos + (Utf8.decode s pos).2 → s.data.toList[j]? = some b → 128 ≤ b.toNat := by
  have cont : ∀ k, (decide (pos + k < s.size) && ((s.get! (pos + k)).toNat / 64 == 2)) = true → pos + k < s.size ∧ 128 ≤ (s.get! (pos + k)).toNat := fun k hk => by
    rw [Bool.and_eq_true, decide_eq_true_eq, beq_iff_eq] at hk
    exact ⟨hk.1, by omega⟩
  have fin : ∀ wd, 1 ≤ wd → (∀ k, k < wd → pos + k < s.size ∧ 128 ≤ (s.get! (pos + k)).toNat) → pos + wd ≤ s.size ∧ ∀ j b, pos ≤ j → j < pos + wd → s.data.toList[j]? = some b → 128 ≤ b.toNat := fun wd h1 hk => by
    refine ⟨by have := (hk (wd - 1) (by omega)).1; omega, fun j b hj hj2 hb => ?_⟩
    obtain ⟨h3, h4⟩ := hk (j - pos) (by omega)
    rw [show pos + (j - pos) = j by omega] at h3 h4
    rw [get_list s j h3] at hb
    rw [← Option.some.inj hb]
    exact h4
  have z : pos + 0 < s.size ∧ 128 ≤ (s.get! (pos + 0)).toNat := ⟨h, ha⟩
  have one : ∀ k, k < 1 → pos + k < s.size ∧ 128 ≤ (s.get! (pos + k)).toNat := fun k hk => by
    obtain rfl : k = 0 := by omega
    exact z
  have hn : ¬ (s.get! (pos + 0)).toNat < 128 := by have := z.2; omega
  unfold Utf8.decode
  simp only [hn, if_false]
  split
  · rename_i h1
    rw [Bool.and_eq_true] at h1
    have c1 := cont 1 h1.2
    split
    · exact fin 2 (by omega) (fun k hk => by rcases (show k = 0 ∨ k = 1 by omega) with rfl | rfl; exact z; exact c1)
    · exact fin 1 (by omega) one
  · split
    · rename_i h1
      rw [Bool.and_eq_true, Bool.and_eq_true] at h1
      have c1 := cont 1 h1.1.2
      have c2 := cont 2 h1.2
      split
      · exact fin 3 (by omega) (fun k hk => by rcases (show k = 0 ∨ k = 1 ∨ k = 2 by omega) with rfl | rfl | rfl; exact z; exact c1; exact c2)
      · exact fin 1 (by omega) one
    · split
      · rename_i h1
        rw [Bool.and_eq_true, Bool.and_eq_true, Bool.and_eq_true] at h1
        have c1 := cont 1 h1.1.1.2
        have c2 := cont 2 h1.1.2
        have c3 := cont 3 h1.2
        split
        · exact fin 4 (by omega) (fun k hk => by rcases (show k = 0 ∨ k = 1 ∨ k = 2 ∨ k = 3 by omega) with rfl | rfl | rfl | rfl; exact z; exact c1; exact c2; exact c3)
        · exact fin 1 (by omega) one
      · exact fin 1 (by omega) one
def World.itset (w : World) (r : Nat) (s : ByteArray) (pos : Nat) : World := { w with heap := w.heap.setIfInBounds r (.stringIter s pos) }
theorem itset_at {w : World} {r : Nat} {o : Obj} (h : w.heap[r]? = some o) (s : ByteArray) (pos : Nat) : (World.itset w r s pos).heap[r]? = some (.stringIter s pos) := by
  show (w.heap.setIfInBounds r (.stringIter s pos))[r]? = _
  rw [Array.getElem?_setIfInBounds_self_of_lt (blk_lt h)]
theorem itset_below {w w0 : World} {B r : Nat} (h : Below B w0 w) (hr : B ≤ r) (s : ByteArray) (pos : Nat) : Below B w0 (World.itset w r s pos) :=
  ⟨h.os, h.tape, h.output, by show _ ≤ (w.heap.setIfInBounds r _).size; rw [Array.size_setIfInBounds]; exact h.size, fun k hk => by
    show (w.heap.setIfInBounds r _)[k]? = _
    rw [Array.getElem?_setIfInBounds_ne (by omega)]
    exact h.block k hk⟩
theorem next_at {w : World} {r : Nat} {s : ByteArray} {pos : Nat} (hr : w.heap[r]? = some (.stringIter s pos)) (h : pos < s.size) (ty : TypeId) :
    (Instr.next (.pointer (some ⟨r, 0, none⟩)) true ty).run Tryz.prog w = .ok (.tuple #[.bool true, .int .i64 (pos : Int), .int .i32 ((Utf8.decode s pos).1 : Nat)]) (World.itset w r s (pos + (Utf8.decode s pos).2)) := by
  simp only [Instr.next, getObj, setObj, Sem.run_bind, Sem.run, hr, Result.andThen, h, if_true]
  rfl
theorem next_over {w : World} {r : Nat} {s : ByteArray} {pos : Nat} (hr : w.heap[r]? = some (.stringIter s pos)) (h : ¬ pos < s.size) (ty : TypeId) :
    (Instr.next (.pointer (some ⟨r, 0, none⟩)) true ty).run Tryz.prog w = .ok (.tuple #[.bool false]) w := by
  simp [Instr.next, getObj, Sem.run, hr, h]
theorem blank_small {c : UInt8} (h : 128 ≤ c.toNat) : blanks.data.toList.contains c = false := by
  have ne : ∀ d : UInt8, d.toNat < 128 → (c == d) = false := fun d hd => beq_eq_false_iff_ne.2 (fun e => by rw [e] at h; omega)
  show [9, 10, 13, 32].contains c = false
  simp [List.contains, List.elem, ne 9 (by decide), ne 10 (by decide), ne 13 (by decide), ne 32 (by decide)]
set_option maxHeartbeats 4000000 in
set_option maxRecDepth 1000000 in
theorem index_short (s : ByteArray) (h8 : s.size ≤ 8) (w : World) :
    Calls Tryz.prog 48 #[.string s, .string blanks] w fun e w' => e = .returned (.int .i64 (Lib.indexAny s.data.toList blanks.data.toList)) ∧ Below w.heap.size w w' := by
  have h8z : decide ((8 : Int) < (s.size : Int)) = false := decide_eq_false (by omega)
  have hsu := Tryz.strings_shouldUseASCIISet (s.size : Int) w
  rw [h8z] at hsu
  have hbl : blanks.toList.isEmpty = false := empty_no (by decide)
  obtain ⟨B, hB⟩ : ∃ B, blanks = B := ⟨_, rfl⟩
  have hbs : B.size = 4 := by rw [← hB]; rfl
  have hrh := rune_high
  have hra := fun (x : UInt8) (w : World) (hx : x.toNat < 128) => Tryz.strings_IndexRune_ascii blanks (x.toNat : Int) w (by omega) (by omega)
  have hbs2 : Aside0 (∀ c : UInt8, 128 ≤ c.toNat → B.data.toList.contains c = false) := ⟨fun c hc => by rw [← hB]; exact blank_small hc⟩
  rw [hB] at hbl hrh ⊢
  simp only [hB] at hra
  have HRH := Aside0.mk hrh
  have HRA := Aside0.mk hra
  clear hrh hra hB
  go_enter Tryz.func48, Tryz.ntmps48
  go_wp2_with fail
  refine hsu.mono ?_
  rintro e w' ⟨rfl, hw⟩
  rw [hw]
  clear hw w' hsu
  go_wp2
  go_loopg [9, 10] s.size (fun g _ _ wx => ∃ i : Nat, Aside0 (s.size ≤ i + g ∧ i ≤ s.size ∧ Lib.NoAny s.data.toList B.data.toList i) ∧ Aside0 (Below w.heap.size w wx) ∧ Aside0 (wx.heap[w.heap.size]? = some (.stringIter s i)))
  case atStart => exact ⟨0, ⟨by omega, by omega, Lib.NoAny.zero _ _⟩, ⟨below_alloc (Below.refl _ _) _⟩, ⟨World.iter_heap w s 0⟩⟩
  case round =>
    obtain ⟨i, HI, HB, HR⟩ := hrel
    by_cases hi : i < s.size
    · have hnx := next_at HR.out hi
      have hns := itset_at HR.out s (i + (Utf8.decode s i).2)
      have hnb := itset_below HB.out (Nat.le_refl _) s (i + (Utf8.decode s i).2)
      have hget := get_list s i hi
      by_cases h1 : (s.get! i).toNat < 128
      · have hdec : Utf8.decode s i = ((s.get! i).toNat, 1) := by
          unfold Utf8.decode
          simp only [Nat.add_zero, h1, if_true]
        rw [hdec] at hnx hns hnb
        obtain ⟨x, hx⟩ : ∃ x, s.get! i = x := ⟨_, rfl⟩
        rw [hx] at hnx hget h1
        have HN := Aside0.mk hns
        have HNB := Aside0.mk hnb
        have hlt2 := blk_lt HR.out
        generalize World.itset wr w.heap.size s (i + 1) = w5 at *
        have hrx := HRA.out x w5 h1
        have hback : ((x.toNat : Int)).toNat.toUInt8 = x := by simp
        rw [hback] at hrx
        have hcon := Lib.contains_iff_indexByte B.data.toList x
        have Hx := Aside0.mk hget
        clear hget hx h1 hns hnb hback hdec
        go_wp2_with fail
        refine hrx.mono ?_
        rintro e w6 ⟨rfl, hw6⟩
        subst w6
        clear hrx
        cases hin : B.data.toList.contains x
        · rw [hin] at hcon
          have hlt : ¬ ((0 : Int) ≤ Lib.indexByte B.data.toList x) := of_decide_eq_false hcon.symm
          have HIN := Aside0.mk hin
          have HI2 := Aside0.mk hi
          clear hcon hin hi
          go_wp2
          go_roundg (gk - 1)
          case measure => have := HI.out; have := HI2.out; omega
          case rel => exact ⟨i + 1, ⟨by have := HI.out; omega, HI2.out, HI.out.2.2.succ Hx.out HIN.out⟩, HNB, HN⟩
        · rw [hin] at hcon
          have hge : (0 : Int) ≤ Lib.indexByte B.data.toList x := of_decide_eq_true hcon.symm
          have HIN := Aside0.mk hin
          clear hcon hin
          go_wp2
          go_ret
          exact ⟨by rw [Lib.indexAny_hit HI.out.2.2 Hx.out HIN.out]; rfl, HNB.out⟩
      · have h128 : 128 ≤ (s.get! i).toNat := by omega
        have hi0 : s[i]'hi = s.get! i := by have := get_at s i hi; rw [Nat.add_zero] at this; exact this.symm
        obtain ⟨hc1, hc2⟩ := decode_high s i hi (by rw [hi0]; exact h128)
        have hc3 := decode_le s i
        obtain ⟨hm1, hm2⟩ := decode_mid s i hi h128
        obtain ⟨C, hC⟩ : ∃ C, (Utf8.decode s i).1 = C := ⟨_, rfl⟩
        obtain ⟨W, hW⟩ : ∃ W, (Utf8.decode s i).2 = W := ⟨_, rfl⟩
        rw [hC] at hnx hc1 hc3
        rw [hW] at hnx hns hnb hc2 hm1 hm2
        have HN := Aside0.mk hns
        have HNB := Aside0.mk hnb
        have hlt2 := blk_lt HR.out
        have hlt3 : w.heap.size < (World.itset wr w.heap.size s (i + W)).heap.size := blk_lt hns
        generalize World.itset wr w.heap.size s (i + W) = w5 at *
        have hrx := HRH.out (C : Int) (by omega) (by omega) w5
        have HIN : Aside0 (Lib.NoAny s.data.toList B.data.toList (i + W)) := ⟨fun j b hj hb => by
          by_cases hji : j < i
          · exact HI.out.2.2 j b hji hb
          · exact hbs2.out b (hm2 j b (by omega) hj hb)⟩
        have HW : Aside0 (1 ≤ W ∧ i + W ≤ s.size) := ⟨hc2, hm1⟩
        clear hget h1 hns hnb h128 hi0 hc1 hc2 hc3 hm1 hm2 hC hW hi
        go_wp2_with fail
        refine hrx.mono ?_
        rintro e w6 ⟨rfl, hb6⟩
        have HN6 : Aside0 (w6.heap[w.heap.size]? = some (.stringIter s (i + W))) := ⟨(hb6.block _ hlt3).trans HN.out⟩
        have HB6 : Aside0 (Below w.heap.size w w6) := ⟨HNB.out.trans (hb6.mono (by omega))⟩
        clear hrx hb6
        go_wp2
        go_roundg (gk - W)
        case measure => have := HI.out; have := HW.out; omega
        case rel => exact ⟨i + W, ⟨by have := HI.out; have := HW.out; omega, HW.out.2, HIN.out⟩, HB6, HN6⟩
    · have hnx := next_over HR.out hi
      have hie : i = s.data.toList.length := by have := HI.out.2.1; rw [← Lib.size_eq]; omega
      have HE := Aside0.mk hie
      have hlt2 := blk_lt HR.out
      clear hie hi
      go_wp2
      go_ret
      exact ⟨by rw [Lib.indexAny_none (by rw [← HE.out]; exact HI.out.2.2)]; rfl, HB.out⟩
theorem zero100 (w : World) : (zeroValue 100).run Tryz.prog w = .ok (.agg (Array.replicate 256 (.bool false))) w :=
  (zero_of_info (P := Tryz.prog) (t := 100) (n := 256) (by kernel_rfl)).1 w
theorem index_any (s : ByteArray) (hs : s.size < 4294967281) (w : World) :
    Calls Tryz.prog 48 #[.string s, .string blanks] w fun e w' => e = .returned (.int .i64 (Lib.indexAny s.data.toList blanks.data.toList)) ∧ Below w.heap.size w w' := by
  by_cases h8 : s.size ≤ 8
  · exact index_short s h8 w
  · refine (Tryz.strings_IndexAny_long zero100 s blanks w (by decide) (by omega) hs (by decide) (by
      intro j b hj
      have h5 : j < 4 := (List.getElem?_eq_some_iff.1 hj).1
      rcases (show j = 0 ∨ j = 1 ∨ j = 2 ∨ j = 3 by omega) with rfl | rfl | rfl | rfl <;> (cases hj; decide))).mono ?_
    rintro e w' ⟨rfl, rfl⟩
    exact ⟨rfl, below_alloc (below_alloc (Below.refl _ _) _) _⟩
theorem contains_any (s : ByteArray) (hs : s.size < 4294967281) (w : World) :
    Calls Tryz.prog 34 #[.string s, .string blanks] w fun e w' => e = .returned (.bool (Lib.containsAny s.data.toList blanks.data.toList)) ∧ Below w.heap.size w w' := by
  have hx := index_any s hs w
  unfold Lib.containsAny
  generalize Lib.indexAny s.data.toList blanks.data.toList = n at *
  go_enter Tryz.func34, Tryz.ntmps34
  go_wp2_with fail
  refine hx.mono ?_
  rintro e w' ⟨rfl, q⟩
  have Q := Aside0.mk q
  clear q hx
  go_wp2
  go_ret
  exact ⟨rfl, Q.out⟩

/-! name -/
def nameB (S : List UInt8) : Bool := S.all isLetter && !S.isEmpty
set_option maxRecDepth 100000 in
theorem name_calls (s : ByteArray) (hs : s.size ≤ 140737488355328) (w : World) : Calls Tryz.prog 35 #[.string s] w fun e w' => e = .returned (.bool (nameB s.data.toList)) ∧ w' = w := by
  have hnot : ∀ (x : Bool) (w : World), (Op.unary .not (.bool x)).run Tryz.prog w = .ok (.bool (!x)) w := fun _ _ => rfl
  go_enter Tryz.func35, Tryz.ntmps35
  go_wp2
  go_loopg [6] s.size (fun gk s6 w' => ∃ j : Nat, s6 = .int .i64 (j : Int) ∧ Aside0 (j + gk = s.size ∧ (s.data.toList.take j).all isLetter = true) ∧ Aside0 (w' = w))
  case atStart => exact ⟨0, rfl, ⟨by omega, rfl⟩, ⟨rfl⟩⟩
  case round =>
    obtain ⟨j, rfl, HJ, HW⟩ := hrel
    cases gk with
    | zero =>
      have hj : j = s.size := by have := HJ.out.1; omega
      have hjl : ¬ ((j : Int) < (s.size : Int)) := by omega
      have HE := Aside0.mk hj
      clear hj
      go_wp2
      go_ret
      refine ⟨?_, HW.out⟩
      have h2 := HJ.out.2
      rw [List.take_of_length_le (by rw [← Lib.size_eq]; have := HE.out; omega)] at h2
      unfold nameB
      rw [h2, ← ByteArray.toList_eq]
      rfl
    | succ g =>
      have hj : j < s.size := by have := HJ.out.1; omega
      have hjl : (j : Int) < (s.size : Int) := by omega
      obtain ⟨x, hx⟩ : ∃ x : UInt8, s[j]'hj = x := ⟨_, rfl⟩
      have hxl : Aside0 (s.data.toList[j]? = some x) := ⟨by rw [Lib.data_getElem? s j hj, hx]⟩
      cases hl : isLetter x with
      | true =>
        have hq := fun w => letter_q x true hl w
        have HL := Aside0.mk hl
        clear hl
        go_wp2_with fail
        refine (hq _).mono ?_
        rintro e w2 ⟨rfl, hw2⟩
        subst w2
        clear hq
        go_wp2
        go_roundg g
        case measure => omega
        case rel => exact ⟨j + 1, rfl, ⟨by have := HJ.out.1; omega, by rw [List.take_add_one, hxl.out, List.all_append, HJ.out.2]; simp [HL.out]⟩, HW⟩
      | false =>
        have hq := fun w => letter_q x false hl w
        have HL := Aside0.mk hl
        clear hl
        go_wp2_with fail
        refine (hq _).mono ?_
        rintro e w2 ⟨rfl, hw2⟩
        subst w2
        clear hq
        go_wp2
        go_ret
        refine ⟨?_, HW.out⟩
        have : nameB s.data.toList = false := by
          unfold nameB
          rw [List.all_eq_false.2 ⟨x, List.mem_of_getElem? hxl.out, by rw [HL.out]; decide⟩]
          rfl
        rw [this]
        rfl

end Go.Proofs.YtjiljpddkfcdbaaGreatDoor.PLx

/- Written by a program of this session: functions of the given program as plain Lean functions, the walks that show it, and the row of each law, for every input that its statement speaks of. -/
import Derived.Test.YtjiljpddkfcdbaaGreatDoorPLxx0
import Derived.Test.YtjiljpddkfcdbaaGreatDoorPLxx1
import Derived.Test.YtjiljpddkfcdbaaGreatDoorPLxx2
import Derived.Test.YtjiljpddkfcdbaaGreatDoorPLxx3
import Derived.Test.YtjiljpddkfcdbaaGreatDoorPLxx6
namespace Go.Proofs.YtjiljpddkfcdbaaGreatDoor.PLx
open Go.RowKit Go.Proofs.YtjiljpddkfcdbaaGreatDoorW.PrintWords Go.Proofs.YtjiljpddkfcdbaaGreatDoorW.PrintLast Go.Proofs.YtjiljpddkfcdbaaGreatDoorW.PrintMore
attribute [local go_sem] max2_int min2_int max_two min_two max_three min_three max_four min_four   -- for this text's walks alone
set_option linter.unusedVariables false
set_option linter.unusedSimpArgs false

attribute [local go_sem high] eqA25 eqA38
/-! ### variorumref05_Same: function 13 -/
def variorumref05_Same.l0 : Nat → List (S38) → List (S38) → Int → Option (Bool)
 | 0, _, _, _ => none
 | k + 1, x0, x1, x5 => if x5 < (x0.length : Int) then (if 0 ≤ x5 then (if x5 < (x1.length : Int) then (if (!(((rd_T38 x0 x5).f0) == ((rd_T38 x1 x5).f0)) || (!((((rd_T38 x0 x5).f1).toList) == (((rd_T38 x1 x5).f1).toList)) || (!(((rd_T38 x0 x5).f2) == ((rd_T38 x1 x5).f2))))) = true then (some false) else (variorumref05_Same.l0 k x0 x1 (wrap64 (x5 + 1)))) else (none)) else (none)) else (some true)
def variorumref05_Same.f (k : Nat) (l0 : List (S38)) (l1 : List (S38)) : Option (Bool) := if (l0.length : Int) = (l1.length : Int) then (variorumref05_Same.l0 k l0 l1 0) else (some false)
theorem variorumref05_Same.mono_l : ∀ k, (∀ y0 y1 y2, LeO (variorumref05_Same.l0 k y0 y1 y2) (variorumref05_Same.l0 (k + 1) y0 y1 y2))
 | 0 => fun _ _ _ r h => by simp [variorumref05_Same.l0] at h
 | k + 1 => by
  have ih0 := variorumref05_Same.mono_l k
  ·intro y0 y1 y2
   unfold variorumref05_Same.l0
   repeat' first
   | (with_reducible exact ih0 _ _ _)
   | (with_reducible exact LeO.refl _)
   | (with_reducible exact LeO.none _)
   | (with_reducible refine LeO.ite ?_ ?_)
   | (with_reducible refine LeO.bind ?_ (fun _ => ?_))
   | exact ih0 _ _ _
   | exact LeO.none _
   | refine LeO.ite ?_ ?_
   | refine LeO.bind ?_ (fun _ => ?_)
theorem variorumref05_Same.mono : ∀ a0 a1 k, LeO (variorumref05_Same.f k a0 a1) (variorumref05_Same.f (k + 1) a0 a1) := by
 intro a0 a1 k
 have ih0 := variorumref05_Same.mono_l k
 unfold variorumref05_Same.f
 repeat' first
   | (with_reducible exact ih0 _ _ _)
   | (with_reducible exact LeO.refl _)
   | (with_reducible exact LeO.none _)
   | (with_reducible refine LeO.ite ?_ ?_)
   | (with_reducible refine LeO.bind ?_ (fun _ => ?_))
   | exact ih0 _ _ _
   | exact LeO.none _
   | refine LeO.ite ?_ ?_
   | refine LeO.bind ?_ (fun _ => ?_)
set_option maxHeartbeats 8000000 in
set_option maxRecDepth 100000 in
theorem variorumref05_Same.calls (k : Nat) (A0 : Option Addr) (c0 : Nat) (l0 : List (S38)) (A1 : Option Addr) (c1 : Nat) (l1 : List (S38)) (r : Bool) (w : World) (hr0 : Kd.C k38 w A0 l0.length l0) (hc0 : l0.length ≤ c0) (hr1 : Kd.C k38 w A1 l1.length l1) (hc1 : l1.length ≤ c1) (h : variorumref05_Same.f k l0 l1 = some r) :
  Calls Tryz.prog 13 #[.slice A0 l0.length c0, .slice A1 l1.length c1] w fun e w' => e = .returned (.bool r) ∧ Drawn0 w w' := by
 have hu38 := Tryz.underlying38
 have HR0 := Aside0.mk hr0
 have HC0 := Aside0.mk hc0
 clear hr0 hc0
 have HR1 := Aside0.mk hr1
 have HC1 := Aside0.mk hc1
 clear hr1 hc1
 have H : (if (l0.length : Int) = (l1.length : Int) then (variorumref05_Same.l0 k l0 l1 0) else (some false)) = some r := h
 clear h
 by_cases c3 : (l0.length : Int) = (l1.length : Int)
 ·rw [if_pos c3] at H
  have c3b0 : ((l0.length : Int) == (l1.length : Int)) = true := beq_iff_eq.mpr c3
  have c3b1 : ((l0.length : Int) != (l1.length : Int)) = false := bne_eq_false_iff_eq.mpr c3
  have c3b2 : (l0.length == l1.length) = true := by first | simpa using c3 | (simp at c3 ⊢; omega)
  clear c3
  have H' := Aside0.mk H
  clear H
  go_enter Tryz.func13, Tryz.ntmps13
  go_wp2
  repeat (go_quiet (fail); try go_wp2)
  go_loopg [5] k (fun kq v5 w' => ∃ (x5_1 : Int), v5 = .int .i64 x5_1 ∧ Aside0 (variorumref05_Same.l0 kq l0 l1 x5_1 = some r) ∧ Aside0 (kq ≤ k) ∧ Drawn0 w w')
  case atStart => exact ⟨(0), (by first | rfl | (simp; done) | (simp [*]; done)), H', ⟨Nat.le_refl _⟩, by repeat (first | exact Drawn0.refl _ | apply Drawn0.step)⟩
  case round =>
   clear H'
   try clear c1
   try clear p2
   try clear c3
   try clear c3b0
   try clear c3b1
   try clear c3b2
   obtain ⟨x5_1, rfl, HA, HK1, ⟨m1, rfl⟩⟩ := hrel
   cases gk with
   | zero => exact absurd HA.out (by simp [variorumref05_Same.l0])
   | succ k1 =>
    have H := HA.out
    clear HA
    simp only [variorumref05_Same.l0] at H
    by_cases c4 : x5_1 < (l0.length : Int)
    ·rw [if_pos c4] at H
     have c4b0 : decide (x5_1 < (l0.length : Int)) = true := decide_eq_true c4
     clear c4
     by_cases c5 : 0 ≤ x5_1
     ·rw [if_pos c5] at H
      have c5b0 : decide (0 ≤ x5_1) = true := decide_eq_true c5
      clear c5
      by_cases c6 : x5_1 < (l1.length : Int)
      ·rw [if_pos c6] at H
       have c6b0 : decide (x5_1 < (l1.length : Int)) = true := decide_eq_true c6
       clear c6
       by_cases c7 : (!(((rd_T38 l0 x5_1).f0) == ((rd_T38 l1 x5_1).f0)) || (!((((rd_T38 l0 x5_1).f1).toList) == (((rd_T38 l1 x5_1).f1).toList)) || (!(((rd_T38 l0 x5_1).f2) == ((rd_T38 l1 x5_1).f2))))) = true
       ·rw [if_pos c7] at H
        have c7b0 : (!(((rd_T38 l0 x5_1).f0) == ((rd_T38 l1 x5_1).f0)) || (!((((rd_T38 l0 x5_1).f1).toList) == (((rd_T38 l1 x5_1).f1).toList)) || (!(((rd_T38 l0 x5_1).f2) == ((rd_T38 l1 x5_1).f2))))) = true := c7
        clear c7
        obtain rfl := Option.some.inj H
        have p172 : 0 ≤ (x5_1 : Int) := of_decide_eq_true (by first | (with_reducible assumption) | assumption)
        have q172 : x5_1 < (l0.length : Int) := of_decide_eq_true (by first | (with_reducible assumption) | assumption)
        obtain ⟨ad172, e172, hx172_0, hx172_1, hx172_2⟩ := at_T38 HR0.out x5_1 p172 q172
        cases e172
        replace p172 := eq_true p172
        replace q172 := eq_true q172
        have p173 : 0 ≤ (x5_1 : Int) := of_decide_eq_true (by first | (with_reducible assumption) | assumption)
        have q173 : x5_1 < (l1.length : Int) := of_decide_eq_true (by first | (with_reducible assumption) | assumption)
        obtain ⟨ad173, e173, hx173_0, hx173_1, hx173_2⟩ := at_T38 HR1.out x5_1 p173 q173
        cases e173
        replace p173 := eq_true p173
        replace q173 := eq_true q173
        go_wp2
        repeat (go_quiet (fail); try go_wp2)
        go_ret
        exact ⟨by first | rfl | (simp; done) | (simp [*]; done), by repeat (first | exact Drawn0.refl _ | apply Drawn0.step)⟩
       ·rw [if_neg c7] at H
        have c7b0 : (!(((rd_T38 l0 x5_1).f0) == ((rd_T38 l1 x5_1).f0)) || (!((((rd_T38 l0 x5_1).f1).toList) == (((rd_T38 l1 x5_1).f1).toList)) || (!(((rd_T38 l0 x5_1).f2) == ((rd_T38 l1 x5_1).f2))))) = false := by simpa using c7
        clear c7
        have H' := Aside0.mk H
        clear H
        have p172 : 0 ≤ (x5_1 : Int) := of_decide_eq_true (by first | (with_reducible assumption) | assumption)
        have q172 : x5_1 < (l0.length : Int) := of_decide_eq_true (by first | (with_reducible assumption) | assumption)
        obtain ⟨ad172, e172, hx172_0, hx172_1, hx172_2⟩ := at_T38 HR0.out x5_1 p172 q172
        cases e172
        replace p172 := eq_true p172
        replace q172 := eq_true q172
        have p173 : 0 ≤ (x5_1 : Int) := of_decide_eq_true (by first | (with_reducible assumption) | assumption)
        have q173 : x5_1 < (l1.length : Int) := of_decide_eq_true (by first | (with_reducible assumption) | assumption)
        obtain ⟨ad173, e173, hx173_0, hx173_1, hx173_2⟩ := at_T38 HR1.out x5_1 p173 q173
        cases e173
        replace p173 := eq_true p173
        replace q173 := eq_true q173
        go_wp2
        repeat (go_quiet (fail); try go_wp2)
        go_roundg k1
        case measure => have := HK1.out; omega
        case rel => exact ⟨(wrap64 (x5_1 + 1)), (by first | rfl | (simp; done) | (simp [*]; done)), H', ⟨by have := HK1.out; omega⟩, by repeat (first | exact Drawn0.refl _ | apply Drawn0.step)⟩
      ·rw [if_neg c6] at H
       exact absurd H (by simp)
     ·rw [if_neg c5] at H
      exact absurd H (by simp)
    ·rw [if_neg c4] at H
     have c4b0 : decide (x5_1 < (l0.length : Int)) = false := decide_eq_false c4
     clear c4
     obtain rfl := Option.some.inj H
     go_wp2
     repeat (go_quiet (fail); try go_wp2)
     go_ret
     exact ⟨by first | rfl | (simp; done) | (simp [*]; done), by repeat (first | exact Drawn0.refl _ | apply Drawn0.step)⟩
 ·rw [if_neg c3] at H
  have c3b0 : ((l0.length : Int) == (l1.length : Int)) = false := beq_eq_false_iff_ne.mpr c3
  have c3b1 : ((l0.length : Int) != (l1.length : Int)) = true := bne_iff_ne.mpr c3
  have c3b2 : (l0.length == l1.length) = false := by first | simpa using c3 | (simp at c3 ⊢; omega)
  obtain rfl := Option.some.inj H
  go_enter Tryz.func13, Tryz.ntmps13
  go_wp2
  repeat (go_quiet (fail); try go_wp2)
  go_ret
  exact ⟨by first | rfl | (simp; done) | (simp [*]; done), by repeat (first | exact Drawn0.refl _ | apply Drawn0.step)⟩

/-! ### lexer_May: function 14, by hand -/
def lexer_May.ok (k : Nat) (t : S38) : Option Bool := if t.f1.size < 4294967281 then (if t.f0 = 0 then (utf_Decode.f k t.f1).bind fun d => some (!t.f1.toList.isEmpty && (d.2.1 == 0 && !Lib.containsAny t.f1.data.toList blanks.data.toList)) else if t.f0 = 1 then some (nameB t.f1.data.toList) else if t.f0 = 2 ∨ t.f0 = 3 then some t.f1.toList.isEmpty else some false) else none
def lexer_May.l (k : Nat) : List S38 → Option Bool
 | [] => some true
 | t :: r => (lexer_May.ok k t).bind fun b => if b = true then lexer_May.l k r else some false
def lexer_May.f (k : Nat) (l0 : List S38) : Option Bool := if l0.length ≤ 140737488355328 then lexer_May.l k l0 else none
theorem lexer_May.mono_ok (k : Nat) (t : S38) : LeO (lexer_May.ok k t) (lexer_May.ok (k + 1) t) := by
 unfold lexer_May.ok
 exact LeO.ite (LeO.ite (LeO.bind (utf_Decode.mono _ _) (fun _ => LeO.refl _)) (LeO.refl _)) (LeO.refl _)
theorem lexer_May.mono_l (k : Nat) : ∀ l, LeO (lexer_May.l k l) (lexer_May.l (k + 1) l)
 | [] => LeO.refl _
 | t :: r => LeO.bind (lexer_May.mono_ok k t) (fun b => LeO.ite (lexer_May.mono_l k r) (LeO.refl _))
theorem lexer_May.mono : ∀ l0 k, LeO (lexer_May.f k l0) (lexer_May.f (k + 1) l0) := fun l0 k => LeO.ite (lexer_May.mono_l k l0) (LeO.refl _)
theorem drop_cons {α : Type} {l : List α} {j : Nat} (h : j < l.length) : l.drop j = l[j] :: l.drop (j + 1) := List.drop_eq_getElem_cons h
theorem rd_at {l : List S38} {j : Nat} (h : j < l.length) : rd_T38 l (j : Int) = l[j] := by
 unfold rd_T38
 rw [Int.toNat_natCast, List.getD_eq_getElem?_getD, List.getElem?_eq_getElem h]
 rfl
set_option maxHeartbeats 8000000 in
set_option maxRecDepth 100000 in
theorem lexer_May.calls (k : Nat) (A0 : Option Addr) (c0 : Nat) (l0 : List S38) (r : Bool) (w : World) (hr0 : Kd.C k38 w A0 l0.length l0) (hc0 : l0.length ≤ c0) (hT : Lib.Utf8Tabs 0 1 w) (h : lexer_May.f k l0 = some r) :
  Calls Tryz.prog 14 #[.slice A0 l0.length c0] w fun e w' => e = .returned (.bool r) ∧ Below w.heap.size w w' := by
 unfold lexer_May.f at h
 by_cases hlen : l0.length ≤ 140737488355328
 case neg => rw [if_neg hlen] at h; cases h
 rw [if_pos hlen] at h
 have hu25 := Tryz.underlying25
 have hu38 := Tryz.underlying38
 have hnot : ∀ (x : Bool) (w : World), (Op.unary .not (.bool x)).run Tryz.prog w = .ok (.bool (!x)) w := fun _ _ => rfl
 have HR := Aside0.mk hr0
 have HC := Aside0.mk hc0
 have HT := Aside0.mk hT
 have H' := Aside0.mk h
 clear hr0 hc0 hT h
 go_enter Tryz.func14, Tryz.ntmps14
 go_wp2
 go_loopg [10] l0.length (fun gk s10 w' => ∃ j : Nat, s10 = .int .i64 (j : Int) ∧ Aside0 (j + gk = l0.length) ∧ Aside0 (lexer_May.l k (l0.drop j) = some r) ∧ Aside0 (Below w.heap.size w w'))
 case atStart => exact ⟨0, rfl, ⟨by omega⟩, H', ⟨Below.refl _ _⟩⟩
 case round =>
  clear H'
  obtain ⟨j, rfl, HJ, H, HB⟩ := hrel
  cases gk with
  | zero =>
   have hj : j = l0.length := by have := HJ.out; omega
   have hjl : ¬ ((j : Int) < (l0.length : Int)) := by omega
   have hr := H.out
   rw [hj, List.drop_length] at hr
   obtain rfl : true = r := by simpa [lexer_May.l] using hr
   clear hj hr H
   go_wp2
   go_ret
   exact ⟨rfl, HB.out⟩
  | succ g =>
   have hj : j < l0.length := by have := HJ.out; omega
   have hjl : (j : Int) < (l0.length : Int) := by omega
   obtain ⟨ad, ead, hx0, hx1, hx2⟩ := at_T38 HR.out (j : Int) (by omega) hjl
   rw [rd_at hj, Int.toNat_natCast] at hx0 hx1 hx2
   have H1 := H.out
   rw [drop_cons hj] at H1
   obtain ⟨t, ht⟩ : ∃ t, l0[j] = t := ⟨_, rfl⟩
   rw [ht] at hx0 hx1 hx2 H1
   obtain ⟨b, hok, H2⟩ := Option.bind_eq_some_iff.mp (show ((lexer_May.ok k t).bind fun b => if b = true then lexer_May.l k (l0.drop (j + 1)) else some false) = some r from H1)
   replace H2 : (if b = true then lexer_May.l k (l0.drop (j + 1)) else some false) = some r := H2
   obtain ⟨kd, tx, pl⟩ := t
   replace hx0 : wr.cell? (ad.add (j * 3)) = some (.int .i64 kd) := (HB.out.cell (World.block_lt_of_cell? w _ hx0)).trans hx0
   replace hx1 : wr.cell? ⟨(ad.add (j * 3)).block, (ad.add (j * 3)).off + 1, none⟩ = some (.string tx) := (HB.out.cell (World.block_lt_of_cell? w _ hx1)).trans hx1
   replace hx2 : wr.cell? ⟨(ad.add (j * 3)).block, (ad.add (j * 3)).off + 2, none⟩ = some (.int .i64 pl) := (HB.out.cell (World.block_lt_of_cell? w _ hx2)).trans hx2
   subst ead
   unfold lexer_May.ok at hok
   by_cases htx : tx.size < 4294967281
   case neg => rw [if_neg htx] at hok; cases hok
   rw [if_pos htx] at hok
   have HTX := Aside0.mk htx
   have HJ2 := Aside0.mk hj
   clear H H1 ht htx hj
   go_upto_region 5 with (fail)
   obtain ⟨tb, htb⟩ : ∃ tb, tb = wr.heap.size := ⟨_, rfl⟩
   rw [← htb]
   have B5 : Aside0 (Below w.heap.size w (wr.alloc (.cells #[.int .i64 kd, .string tx, .int .i64 pl] 38 (0, 0)))) := ⟨below_alloc HB.out _⟩
   have T5 : Aside0 ((wr.alloc (.cells #[.int .i64 kd, .string tx, .int .i64 pl] 38 (0, 0))).heap[tb]? = some (.cells #[.int .i64 kd, .string tx, .int .i64 pl] 38 (0, 0))) := ⟨new_at htb.symm _⟩
   clear hx0 hx1 hx2 HB htb
   generalize wr.alloc (.cells #[.int .i64 kd, .string tx, .int .i64 pl] 38 (0, 0)) = w5 at *
   have t0 : w5.cell? ⟨tb, 0, none⟩ = some (.int .i64 kd) := by rw [blk_cell T5.out]; rfl
   have t1 : w5.cell? ⟨tb, 1, none⟩ = some (.string tx) := by rw [blk_cell T5.out]; rfl
   have tlt := blk_lt T5.out
   obtain ⟨em, hem⟩ : ∃ em, tx.toList.isEmpty = em := ⟨_, rfl⟩
   rw [hem]
   rw [hem] at hok
   clear hem
   by_cases k0 : kd = 0
   ·subst k0
    rw [if_pos rfl] at hok
    obtain ⟨⟨d1, d2, d3⟩, hd, hok⟩ := Option.bind_eq_some_iff.mp hok
    have hok := Option.some.inj hok
    replace hok : (!em && (d2 == 0 && !Lib.containsAny tx.data.toList blanks.data.toList)) = b := hok
    have hdc := utf_Decode.calls k tx d1 d2 d3 w5 (Utf8Tabs_below HT.out B5.out) hd
    clear hd
    have HOK := Aside0.mk hok
    clear hok
    go_wp2_with fail
    refine hdc.mono ?_
    rintro e w6 ⟨v0, rfl, _, hb6⟩
    have T6 : Aside0 (w6.heap[tb]? = some (.cells #[.int .i64 0, .string tx, .int .i64 pl] 38 (0, 0))) := ⟨(hb6.block _ tlt).trans T5.out⟩
    have B6 : Aside0 (Below w.heap.size w w6) := ⟨B5.out.trans (hb6.mono B5.out.size)⟩
    clear hdc hb6 t0 t1 tlt T5 B5
    have t1 : w6.cell? ⟨tb, 1, none⟩ = some (.string tx) := by rw [blk_cell T6.out]; rfl
    have tlt := blk_lt T6.out
    cases em with
    | true =>
     obtain rfl : false = b := by have := HOK.out; simpa using this
     obtain rfl : r = false := by rw [if_neg (by decide)] at H2; exact (Option.some.inj H2).symm
     go_wp2
     go_ret
     exact ⟨rfl, below_alloc B6.out _⟩
    | false =>
     by_cases hd0 : d2 = 0
     ·subst hd0
      have hca := contains_any tx HTX.out (w6.alloc (.cells #[.int .i64 0, .int .i64 d3] 25 (0, 0)))
      have hbe : (!Lib.containsAny tx.data.toList blanks.data.toList) = b := by have := HOK.out; simpa using this
      obtain ⟨ca, hcae⟩ : ∃ ca, Lib.containsAny tx.data.toList blanks.data.toList = ca := ⟨_, rfl⟩
      rw [hcae] at hca hbe
      unfold blanks at hca
      have B7 : Aside0 (Below w.heap.size w (w6.alloc (.cells #[.int .i64 0, .int .i64 d3] 25 (0, 0)))) := ⟨below_alloc B6.out _⟩
      have HBE := Aside0.mk hbe
      clear hcae HOK hbe
      go_wp2_with fail
      refine hca.mono ?_
      rintro e w8 ⟨rfl, hb8⟩
      have B8 : Aside0 (Below w.heap.size w w8) := ⟨B7.out.trans (hb8.mono B7.out.size)⟩
      clear hca hb8 B7 B6
      cases ca with
      | true =>
       obtain rfl : false = b := HBE.out
       obtain rfl : r = false := by rw [if_neg (by decide)] at H2; exact (Option.some.inj H2).symm
       go_wp2
       go_ret
       exact ⟨rfl, B8.out⟩
      | false =>
       obtain rfl : true = b := HBE.out
       rw [if_pos rfl] at H2
       have HH := Aside0.mk H2
       clear H2
       go_wp2
       go_roundg g
       case measure => omega
       case rel => exact ⟨j + 1, rfl, ⟨by have := HJ.out; omega⟩, HH, ⟨B8.out⟩⟩
     ·have hd0b : (d2 == 0) = false := by simpa using hd0
      obtain rfl : false = b := by have := HOK.out; rw [hd0b] at this; simpa using this
      clear hd0
      obtain rfl : r = false := by rw [if_neg (by decide)] at H2; exact (Option.some.inj H2).symm
      go_wp2
      go_ret
      exact ⟨rfl, below_alloc B6.out _⟩
   ·rw [if_neg k0] at hok
    by_cases k1 : kd = 1
    ·subst k1
     rw [if_pos rfl] at hok
     have hok := Option.some.inj hok
     have hnm := name_calls tx (by have := HTX.out; omega) w5
     rw [hok] at hnm
     clear hok k0
     go_wp2_with fail
     refine hnm.mono ?_
     rintro e w6 ⟨rfl, hw6⟩
     subst w6
     clear hnm
     cases b with
     | false =>
      obtain rfl : r = false := by rw [if_neg (by decide)] at H2; exact (Option.some.inj H2).symm
      go_wp2
      go_ret
      exact ⟨rfl, B5.out⟩
     | true =>
      rw [if_pos rfl] at H2
      have HH := Aside0.mk H2
      clear H2
      go_wp2
      go_roundg g
      case measure => omega
      case rel => exact ⟨j + 1, rfl, ⟨by have := HJ.out; omega⟩, HH, ⟨B5.out⟩⟩
    ·rw [if_neg k1] at hok
     by_cases k2 : kd = 2
     ·subst k2
      rw [if_pos (.inl rfl)] at hok
      obtain rfl : em = b := Option.some.inj hok
      clear hok k0 k1
      cases em with
      | false =>
       obtain rfl : r = false := by rw [if_neg (by decide)] at H2; exact (Option.some.inj H2).symm
       go_wp2
       go_ret
       exact ⟨rfl, B5.out⟩
      | true =>
       rw [if_pos rfl] at H2
       have HH := Aside0.mk H2
       clear H2
       go_wp2
       go_roundg g
       case measure => omega
       case rel => exact ⟨j + 1, rfl, ⟨by have := HJ.out; omega⟩, HH, ⟨B5.out⟩⟩
     ·by_cases k3 : kd = 3
      ·subst k3
       rw [if_pos (.inr rfl)] at hok
       obtain rfl : em = b := Option.some.inj hok
       clear hok k0 k1 k2
       cases em with
       | false =>
        obtain rfl : r = false := by rw [if_neg (by decide)] at H2; exact (Option.some.inj H2).symm
        go_wp2
        go_ret
        exact ⟨rfl, B5.out⟩
       | true =>
        rw [if_pos rfl] at H2
        have HH := Aside0.mk H2
        clear H2
        go_wp2
        go_roundg g
        case measure => omega
        case rel => exact ⟨j + 1, rfl, ⟨by have := HJ.out; omega⟩, HH, ⟨B5.out⟩⟩
      ·rw [if_neg (by rintro (h | h); exact k2 h; exact k3 h)] at hok
       obtain rfl : false = b := Option.some.inj hok
       clear hok
       obtain rfl : r = false := by rw [if_neg (by decide)] at H2; exact (Option.some.inj H2).symm
       go_wp2
       go_ret
       exact ⟨rfl, B5.out⟩

/-! ### lexer_Escape: function 18, by hand -/
def lexer_Escape.f (a0 : ByteArray) : Option ByteArray := if a0.size ≤ 35184372088832 then some ⟨(escL a0.data.toList).toArray⟩ else none
theorem lexer_Escape.calls (a0 : ByteArray) (r : ByteArray) (w : World) (h : lexer_Escape.f a0 = some r) :
  Calls Tryz.prog 18 #[.string a0] w fun e w' => e = .returned (.string r) ∧ Below w.heap.size w w' := by
 unfold lexer_Escape.f at h
 split at h
 ·rename_i hs
  injection h with h
  subst h
  exact escape a0 hs w
 ·cases h

/-! ### lexer_Print: function 16, by hand -/
def pieceS (t : S38) : ByteArray := if t.f0 = 0 then ⟨(escL t.f1.data.toList).toArray⟩ else if t.f0 = 1 then ⟨#[92]⟩ ++ t.f1 else if t.f0 = 2 then ⟨#[123]⟩ else ⟨#[125]⟩
def printL (l : List S38) : List UInt8 := Lib.join ((l.map pieceS).map (·.data.toList)) [32]
def lexer_Print.f (k : Nat) (l0 : List S38) : Option ByteArray := if l0.length ≤ 4000000000000 ∧ (∀ t ∈ l0, t.f1.size ≤ 35184372088832) ∧ (printL l0).length ≤ 140737488355328 then (lexer_May.f k l0).bind fun b => if b = true then some ⟨(printL l0).toArray⟩ else some ⟨#[]⟩ else none
theorem lexer_Print.mono : ∀ l0 k, LeO (lexer_Print.f k l0) (lexer_Print.f (k + 1) l0) := fun l0 k => LeO.ite (LeO.bind (lexer_May.mono l0 k) (fun _ => LeO.refl _)) (LeO.refl _)
theorem join_own {w : World} {base : Nat} {ok : Nat → Prop} {v : Value} {xs : List ByteArray} (h : Kd.R Kd.string 9 w base ok v xs) (hN : xs.length ≤ 140737488355328) (hlen : (Lib.join (xs.map (·.data.toList)) [32]).length ≤ 140737488355328) :
  Calls Tryz.prog 36 #[v, .string ⟨#[32]⟩] w fun e w' => e = .returned (.string ⟨(Lib.join (xs.map (·.data.toList)) [32]).toArray⟩) ∧ Below w.heap.size w w' := by
 obtain ⟨A, c, hv, hc, hC⟩ := Kd.R_reads h
 obtain ⟨inner, hown⟩ := Kd.R_own h
 rcases hown.2 with ⟨hv0, h0⟩ | ⟨g, cap, cur, hv1, _, hg, _, _, _, _⟩
 ·obtain rfl : xs = [] := List.eq_nil_of_length_eq_zero h0
  subst hv0
  refine (Tryz.strings_Join_none none 0 ⟨#[32]⟩ w).mono ?_
  rintro e w' ⟨rfl, rfl⟩
  exact ⟨rfl, Below.refl _ _⟩
 ·subst hv1
  injection hv with e1 e2 e3
  subst e1 e3
  refine Tryz.strings_Join g 0 cap xs ⟨#[32]⟩ w (fun j x hx => ?_) (blk_lt hg) hN hc hlen
  have hj := (List.getElem?_eq_some_iff.1 hx).1
  obtain ⟨ad, had, hcell⟩ := Kd.at_string hC (j : Int) (by omega) (by omega)
  injection had with had
  subst had
  rw [Int.toNat_natCast] at hcell
  have hadd : (⟨g, 0, none⟩ : Addr).add j = ⟨g, 0 + j, none⟩ := by unfold Addr.add; split <;> simp_all
  rw [hadd] at hcell
  rw [hcell]
  unfold rdOf
  rw [Int.toNat_natCast, List.getD_eq_getElem?_getD, hx]
  rfl
set_option maxHeartbeats 8000000 in
set_option maxRecDepth 100000 in
theorem lexer_Print.calls (k : Nat) (A0 : Option Addr) (c0 : Nat) (l0 : List S38) (r : ByteArray) (w : World) (hr0 : Kd.C k38 w A0 l0.length l0) (hc0 : l0.length ≤ c0) (hT : Lib.Utf8Tabs 0 1 w) (h : lexer_Print.f k l0 = some r) :
  Calls Tryz.prog 16 #[.slice A0 l0.length c0] w fun e w' => e = .returned (.string r) ∧ Below w.heap.size w w' := by
 unfold lexer_Print.f at h
 by_cases hcond : l0.length ≤ 4000000000000 ∧ (∀ t ∈ l0, t.f1.size ≤ 35184372088832) ∧ (printL l0).length ≤ 140737488355328
 case neg => rw [if_neg hcond] at h; cases h
 rw [if_pos hcond] at h
 obtain ⟨b, hb, h⟩ := Option.bind_eq_some_iff.mp h
 have h : (if b = true then some (⟨(printL l0).toArray⟩ : ByteArray) else some ⟨#[]⟩) = some r := h
 have hu38 := Tryz.underlying38
 have hnot : ∀ (x : Bool) (w : World), (Op.unary .not (.bool x)).run Tryz.prog w = .ok (.bool (!x)) w := fun _ _ => rfl
 have hmy := lexer_May.calls k A0 c0 l0 b w hr0 hc0 hT hb
 have HR := Aside0.mk hr0
 have HLEN := Aside0.mk hcond.1
 have HTX := Aside0.mk hcond.2.1
 have HPL := Aside0.mk hcond.2.2
 have H' := Aside0.mk h
 clear hr0 hT h hb hcond
 go_enter Tryz.func16, Tryz.ntmps16
 go_wp2_with fail
 refine hmy.mono ?_
 rintro e w1 ⟨rfl, hb1⟩
 have B1 := Aside0.mk hb1
 clear hmy hb1
 cases b with
 | false =>
  obtain rfl : (⟨#[]⟩ : ByteArray) = r := by have := H'.out; rw [if_neg (by decide)] at this; exact Option.some.inj this
  go_wp2
  go_ret
  exact ⟨rfl, B1.out⟩
 | true =>
  obtain rfl : (⟨(printL l0).toArray⟩ : ByteArray) = r := by have := H'.out; rw [if_pos rfl] at this; exact Option.some.inj this
  clear H'
  go_wp2
  go_loopg [3, 11] l0.length (fun gk u3 s11 w' => ∃ j : Nat, s11 = .int .i64 (j : Int) ∧ Aside0 (j + gk = l0.length) ∧ Aside0 (Kd.R Kd.string 9 w' w.heap.size (fun _ => True) u3 ((l0.take j).map pieceS)) ∧ Aside0 (Below w.heap.size w w'))
  case atStart => exact ⟨0, rfl, ⟨by omega⟩, ⟨Kd.R_nil _ _ _ _ _⟩, B1⟩
  case round =>
   clear B1
   obtain ⟨j, rfl, HJ, O, HB⟩ := hrel
   cases gk with
   | zero =>
    have hj : j = l0.length := by have := HJ.out; omega
    have hjl : ¬ ((j : Int) < (l0.length : Int)) := by omega
    have O2 := O.out
    rw [hj, List.take_length] at O2
    have hjn := join_own O2 (by rw [List.length_map]; have := HLEN.out; omega) HPL.out
    obtain ⟨RS, hRS⟩ : ∃ RS, (⟨(Lib.join ((l0.map pieceS).map (·.data.toList)) [32]).toArray⟩ : ByteArray) = RS := ⟨_, rfl⟩
    rw [hRS] at hjn
    have HRS : Aside0 ((⟨(printL l0).toArray⟩ : ByteArray) = RS) := ⟨hRS⟩
    clear hj O2 O hRS
    go_wp2_with fail
    refine hjn.mono ?_
    rintro e w2 ⟨rfl, hb2⟩
    have B2 := Aside0.mk (HB.out.trans (hb2.mono HB.out.size))
    clear hjn hb2
    go_wp2
    go_ret
    exact ⟨by rw [HRS.out]; rfl, B2.out⟩
   | succ g =>
    have hj : j < l0.length := by have := HJ.out; omega
    have hjl : (j : Int) < (l0.length : Int) := by omega
    obtain ⟨ad, ead, hx0, hx1, hx2⟩ := at_T38 HR.out (j : Int) (by omega) hjl
    rw [rd_at hj, Int.toNat_natCast] at hx0 hx1 hx2
    have hget : Aside0 (l0[j]? = some l0[j]) := ⟨List.getElem?_eq_getElem hj⟩
    have htx : Aside0 ((l0[j]).f1.size ≤ 35184372088832) := ⟨HTX.out _ (List.getElem_mem hj)⟩
    obtain ⟨t, ht⟩ : ∃ t, l0[j] = t := ⟨_, rfl⟩
    rw [ht] at hx0 hx1 hx2 hget htx
    obtain ⟨kd, tx, pl⟩ := t
    replace hx0 : wr.cell? (ad.add (j * 3)) = some (.int .i64 kd) := (HB.out.cell (World.block_lt_of_cell? w _ hx0)).trans hx0
    replace hx1 : wr.cell? ⟨(ad.add (j * 3)).block, (ad.add (j * 3)).off + 1, none⟩ = some (.string tx) := (HB.out.cell (World.block_lt_of_cell? w _ hx1)).trans hx1
    replace hx2 : wr.cell? ⟨(ad.add (j * 3)).block, (ad.add (j * 3)).off + 2, none⟩ = some (.int .i64 pl) := (HB.out.cell (World.block_lt_of_cell? w _ hx2)).trans hx2
    subst ead
    have HJ2 := Aside0.mk hj
    have hw1 : wrap64 ((j : Int) + 1) = (j : Int) + 1 := by have := HLEN.out; unfold wrap64; omega
    clear ht hj
    go_upto_region 7 with (fail)
    obtain ⟨tb, htb⟩ : ∃ tb, tb = wr.heap.size := ⟨_, rfl⟩
    rw [← htb]
    have B5 : Aside0 (Below w.heap.size w (wr.alloc (.cells #[.int .i64 kd, .string tx, .int .i64 pl] 38 (0, 0)))) := ⟨below_alloc HB.out _⟩
    have T5 : Aside0 ((wr.alloc (.cells #[.int .i64 kd, .string tx, .int .i64 pl] 38 (0, 0))).heap[tb]? = some (.cells #[.int .i64 kd, .string tx, .int .i64 pl] 38 (0, 0))) := ⟨new_at htb.symm _⟩
    have O5 : Aside0 (Kd.R Kd.string 9 (wr.alloc (.cells #[.int .i64 kd, .string tx, .int .i64 pl] 38 (0, 0))) w.heap.size (fun _ => True) u3 ((l0.take j).map pieceS)) := ⟨Kd.R_alloc O.out _⟩
    clear hx0 hx1 hx2 HB htb O
    generalize wr.alloc (.cells #[.int .i64 kd, .string tx, .int .i64 pl] 38 (0, 0)) = w5 at *
    have t0 : w5.cell? ⟨tb, 0, none⟩ = some (.int .i64 kd) := by rw [blk_cell T5.out]; rfl
    have t1 : w5.cell? ⟨tb, 1, none⟩ = some (.string tx) := by rw [blk_cell T5.out]; rfl
    have tlt := blk_lt T5.out
    by_cases k0 : kd = 0
    ·subst k0
     have hes := escape tx htx.out w5
     go_wp2_with fail
     refine hes.mono ?_
     rintro e w6 ⟨rfl, hb6⟩
     have B6 : Aside0 (Below w.heap.size w w6) := ⟨B5.out.trans (hb6.mono B5.out.size)⟩
     have O6 : Aside0 (Kd.R Kd.string 9 w6 w.heap.size (fun _ => True) u3 ((l0.take j).map pieceS)) := ⟨Kd.R_below O5.out hb6⟩
     clear hes hb6 t0 t1 tlt T5 B5 O5
     go_wp2_with (first | ((with_reducible refine gate_builtin (b := .append) (xs := #[.tmp 22, .tmp 26]) rfl ?_); at_builtin; refine Kd.R_append Kd.string (w0 := w) (W := w6) w.heap.size rfl (.tmp 22) (.tmp 26) 36 9 (.string ⟨#[]⟩) 16 rfl Tryz.underlying36 infos9 rfl (by decide) (by omega) u3 ((l0.take j).map pieceS) (⟨(escL tx.data.toList).toArray⟩) [.string (⟨(escL tx.data.toList).toArray⟩)] (fun _ => True) (fun _ => False) rfl rfl ?aP (fun _ hk => hk.elim) ?aF ?aO ?aB ?aS ?aL ?_; (case aP => rfl); (case aB => exact B6.out); (case aF => exact (fun _ _ => trivial)); (case aO => exact O6.out); (case aS => exact (B6.out).size); (case aL => (have h1 := HLEN.out; rw [List.length_map, List.length_take]; omega)); intro v8 w8 ho hb hg hat; have O8 := Aside0.mk ho; have B8 := Aside0.mk hb; clear ho hb hg hat))
     go_roundg g
     case measure => omega
     case rel => exact ⟨j + 1, by first | rfl | (rw [hw1]; rfl), ⟨by have := HJ.out; omega⟩, ⟨by rw [List.take_add_one, hget.out]; simp only [Option.toList, List.map_append, List.map_cons, List.map_nil]; rw [show pieceS ⟨0, tx, pl⟩ = ⟨(escL tx.data.toList).toArray⟩ by rfl]; exact O8.out⟩, B8⟩
    ·by_cases k1 : kd = 1
     ·subst k1
      have htx' : tx.size ≤ 35184372088832 := htx.out
      have hcat : ¬ (9223372036854775807 < 1 + tx.size) := by omega
      have hcat2 : ¬ (9223372036854775807 < (⟨#[92]⟩ : ByteArray).size + tx.size) := by show ¬ (9223372036854775807 < 1 + tx.size); omega
      clear htx'
      obtain ⟨ct, hct⟩ : ∃ ct, (⟨#[92]⟩ : ByteArray) ++ tx = ct := ⟨_, rfl⟩
      go_wp2_with (first | ((with_reducible refine gate_builtin (b := .append) (xs := #[.tmp 30, .tmp 34]) rfl ?_); at_builtin; refine Kd.R_append Kd.string (w0 := w) (W := w5) w.heap.size rfl (.tmp 30) (.tmp 34) 36 9 (.string ⟨#[]⟩) 16 rfl Tryz.underlying36 infos9 rfl (by decide) (by omega) u3 ((l0.take j).map pieceS) (ct) [.string (ct)] (fun _ => True) (fun _ => False) rfl rfl ?aP (fun _ hk => hk.elim) ?aF ?aO ?aB ?aS ?aL ?_; (case aP => rfl); (case aB => exact B5.out); (case aF => exact (fun _ _ => trivial)); (case aO => exact O5.out); (case aS => exact (B5.out).size); (case aL => (have h1 := HLEN.out; rw [List.length_map, List.length_take]; omega)); intro v8 w8 ho hb hg hat; have O8 := Aside0.mk ho; have B8 := Aside0.mk hb; clear ho hb hg hat))
      go_roundg g
      case measure => omega
      case rel => exact ⟨j + 1, by first | rfl | (rw [hw1]; rfl), ⟨by have := HJ.out; omega⟩, ⟨by rw [List.take_add_one, hget.out]; simp only [Option.toList, List.map_append, List.map_cons, List.map_nil]; rw [show pieceS ⟨1, tx, pl⟩ = ct by rw [← hct]; rfl]; exact O8.out⟩, B8⟩
     ·by_cases k2 : kd = 2
      ·subst k2
       go_wp2_with (first | ((with_reducible refine gate_builtin (b := .append) (xs := #[.tmp 38, .tmp 39]) rfl ?_); at_builtin; refine Kd.R_append Kd.string (w0 := w) (W := w5) w.heap.size rfl (.tmp 38) (.tmp 39) 36 9 (.string ⟨#[]⟩) 16 rfl Tryz.underlying36 infos9 rfl (by decide) (by omega) u3 ((l0.take j).map pieceS) (⟨#[123]⟩) [.string (⟨#[123]⟩)] (fun _ => True) (fun _ => False) rfl rfl ?aP (fun _ hk => hk.elim) ?aF ?aO ?aB ?aS ?aL ?_; (case aP => rfl); (case aB => exact B5.out); (case aF => exact (fun _ _ => trivial)); (case aO => exact O5.out); (case aS => exact (B5.out).size); (case aL => (have h1 := HLEN.out; rw [List.length_map, List.length_take]; omega)); intro v8 w8 ho hb hg hat; have O8 := Aside0.mk ho; have B8 := Aside0.mk hb; clear ho hb hg hat))
       go_roundg g
       case measure => omega
       case rel => exact ⟨j + 1, by first | rfl | (rw [hw1]; rfl), ⟨by have := HJ.out; omega⟩, ⟨by rw [List.take_add_one, hget.out]; simp only [Option.toList, List.map_append, List.map_cons, List.map_nil]; rw [show pieceS ⟨2, tx, pl⟩ = ⟨#[123]⟩ by rfl]; exact O8.out⟩, B8⟩
      ·have k3 := k2
       go_wp2_with (first | ((with_reducible refine gate_builtin (b := .append) (xs := #[.tmp 17, .tmp 18]) rfl ?_); at_builtin; refine Kd.R_append Kd.string (w0 := w) (W := w5) w.heap.size rfl (.tmp 17) (.tmp 18) 36 9 (.string ⟨#[]⟩) 16 rfl Tryz.underlying36 infos9 rfl (by decide) (by omega) u3 ((l0.take j).map pieceS) (⟨#[125]⟩) [.string (⟨#[125]⟩)] (fun _ => True) (fun _ => False) rfl rfl ?aP (fun _ hk => hk.elim) ?aF ?aO ?aB ?aS ?aL ?_; (case aP => rfl); (case aB => exact B5.out); (case aF => exact (fun _ _ => trivial)); (case aO => exact O5.out); (case aS => exact (B5.out).size); (case aL => (have h1 := HLEN.out; rw [List.length_map, List.length_take]; omega)); intro v8 w8 ho hb hg hat; have O8 := Aside0.mk ho; have B8 := Aside0.mk hb; clear ho hb hg hat))
       go_roundg g
       case measure => omega
       case rel => exact ⟨j + 1, by first | rfl | (rw [hw1]; rfl), ⟨by have := HJ.out; omega⟩, ⟨by rw [List.take_add_one, hget.out]; simp only [Option.toList, List.map_append, List.map_cons, List.map_nil]; rw [show pieceS ⟨kd, tx, pl⟩ = ⟨#[125]⟩ by unfold pieceS; rw [if_neg k0, if_neg k1, if_neg k2]]; exact O8.out⟩, B8⟩

/-! ### variorumlaw05_fixed: function 12 -/
def variorumlaw05_fixed.f (k : Nat)  : Option (Bool) := (lexer_Lex.f k (⟨#[92, 112, 123, 97, 92, 123, 98, 125, 32, 37, 32, 105, 116]⟩ : ByteArray)).bind fun bt174 => ((lexer_Lex.f k (⟨#[92, 49]⟩ : ByteArray)).bind fun bt180 => ((lexer_Lex.f k (⟨#[97, 92]⟩ : ByteArray)).bind fun bt186 => (if (bt174.2.1 == 0 && (bt174.2.2 == 0)) = true then ((variorumref05_Same.f k bt174.1 (([(⟨1, (⟨#[112]⟩ : ByteArray), 0⟩ : S38), (⟨2, (⟨#[]⟩ : ByteArray), 2⟩ : S38), (⟨0, (⟨#[97, 123, 98]⟩ : ByteArray), 3⟩ : S38), (⟨3, (⟨#[]⟩ : ByteArray), 7⟩ : S38)] : List (S38)))).bind fun t195 => (if t195 = true then (if (bt180.2.1 == 50 && (bt180.2.2 == 0)) = true then (if (bt186.2.1 == 50 && (bt186.2.2 == 1)) = true then ((lexer_Print.f k bt174.1).bind fun t196 => (some (t196.toList == ([92, 112, 32, 123, 32, 97, 92, 123, 98, 32, 125] : List UInt8)))) else (none)) else (none)) else (none))) else (none))))
theorem variorumlaw05_fixed.mono : ∀ k, LeO (variorumlaw05_fixed.f k ) (variorumlaw05_fixed.f (k + 1) ) := by
 intro  k
 unfold variorumlaw05_fixed.f
 repeat' first
   | (with_reducible exact lexer_Lex.mono _ _)
   | (with_reducible exact lexer_Print.mono _ _)
   | (with_reducible exact variorumref05_Same.mono _ _ _)
   | (with_reducible exact LeO.refl _)
   | (with_reducible exact LeO.none _)
   | (with_reducible refine LeO.ite ?_ ?_)
   | (with_reducible refine LeO.bind ?_ (fun _ => ?_))
   | exact lexer_Lex.mono _ _
   | exact lexer_Print.mono _ _
   | exact variorumref05_Same.mono _ _ _
   | exact LeO.none _
   | refine LeO.ite ?_ ?_
   | refine LeO.bind ?_ (fun _ => ?_)
set_option maxHeartbeats 8000000 in
set_option maxRecDepth 100000 in
theorem variorumlaw05_fixed.calls (k : Nat)  (r : Bool) (w : World) (hT : Lib.Utf8Tabs 0 1 w) (h : variorumlaw05_fixed.f k  = some r) :
  Calls Tryz.prog 12 #[] w fun e w' => e = .returned (.bool r) ∧ Below w.heap.size w w' := by
 have HT := Aside0.mk hT
 clear hT
 have hu25 := Tryz.underlying25
 have hu38 := Tryz.underlying38
 have HB := Aside0.mk (Below.refl w.heap.size w)
 have H : ((lexer_Lex.f k (⟨#[92, 112, 123, 97, 92, 123, 98, 125, 32, 37, 32, 105, 116]⟩ : ByteArray)).bind fun bt174 => ((lexer_Lex.f k (⟨#[92, 49]⟩ : ByteArray)).bind fun bt180 => ((lexer_Lex.f k (⟨#[97, 92]⟩ : ByteArray)).bind fun bt186 => (if (bt174.2.1 == 0 && (bt174.2.2 == 0)) = true then ((variorumref05_Same.f k bt174.1 (([(⟨1, (⟨#[112]⟩ : ByteArray), 0⟩ : S38), (⟨2, (⟨#[]⟩ : ByteArray), 2⟩ : S38), (⟨0, (⟨#[97, 123, 98]⟩ : ByteArray), 3⟩ : S38), (⟨3, (⟨#[]⟩ : ByteArray), 7⟩ : S38)] : List (S38)))).bind fun t195 => (if t195 = true then (if (bt180.2.1 == 50 && (bt180.2.2 == 0)) = true then (if (bt186.2.1 == 50 && (bt186.2.2 == 1)) = true then ((lexer_Print.f k bt174.1).bind fun t196 => (some (t196.toList == ([92, 112, 32, 123, 32, 97, 92, 123, 98, 32, 125] : List UInt8)))) else (none)) else (none)) else (none))) else (none))))) = some r := h
 clear h
 replace H := Option.bind_eq_some_iff.mp H
 obtain ⟨⟨t174, t177, t178⟩, A10, H⟩ := H
 replace H : ((lexer_Lex.f k (⟨#[92, 49]⟩ : ByteArray)).bind fun bt180 => ((lexer_Lex.f k (⟨#[97, 92]⟩ : ByteArray)).bind fun bt186 => (if (t177 == 0 && (t178 == 0)) = true then ((variorumref05_Same.f k t174 (([(⟨1, (⟨#[112]⟩ : ByteArray), 0⟩ : S38), (⟨2, (⟨#[]⟩ : ByteArray), 2⟩ : S38), (⟨0, (⟨#[97, 123, 98]⟩ : ByteArray), 3⟩ : S38), (⟨3, (⟨#[]⟩ : ByteArray), 7⟩ : S38)] : List (S38)))).bind fun t195 => (if t195 = true then (if (bt180.2.1 == 50 && (bt180.2.2 == 0)) = true then (if (bt186.2.1 == 50 && (bt186.2.2 == 1)) = true then ((lexer_Print.f k t174).bind fun t196 => (some (t196.toList == ([92, 112, 32, 123, 32, 97, 92, 123, 98, 32, 125] : List UInt8)))) else (none)) else (none)) else (none))) else (none)))) = some r := H
 have A1 := Aside0.mk A10
 clear A10
 replace H := Option.bind_eq_some_iff.mp H
 obtain ⟨⟨t180, t183, t184⟩, A20, H⟩ := H
 replace H : ((lexer_Lex.f k (⟨#[97, 92]⟩ : ByteArray)).bind fun bt186 => (if (t177 == 0 && (t178 == 0)) = true then ((variorumref05_Same.f k t174 (([(⟨1, (⟨#[112]⟩ : ByteArray), 0⟩ : S38), (⟨2, (⟨#[]⟩ : ByteArray), 2⟩ : S38), (⟨0, (⟨#[97, 123, 98]⟩ : ByteArray), 3⟩ : S38), (⟨3, (⟨#[]⟩ : ByteArray), 7⟩ : S38)] : List (S38)))).bind fun t195 => (if t195 = true then (if (t183 == 50 && (t184 == 0)) = true then (if (bt186.2.1 == 50 && (bt186.2.2 == 1)) = true then ((lexer_Print.f k t174).bind fun t196 => (some (t196.toList == ([92, 112, 32, 123, 32, 97, 92, 123, 98, 32, 125] : List UInt8)))) else (none)) else (none)) else (none))) else (none))) = some r := H
 have A2 := Aside0.mk A20
 clear A20
 replace H := Option.bind_eq_some_iff.mp H
 obtain ⟨⟨t186, t189, t190⟩, A30, H⟩ := H
 replace H : (if (t177 == 0 && (t178 == 0)) = true then ((variorumref05_Same.f k t174 (([(⟨1, (⟨#[112]⟩ : ByteArray), 0⟩ : S38), (⟨2, (⟨#[]⟩ : ByteArray), 2⟩ : S38), (⟨0, (⟨#[97, 123, 98]⟩ : ByteArray), 3⟩ : S38), (⟨3, (⟨#[]⟩ : ByteArray), 7⟩ : S38)] : List (S38)))).bind fun t195 => (if t195 = true then (if (t183 == 50 && (t184 == 0)) = true then (if (t189 == 50 && (t190 == 1)) = true then ((lexer_Print.f k t174).bind fun t196 => (some (t196.toList == ([92, 112, 32, 123, 32, 97, 92, 123, 98, 32, 125] : List UInt8)))) else (none)) else (none)) else (none))) else (none)) = some r := H
 have A3 := Aside0.mk A30
 clear A30
 obtain ⟨y192, hy192⟩ : ∃ y_ : List (S38), y_ = (([(⟨1, (⟨#[112]⟩ : ByteArray), 0⟩ : S38), (⟨2, (⟨#[]⟩ : ByteArray), 2⟩ : S38), (⟨0, (⟨#[97, 123, 98]⟩ : ByteArray), 3⟩ : S38), (⟨3, (⟨#[]⟩ : ByteArray), 7⟩ : S38)] : List (S38))) := ⟨_, rfl⟩
 replace H : (if (t177 == 0 && (t178 == 0)) = true then ((variorumref05_Same.f k t174 y192).bind fun t195 => (if t195 = true then (if (t183 == 50 && (t184 == 0)) = true then (if (t189 == 50 && (t190 == 1)) = true then ((lexer_Print.f k t174).bind fun t196 => (some (t196.toList == ([92, 112, 32, 123, 32, 97, 92, 123, 98, 32, 125] : List UInt8)))) else (none)) else (none)) else (none))) else (none)) = some r := by first | (rw [hy192]; with_reducible exact H) | (have H2_ := (Option.bind_some _ _).symm.trans H; rw [hy192]; with_reducible exact H2_) | (have H2_ := (Option.bind_some _ _).symm.trans H; with_reducible exact H2_) | with_reducible exact H | (rw [hy192]; exact H) | exact H
 have Ny192 := Aside0.mk hy192
 clear hy192
 by_cases c4 : (t177 == 0 && (t178 == 0)) = true
 ·rw [if_pos c4] at H
  have c4b0 : (t177 == 0 && (t178 == 0)) = true := c4
  (try (have c4b1 : decide (t177 = 0 && (t178 == 0)) = true := by simpa using c4))
  (try (have c4b2 : (t177 == 0 && (t178 == 0)) = true := by simpa using c4))
  clear c4
  replace H := Option.bind_eq_some_iff.mp H
  obtain ⟨t195, A50, H⟩ := H
  replace H : (if t195 = true then (if (t183 == 50 && (t184 == 0)) = true then (if (t189 == 50 && (t190 == 1)) = true then ((lexer_Print.f k t174).bind fun t196 => (some (t196.toList == ([92, 112, 32, 123, 32, 97, 92, 123, 98, 32, 125] : List UInt8)))) else (none)) else (none)) else (none)) = some r := H
  have A5 := Aside0.mk A50
  clear A50
  by_cases c6 : t195 = true
  ·subst c6
   have H1 : (if (t183 == 50 && (t184 == 0)) = true then (if (t189 == 50 && (t190 == 1)) = true then ((lexer_Print.f k t174).bind fun t196 => (some (t196.toList == ([92, 112, 32, 123, 32, 97, 92, 123, 98, 32, 125] : List UInt8)))) else (none)) else (none)) = some r := by rw [if_pos rfl] at H; exact H
   clear H
   have H := H1
   clear H1
   by_cases c7 : (t183 == 50 && (t184 == 0)) = true
   ·rw [if_pos c7] at H
    have c7b0 : (t183 == 50 && (t184 == 0)) = true := c7
    (try (have c7b1 : decide (t183 = 50 && (t184 == 0)) = true := by simpa using c7))
    (try (have c7b2 : (t183 == 50 && (t184 == 0)) = true := by simpa using c7))
    clear c7
    by_cases c8 : (t189 == 50 && (t190 == 1)) = true
    ·rw [if_pos c8] at H
     have c8b0 : (t189 == 50 && (t190 == 1)) = true := c8
     (try (have c8b1 : decide (t189 = 50 && (t190 == 1)) = true := by simpa using c8))
     (try (have c8b2 : (t189 == 50 && (t190 == 1)) = true := by simpa using c8))
     clear c8
     replace H := Option.bind_eq_some_iff.mp H
     obtain ⟨t196, A90, H⟩ := H
     replace H : (some (t196.toList == ([92, 112, 32, 123, 32, 97, 92, 123, 98, 32, 125] : List UInt8))) = some r := H
     have A9 := Aside0.mk A90
     clear A90
     obtain rfl := Option.some.inj H
     go_enter Tryz.func12, Tryz.ntmps12
     go_wp2_with (first | ((with_reducible refine gate_callee (f := 10) rfl ?_); refine goesL_ (some 9) rfl rfl Tryz.func10 (by kernel_rfl) rfl #[.string (⟨#[92, 112, 123, 97, 92, 123, 98, 125, 32, 37, 32, 105, 116]⟩ : ByteArray)] rfl (by (try simp only [List.map_toArray, List.map_cons, List.map_nil]); first | done | rfl | (simp only [List.length_drop, List.length_take]; rfl)) ?_; (with_reducible refine (lexer_Lex.calls k (⟨#[92, 112, 123, 97, 92, 123, 98, 125, 32, 37, 32, 105, 116]⟩ : ByteArray) t174 t177 t178 _ (by first | exact HT.out | exact Utf8Tabs_below HT.out (by repeat (first | (with_reducible first | exact HB.out | apply below_alloc | apply pw_below_drewN | apply below_drew1 | refine below_set ?_ GE179.out | refine below_set ?_ GE185.out | refine below_set ?_ GE191.out) | exact HB.out | exact Below.refl _ _))) A1.out).mono ?_); rintro e w10 ⟨v175, rfl, ho0, hb⟩; refine ⟨_, rfl, ?_⟩; have n0_ := Aside0.mk (Kd.R_lower ho0 (below_size (by repeat (first | (with_reducible first | exact HB.out | apply below_alloc | apply pw_below_drewN | apply below_drew1) | exact HB.out)))); have n1_ := Aside0.mk (below_step (by repeat (first | (with_reducible first | exact HB.out | apply below_alloc | apply pw_below_drewN | apply below_drew1) | exact HB.out)) hb); clear HB; have HO176 := n0_; have HB := n1_; clear n0_ n1_; (try clear hb); (try clear hb2); (try clear hk); (try clear hi); (try clear ho0)) | ((with_reducible refine gate_dst (N := 2) rfl ?_); refine box_event ?hg (N := 2) ?hd (cs := #[.int .i64 0, .int .i64 0]) (t := 25) ?hr ?_; (case hd => rfl); (case hg => rfl); (case hr => first | (go_simp; done) | (go_simp; rfl)); intro gb179 hg w11 hbox hb; have n0_ := Aside0.mk (Kd.R_below (by (with_reducible repeat (first | apply Kd.R_alloc | apply Kd.R_drewN | apply Kd.R_drew)); exact HO176.out) hb); have n1_ := Aside0.mk (below_step (by repeat (first | (with_reducible first | exact HB.out | apply below_alloc | apply pw_below_drewN | apply below_drew1) | exact HB.out)) hb); have n2_ := Aside0.mk (hbox); have n3_ := Aside0.mk ((by rw [hg]; exact (below_size (by repeat (first | (with_reducible first | exact HB.out | apply below_alloc | apply pw_below_drewN | apply below_drew1) | exact HB.out))) : w.heap.size ≤ gb179)); have n4_ := Aside0.mk ((by rw [hg]; exact (below_size (by repeat (first | (with_reducible first | exact HB.out | apply below_alloc | apply pw_below_drewN | apply below_drew1) | exact HB.out))) : w.heap.size ≤ gb179)); clear HO176; clear HB; have HO176 := n0_; have HB := n1_; have BK179 := n2_; have GW179 := n3_; have GE179 := n4_; clear n0_ n1_ n2_ n3_ n4_; clear hb hbox hg; have hcz12_0 : w11.cell? ⟨gb179, 0, none⟩ = some (.int .i64 0) := (blk_cell BK179.out 0).trans rfl; have hcz12_1 : w11.cell? ⟨gb179, 1, none⟩ = some (.int .i64 0) := (blk_cell BK179.out 1).trans rfl; have hfz12_0 := blk_frozen BK179.out 0; have hfz12_1 := blk_frozen BK179.out 1) | ((with_reducible refine gate_callee (f := 10) rfl ?_); refine goesL_ (some 13) rfl rfl Tryz.func10 (by kernel_rfl) rfl #[.string (⟨#[92, 49]⟩ : ByteArray)] rfl (by (try simp only [List.map_toArray, List.map_cons, List.map_nil]); first | done | rfl | (simp only [List.length_drop, List.length_take]; rfl)) ?_; (with_reducible refine (lexer_Lex.calls k (⟨#[92, 49]⟩ : ByteArray) t180 t183 t184 _ (by first | exact HT.out | exact Utf8Tabs_below HT.out (by repeat (first | (with_reducible first | exact HB.out | apply below_alloc | apply pw_below_drewN | apply below_drew1 | refine below_set ?_ GE179.out | refine below_set ?_ GE185.out | refine below_set ?_ GE191.out) | exact HB.out | exact Below.refl _ _))) A2.out).mono ?_); rintro e w13 ⟨v181, rfl, ho0, hb⟩; refine ⟨_, rfl, ?_⟩; have n0_ := Aside0.mk (Kd.R_elder' (by (with_reducible repeat (first | apply Kd.R_alloc | apply Kd.R_drewN | apply Kd.R_drew)); exact (Kd.R_mono (Kd.R_far (p := ⟨gb179, 1, none⟩) (Kd.R_far (p := ⟨gb179, 0, none⟩) (Kd.R_types HO176.out BK179.out (by decide)) (fun _ hk => hk.2) (.int .i64 t177)) (fun _ hk => hk.2) (.int .i64 t178)) (fun _ h_ => h_.1))) (Kd.R_base ho0) hb); have n1_ := Aside0.mk (Kd.R_lower (Kd.R_new' ho0 (Kd.R_lt (by (with_reducible repeat (first | apply Kd.R_alloc | apply Kd.R_drewN | apply Kd.R_drew)); exact (Kd.R_mono (Kd.R_far (p := ⟨gb179, 1, none⟩) (Kd.R_far (p := ⟨gb179, 0, none⟩) (Kd.R_types HO176.out BK179.out (by decide)) (fun _ hk => hk.2) (.int .i64 t177)) (fun _ hk => hk.2) (.int .i64 t178)) (fun _ h_ => h_.1))))) (below_size (by repeat (first | (with_reducible first | exact HB.out | apply below_alloc | apply pw_below_drewN | apply below_drew1 | refine below_set ?_ GE179.out) | exact HB.out)))); have n2_ := Aside0.mk (blk_below (g := gb179) (o := .cells #[.int .i64 t177, .int .i64 t178] 25 (0, 0)) (by (with_reducible repeat (first | refine blk_drewN ?_ _ | refine blk_drew ?_ | refine blk_alloc ?_ _)); refine blk_put (cs := #[.int .i64 t177, .int .i64 0]) ?_ 1 _ rfl; (with_reducible repeat (first | refine blk_drewN ?_ _ | refine blk_drew ?_ | refine blk_alloc ?_ _)); refine blk_put (cs := #[.int .i64 0, .int .i64 0]) ?_ 0 _ rfl; (with_reducible repeat (first | refine blk_drewN ?_ _ | refine blk_drew ?_ | refine blk_alloc ?_ _)); exact BK179.out) hb); have n3_ := Aside0.mk (below_step (by repeat (first | (with_reducible first | exact HB.out | apply below_alloc | apply pw_below_drewN | apply below_drew1 | refine below_set ?_ GE179.out) | exact HB.out)) hb); clear HO176; clear BK179; clear HB; have HO176 := n0_; have HO182 := n1_; have BK179 := n2_; have HB := n3_; clear n0_ n1_ n2_ n3_; (try clear hb); (try clear hb2); (try clear hk); (try clear hi); (try clear ho0)) | ((with_reducible refine gate_dst (N := 4) rfl ?_); refine box_event ?hg (N := 4) ?hd (cs := #[.int .i64 0, .int .i64 0]) (t := 25) ?hr ?_; (case hd => rfl); (case hg => rfl); (case hr => first | (go_simp; done) | (go_simp; rfl)); intro gb185 hg w14 hbox hb; have n0_ := Aside0.mk (Kd.R_below (by (with_reducible repeat (first | apply Kd.R_alloc | apply Kd.R_drewN | apply Kd.R_drew)); exact HO176.out) hb); have n1_ := Aside0.mk (Kd.R_below (by (with_reducible repeat (first | apply Kd.R_alloc | apply Kd.R_drewN | apply Kd.R_drew)); exact HO182.out) hb); have n2_ := Aside0.mk (blk_below (g := gb179) (o := .cells #[.int .i64 t177, .int .i64 t178] 25 (0, 0)) (by (with_reducible repeat (first | refine blk_drewN ?_ _ | refine blk_drew ?_ | refine blk_alloc ?_ _)); exact BK179.out) hb); have n3_ := Aside0.mk (below_step (by repeat (first | (with_reducible first | exact HB.out | apply below_alloc | apply pw_below_drewN | apply below_drew1 | refine below_set ?_ GE179.out) | exact HB.out)) hb); have n4_ := Aside0.mk (hbox); have n5_ := Aside0.mk ((by rw [hg]; exact (below_size (by repeat (first | (with_reducible first | exact HB.out | apply below_alloc | apply pw_below_drewN | apply below_drew1 | refine below_set ?_ GE179.out) | exact HB.out))) : w.heap.size ≤ gb185)); have n6_ := Aside0.mk ((by rw [hg]; exact (below_size (by repeat (first | (with_reducible first | exact HB.out | apply below_alloc | apply pw_below_drewN | apply below_drew1 | refine below_set ?_ GE179.out) | exact HB.out))) : w.heap.size ≤ gb185)); have n7_ := Aside0.mk ((by rw [hg]; exact Nat.ne_of_lt (blk_lt (g := gb179) (o := .cells #[.int .i64 t177, .int .i64 t178] 25 (0, 0)) (by (with_reducible repeat (first | refine blk_drewN ?_ _ | refine blk_drew ?_ | refine blk_alloc ?_ _)); exact BK179.out)) : gb179 ≠ gb185)); have n8_ := Aside0.mk ((by rw [hg]; exact Nat.ne_of_gt (blk_lt (g := gb179) (o := .cells #[.int .i64 t177, .int .i64 t178] 25 (0, 0)) (by (with_reducible repeat (first | refine blk_drewN ?_ _ | refine blk_drew ?_ | refine blk_alloc ?_ _)); exact BK179.out)) : gb185 ≠ gb179)); clear HO176; clear HO182; clear BK179; clear HB; have HO176 := n0_; have HO182 := n1_; have BK179 := n2_; have HB := n3_; have BK185 := n4_; have GW185 := n5_; have GE185 := n6_; have NB179_185 := n7_; have NB185_179 := n8_; clear n0_ n1_ n2_ n3_ n4_ n5_ n6_ n7_ n8_; clear hb hbox hg; have hnb15 := NB185_179.out; have hnc15 := NB179_185.out; have hcz16_0 : w14.cell? ⟨gb185, 0, none⟩ = some (.int .i64 0) := (blk_cell BK185.out 0).trans rfl; have hcz16_1 : w14.cell? ⟨gb185, 1, none⟩ = some (.int .i64 0) := (blk_cell BK185.out 1).trans rfl; have hfz16_0 := blk_frozen BK185.out 0; have hfz16_1 := blk_frozen BK185.out 1) | ((with_reducible refine gate_callee (f := 10) rfl ?_); refine goesL_ (some 17) rfl rfl Tryz.func10 (by kernel_rfl) rfl #[.string (⟨#[97, 92]⟩ : ByteArray)] rfl (by (try simp only [List.map_toArray, List.map_cons, List.map_nil]); first | done | rfl | (simp only [List.length_drop, List.length_take]; rfl)) ?_; (with_reducible refine (lexer_Lex.calls k (⟨#[97, 92]⟩ : ByteArray) t186 t189 t190 _ (by first | exact HT.out | exact Utf8Tabs_below HT.out (by repeat (first | (with_reducible first | exact HB.out | apply below_alloc | apply pw_below_drewN | apply below_drew1 | refine below_set ?_ GE179.out | refine below_set ?_ GE185.out | refine below_set ?_ GE191.out) | exact HB.out | exact Below.refl _ _))) A3.out).mono ?_); rintro e w17 ⟨v187, rfl, ho0, hb⟩; refine ⟨_, rfl, ?_⟩; have n0_ := Aside0.mk (Kd.R_elder' (by (with_reducible repeat (first | apply Kd.R_alloc | apply Kd.R_drewN | apply Kd.R_drew)); exact (Kd.R_mono (Kd.R_far (p := ⟨gb185, 1, none⟩) (Kd.R_far (p := ⟨gb185, 0, none⟩) (Kd.R_types HO176.out BK185.out (by decide)) (fun _ hk => hk.2) (.int .i64 t183)) (fun _ hk => hk.2) (.int .i64 t184)) (fun _ h_ => h_.1))) (Kd.R_base ho0) hb); have n1_ := Aside0.mk (Kd.R_elder' (by (with_reducible repeat (first | apply Kd.R_alloc | apply Kd.R_drewN | apply Kd.R_drew)); exact (Kd.R_mono (Kd.R_far (p := ⟨gb185, 1, none⟩) (Kd.R_far (p := ⟨gb185, 0, none⟩) (Kd.R_types HO182.out BK185.out (by decide)) (fun _ hk => hk.2) (.int .i64 t183)) (fun _ hk => hk.2) (.int .i64 t184)) (fun _ h_ => h_.1))) (Kd.R_base ho0) hb); have n2_ := Aside0.mk (Kd.R_lower (Kd.R_new' (Kd.R_new' ho0 (Kd.R_lt (by (with_reducible repeat (first | apply Kd.R_alloc | apply Kd.R_drewN | apply Kd.R_drew)); exact (Kd.R_mono (Kd.R_far (p := ⟨gb185, 1, none⟩) (Kd.R_far (p := ⟨gb185, 0, none⟩) (Kd.R_types HO176.out BK185.out (by decide)) (fun _ hk => hk.2) (.int .i64 t183)) (fun _ hk => hk.2) (.int .i64 t184)) (fun _ h_ => h_.1))))) (Kd.R_lt (by (with_reducible repeat (first | apply Kd.R_alloc | apply Kd.R_drewN | apply Kd.R_drew)); exact (Kd.R_mono (Kd.R_far (p := ⟨gb185, 1, none⟩) (Kd.R_far (p := ⟨gb185, 0, none⟩) (Kd.R_types HO182.out BK185.out (by decide)) (fun _ hk => hk.2) (.int .i64 t183)) (fun _ hk => hk.2) (.int .i64 t184)) (fun _ h_ => h_.1))))) (below_size (by repeat (first | (with_reducible first | exact HB.out | apply below_alloc | apply pw_below_drewN | apply below_drew1 | refine below_set ?_ GE179.out | refine below_set ?_ GE185.out) | exact HB.out)))); have n3_ := Aside0.mk (blk_below (g := gb179) (o := .cells #[.int .i64 t177, .int .i64 t178] 25 (0, 0)) (by (with_reducible repeat (first | refine blk_drewN ?_ _ | refine blk_drew ?_ | refine blk_alloc ?_ _)); refine blk_far ?_ NB179_185.out _; (with_reducible repeat (first | refine blk_drewN ?_ _ | refine blk_drew ?_ | refine blk_alloc ?_ _)); refine blk_far ?_ NB179_185.out _; (with_reducible repeat (first | refine blk_drewN ?_ _ | refine blk_drew ?_ | refine blk_alloc ?_ _)); exact BK179.out) hb); have n4_ := Aside0.mk (blk_below (g := gb185) (o := .cells #[.int .i64 t183, .int .i64 t184] 25 (0, 0)) (by (with_reducible repeat (first | refine blk_drewN ?_ _ | refine blk_drew ?_ | refine blk_alloc ?_ _)); refine blk_put (cs := #[.int .i64 t183, .int .i64 0]) ?_ 1 _ rfl; (with_reducible repeat (first | refine blk_drewN ?_ _ | refine blk_drew ?_ | refine blk_alloc ?_ _)); refine blk_put (cs := #[.int .i64 0, .int .i64 0]) ?_ 0 _ rfl; (with_reducible repeat (first | refine blk_drewN ?_ _ | refine blk_drew ?_ | refine blk_alloc ?_ _)); exact BK185.out) hb); have n5_ := Aside0.mk (below_step (by repeat (first | (with_reducible first | exact HB.out | apply below_alloc | apply pw_below_drewN | apply below_drew1 | refine below_set ?_ GE179.out | refine below_set ?_ GE185.out) | exact HB.out)) hb); clear HO176; clear HO182; clear BK179; clear BK185; clear HB; have HO176 := n0_; have HO182 := n1_; have HO188 := n2_; have BK179 := n3_; have BK185 := n4_; have HB := n5_; clear n0_ n1_ n2_ n3_ n4_ n5_; (try clear hb); (try clear hb2); (try clear hk); (try clear hi); (try clear ho0)) | ((with_reducible refine gate_dst (N := 6) rfl ?_); refine box_event ?hg (N := 6) ?hd (cs := #[.int .i64 0, .int .i64 0]) (t := 25) ?hr ?_; (case hd => rfl); (case hg => rfl); (case hr => first | (go_simp; done) | (go_simp; rfl)); intro gb191 hg w18 hbox hb; have n0_ := Aside0.mk (Kd.R_below (by (with_reducible repeat (first | apply Kd.R_alloc | apply Kd.R_drewN | apply Kd.R_drew)); exact HO176.out) hb); have n1_ := Aside0.mk (Kd.R_below (by (with_reducible repeat (first | apply Kd.R_alloc | apply Kd.R_drewN | apply Kd.R_drew)); exact HO182.out) hb); have n2_ := Aside0.mk (Kd.R_below (by (with_reducible repeat (first | apply Kd.R_alloc | apply Kd.R_drewN | apply Kd.R_drew)); exact HO188.out) hb); have n3_ := Aside0.mk (blk_below (g := gb179) (o := .cells #[.int .i64 t177, .int .i64 t178] 25 (0, 0)) (by (with_reducible repeat (first | refine blk_drewN ?_ _ | refine blk_drew ?_ | refine blk_alloc ?_ _)); exact BK179.out) hb); have n4_ := Aside0.mk (blk_below (g := gb185) (o := .cells #[.int .i64 t183, .int .i64 t184] 25 (0, 0)) (by (with_reducible repeat (first | refine blk_drewN ?_ _ | refine blk_drew ?_ | refine blk_alloc ?_ _)); exact BK185.out) hb); have n5_ := Aside0.mk (below_step (by repeat (first | (with_reducible first | exact HB.out | apply below_alloc | apply pw_below_drewN | apply below_drew1 | refine below_set ?_ GE179.out | refine below_set ?_ GE185.out) | exact HB.out)) hb); have n6_ := Aside0.mk (hbox); have n7_ := Aside0.mk ((by rw [hg]; exact (below_size (by repeat (first | (with_reducible first | exact HB.out | apply below_alloc | apply pw_below_drewN | apply below_drew1 | refine below_set ?_ GE179.out | refine below_set ?_ GE185.out) | exact HB.out))) : w.heap.size ≤ gb191)); have n8_ := Aside0.mk ((by rw [hg]; exact (below_size (by repeat (first | (with_reducible first | exact HB.out | apply below_alloc | apply pw_below_drewN | apply below_drew1 | refine below_set ?_ GE179.out | refine below_set ?_ GE185.out) | exact HB.out))) : w.heap.size ≤ gb191)); have n9_ := Aside0.mk ((by rw [hg]; exact Nat.ne_of_lt (blk_lt (g := gb179) (o := .cells #[.int .i64 t177, .int .i64 t178] 25 (0, 0)) (by (with_reducible repeat (first | refine blk_drewN ?_ _ | refine blk_drew ?_ | refine blk_alloc ?_ _)); exact BK179.out)) : gb179 ≠ gb191)); have n10_ := Aside0.mk ((by rw [hg]; exact Nat.ne_of_gt (blk_lt (g := gb179) (o := .cells #[.int .i64 t177, .int .i64 t178] 25 (0, 0)) (by (with_reducible repeat (first | refine blk_drewN ?_ _ | refine blk_drew ?_ | refine blk_alloc ?_ _)); exact BK179.out)) : gb191 ≠ gb179)); have n11_ := Aside0.mk ((by rw [hg]; exact Nat.ne_of_lt (blk_lt (g := gb185) (o := .cells #[.int .i64 t183, .int .i64 t184] 25 (0, 0)) (by (with_reducible repeat (first | refine blk_drewN ?_ _ | refine blk_drew ?_ | refine blk_alloc ?_ _)); exact BK185.out)) : gb185 ≠ gb191)); have n12_ := Aside0.mk ((by rw [hg]; exact Nat.ne_of_gt (blk_lt (g := gb185) (o := .cells #[.int .i64 t183, .int .i64 t184] 25 (0, 0)) (by (with_reducible repeat (first | refine blk_drewN ?_ _ | refine blk_drew ?_ | refine blk_alloc ?_ _)); exact BK185.out)) : gb191 ≠ gb185)); clear HO176; clear HO182; clear HO188; clear BK179; clear BK185; clear HB; have HO176 := n0_; have HO182 := n1_; have HO188 := n2_; have BK179 := n3_; have BK185 := n4_; have HB := n5_; have BK191 := n6_; have GW191 := n7_; have GE191 := n8_; have NB179_191 := n9_; have NB191_179 := n10_; have NB185_191 := n11_; have NB191_185 := n12_; clear n0_ n1_ n2_ n3_ n4_ n5_ n6_ n7_ n8_ n9_ n10_ n11_ n12_; clear hb hbox hg; have hnb19 := NB191_179.out; have hnc19 := NB179_191.out; have hnb20 := NB191_185.out; have hnc20 := NB185_191.out; have hcz21_0 : w18.cell? ⟨gb191, 0, none⟩ = some (.int .i64 0) := (blk_cell BK191.out 0).trans rfl; have hcz21_1 : w18.cell? ⟨gb191, 1, none⟩ = some (.int .i64 0) := (blk_cell BK191.out 1).trans rfl; have hfz21_0 := blk_frozen BK191.out 0; have hfz21_1 := blk_frozen BK191.out 1) | ((with_reducible refine gate_dst (N := 24) rfl ?_); refine Kd.R_lit k38 _ 38 ?hg (N := 24) ?hd (xs := ([(⟨1, (⟨#[112]⟩ : ByteArray), 0⟩ : S38), (⟨2, (⟨#[]⟩ : ByteArray), 2⟩ : S38), (⟨0, (⟨#[97, 123, 98]⟩ : ByteArray), 3⟩ : S38), (⟨3, (⟨#[]⟩ : ByteArray), 7⟩ : S38)] : List (S38))) (inner := [.int .i64 1, .string (⟨#[112]⟩ : ByteArray), .int .i64 0, .int .i64 2, .string (⟨#[]⟩ : ByteArray), .int .i64 2, .int .i64 0, .string (⟨#[97, 123, 98]⟩ : ByteArray), .int .i64 3, .int .i64 3, .string (⟨#[]⟩ : ByteArray), .int .i64 7]) (ok := fun _ => True) (okp := fun _ => True) ?hr ?hp (fun _ hk => hk) trivial (Below.refl _ _) (Nat.le_refl _) (by simp) ?_; (case hd => rfl); (case hg => rfl); (case hr => first | (go_simp; done) | (go_simp; rfl)); (case hp => exact (Reps.c3 (show Kd.M k38 _ _ _ (⟨1, (⟨#[112]⟩ : ByteArray), 0⟩ : S38) [.int .i64 1, .string (⟨#[112]⟩ : ByteArray), .int .i64 0] from (k38_mkM _ _ _ (⟨1, (⟨#[112]⟩ : ByteArray), 0⟩ : S38) )) (Reps.c3 (show Kd.M k38 _ _ _ (⟨2, (⟨#[]⟩ : ByteArray), 2⟩ : S38) [.int .i64 2, .string (⟨#[]⟩ : ByteArray), .int .i64 2] from (k38_mkM _ _ _ (⟨2, (⟨#[]⟩ : ByteArray), 2⟩ : S38) )) (Reps.c3 (show Kd.M k38 _ _ _ (⟨0, (⟨#[97, 123, 98]⟩ : ByteArray), 3⟩ : S38) [.int .i64 0, .string (⟨#[97, 123, 98]⟩ : ByteArray), .int .i64 3] from (k38_mkM _ _ _ (⟨0, (⟨#[97, 123, 98]⟩ : ByteArray), 3⟩ : S38) )) (Reps.c3 (show Kd.M k38 _ _ _ (⟨3, (⟨#[]⟩ : ByteArray), 7⟩ : S38) [.int .i64 3, .string (⟨#[]⟩ : ByteArray), .int .i64 7] from (k38_mkM _ _ _ (⟨3, (⟨#[]⟩ : ByteArray), 7⟩ : S38) )) (Reps.none _ _)))))); intro v193 w22 ho23 hb hg_ hnew_; clear hg_ hnew_; (first | rw [← Ny192.out] at ho23 | (simp only [Int.reduceToNat] at ho23; rw [← Ny192.out] at ho23)); have n0_ := Aside0.mk (Kd.R_elder' (by (with_reducible repeat (first | apply Kd.R_alloc | apply Kd.R_drewN | apply Kd.R_drew)); exact (Kd.R_mono (Kd.R_far (p := ⟨gb191, 1, none⟩) (Kd.R_far (p := ⟨gb191, 0, none⟩) (Kd.R_types HO176.out BK191.out (by decide)) (fun _ hk => hk.2) (.int .i64 t189)) (fun _ hk => hk.2) (.int .i64 t190)) (fun _ h_ => h_.1))) (Kd.R_base ho23) hb); have n1_ := Aside0.mk (Kd.R_elder' (by (with_reducible repeat (first | apply Kd.R_alloc | apply Kd.R_drewN | apply Kd.R_drew)); exact (Kd.R_mono (Kd.R_far (p := ⟨gb191, 1, none⟩) (Kd.R_far (p := ⟨gb191, 0, none⟩) (Kd.R_types HO182.out BK191.out (by decide)) (fun _ hk => hk.2) (.int .i64 t189)) (fun _ hk => hk.2) (.int .i64 t190)) (fun _ h_ => h_.1))) (Kd.R_base ho23) hb); have n2_ := Aside0.mk (Kd.R_elder' (by (with_reducible repeat (first | apply Kd.R_alloc | apply Kd.R_drewN | apply Kd.R_drew)); exact (Kd.R_mono (Kd.R_far (p := ⟨gb191, 1, none⟩) (Kd.R_far (p := ⟨gb191, 0, none⟩) (Kd.R_types HO188.out BK191.out (by decide)) (fun _ hk => hk.2) (.int .i64 t189)) (fun _ hk => hk.2) (.int .i64 t190)) (fun _ h_ => h_.1))) (Kd.R_base ho23) hb); have n3_ := Aside0.mk (Kd.R_lower (Kd.R_new' (Kd.R_new' (Kd.R_new' ho23 (Kd.R_lt (by (with_reducible repeat (first | apply Kd.R_alloc | apply Kd.R_drewN | apply Kd.R_drew)); exact (Kd.R_mono (Kd.R_far (p := ⟨gb191, 1, none⟩) (Kd.R_far (p := ⟨gb191, 0, none⟩) (Kd.R_types HO176.out BK191.out (by decide)) (fun _ hk => hk.2) (.int .i64 t189)) (fun _ hk => hk.2) (.int .i64 t190)) (fun _ h_ => h_.1))))) (Kd.R_lt (by (with_reducible repeat (first | apply Kd.R_alloc | apply Kd.R_drewN | apply Kd.R_drew)); exact (Kd.R_mono (Kd.R_far (p := ⟨gb191, 1, none⟩) (Kd.R_far (p := ⟨gb191, 0, none⟩) (Kd.R_types HO182.out BK191.out (by decide)) (fun _ hk => hk.2) (.int .i64 t189)) (fun _ hk => hk.2) (.int .i64 t190)) (fun _ h_ => h_.1))))) (Kd.R_lt (by (with_reducible repeat (first | apply Kd.R_alloc | apply Kd.R_drewN | apply Kd.R_drew)); exact (Kd.R_mono (Kd.R_far (p := ⟨gb191, 1, none⟩) (Kd.R_far (p := ⟨gb191, 0, none⟩) (Kd.R_types HO188.out BK191.out (by decide)) (fun _ hk => hk.2) (.int .i64 t189)) (fun _ hk => hk.2) (.int .i64 t190)) (fun _ h_ => h_.1))))) (below_size (by repeat (first | (with_reducible first | exact HB.out | apply below_alloc | apply pw_below_drewN | apply below_drew1 | refine below_set ?_ GE179.out | refine below_set ?_ GE185.out | refine below_set ?_ GE191.out) | exact HB.out)))); have n4_ := Aside0.mk (blk_below (g := gb179) (o := .cells #[.int .i64 t177, .int .i64 t178] 25 (0, 0)) (by (with_reducible repeat (first | refine blk_drewN ?_ _ | refine blk_drew ?_ | refine blk_alloc ?_ _)); refine blk_far ?_ NB179_191.out _; (with_reducible repeat (first | refine blk_drewN ?_ _ | refine blk_drew ?_ | refine blk_alloc ?_ _)); refine blk_far ?_ NB179_191.out _; (with_reducible repeat (first | refine blk_drewN ?_ _ | refine blk_drew ?_ | refine blk_alloc ?_ _)); exact BK179.out) hb); have n5_ := Aside0.mk (blk_below (g := gb185) (o := .cells #[.int .i64 t183, .int .i64 t184] 25 (0, 0)) (by (with_reducible repeat (first | refine blk_drewN ?_ _ | refine blk_drew ?_ | refine blk_alloc ?_ _)); refine blk_far ?_ NB185_191.out _; (with_reducible repeat (first | refine blk_drewN ?_ _ | refine blk_drew ?_ | refine blk_alloc ?_ _)); refine blk_far ?_ NB185_191.out _; (with_reducible repeat (first | refine blk_drewN ?_ _ | refine blk_drew ?_ | refine blk_alloc ?_ _)); exact BK185.out) hb); have n6_ := Aside0.mk (blk_below (g := gb191) (o := .cells #[.int .i64 t189, .int .i64 t190] 25 (0, 0)) (by (with_reducible repeat (first | refine blk_drewN ?_ _ | refine blk_drew ?_ | refine blk_alloc ?_ _)); refine blk_put (cs := #[.int .i64 t189, .int .i64 0]) ?_ 1 _ rfl; (with_reducible repeat (first | refine blk_drewN ?_ _ | refine blk_drew ?_ | refine blk_alloc ?_ _)); refine blk_put (cs := #[.int .i64 0, .int .i64 0]) ?_ 0 _ rfl; (with_reducible repeat (first | refine blk_drewN ?_ _ | refine blk_drew ?_ | refine blk_alloc ?_ _)); exact BK191.out) hb); have n7_ := Aside0.mk (below_step (by repeat (first | (with_reducible first | exact HB.out | apply below_alloc | apply pw_below_drewN | apply below_drew1 | refine below_set ?_ GE179.out | refine below_set ?_ GE185.out | refine below_set ?_ GE191.out) | exact HB.out)) hb); clear HO176; clear HO182; clear HO188; clear BK179; clear BK185; clear BK191; clear HB; have HO176 := n0_; have HO182 := n1_; have HO188 := n2_; have HO194 := n3_; have BK179 := n4_; have BK185 := n5_; have BK191 := n6_; have HB := n7_; clear n0_ n1_ n2_ n3_ n4_ n5_ n6_ n7_; clear hb ho23; have hcz24_0 : w22.cell? ⟨gb179, 0, none⟩ = some (.int .i64 t177) := (blk_cell BK179.out 0).trans rfl; have hcz24_1 : w22.cell? ⟨gb179, 1, none⟩ = some (.int .i64 t178) := (blk_cell BK179.out 1).trans rfl; have hfz24_0 := blk_frozen BK179.out 0; have hfz24_1 := blk_frozen BK179.out 1; obtain ⟨Ao25, co25, eo25⟩ := Kd.R_slice HO176.out; subst eo25; obtain ⟨Ao26, co26, eo26⟩ := Kd.R_slice HO194.out; subst eo26) | (go_at_call 13; (with_reducible refine (variorumref05_Same.calls k _ _ t174 _ _ y192 true _ ?side1 ?side2 ?side3 ?side4 A5.out).mono ?_); (case side1 => repeat (first | exact (Kd.R_reads' HO176.out).2.2 | (with_reducible refine Kd.C_alloc ?_ _) | (with_reducible refine Kd.C_drewN ?_ _) | (with_reducible refine Kd.C_drew ?_))); (case side2 => exact (Kd.R_reads' HO176.out).2.1); (case side3 => repeat (first | exact (Kd.R_reads' HO194.out).2.2 | (with_reducible refine Kd.C_alloc ?_ _) | (with_reducible refine Kd.C_drewN ?_ _) | (with_reducible refine Kd.C_drew ?_))); (case side4 => exact (Kd.R_reads' HO194.out).2.1); rintro e w' ⟨rfl, ⟨nd, rfl⟩⟩; have hcz27_0 : w22.cell? ⟨gb185, 0, none⟩ = some (.int .i64 t183) := (blk_cell BK185.out 0).trans rfl; have hcz27_1 : w22.cell? ⟨gb185, 1, none⟩ = some (.int .i64 t184) := (blk_cell BK185.out 1).trans rfl; have hfz27_0 := blk_frozen BK185.out 0; have hfz27_1 := blk_frozen BK185.out 1; have hcz28_0 : w22.cell? ⟨gb191, 0, none⟩ = some (.int .i64 t189) := (blk_cell BK191.out 0).trans rfl; have hcz28_1 : w22.cell? ⟨gb191, 1, none⟩ = some (.int .i64 t190) := (blk_cell BK191.out 1).trans rfl; have hfz28_0 := blk_frozen BK191.out 0; have hfz28_1 := blk_frozen BK191.out 1) | (go_at_call 16; (with_reducible refine (lexer_Print.calls k _ _ t174 t196 _ ?side1 ?side2 (by first | exact HT.out | exact Utf8Tabs_below HT.out (by repeat (first | (with_reducible first | exact HB.out | apply below_alloc | apply pw_below_drewN | apply below_drew1 | refine below_set ?_ GE179.out | refine below_set ?_ GE185.out | refine below_set ?_ GE191.out) | exact HB.out | exact Below.refl _ _))) A9.out).mono ?_); (case side1 => repeat (first | exact (Kd.R_reads' HO176.out).2.2 | (with_reducible refine Kd.C_alloc ?_ _) | (with_reducible refine Kd.C_drewN ?_ _) | (with_reducible refine Kd.C_drew ?_))); (case side2 => exact (Kd.R_reads' HO176.out).2.1); rintro e w29 ⟨rfl, hb⟩; have n0_ := Aside0.mk (Kd.R_below (by (with_reducible repeat (first | apply Kd.R_alloc | apply Kd.R_drewN | apply Kd.R_drew)); exact HO176.out) hb); have n1_ := Aside0.mk (Kd.R_below (by (with_reducible repeat (first | apply Kd.R_alloc | apply Kd.R_drewN | apply Kd.R_drew)); exact HO182.out) hb); have n2_ := Aside0.mk (Kd.R_below (by (with_reducible repeat (first | apply Kd.R_alloc | apply Kd.R_drewN | apply Kd.R_drew)); exact HO188.out) hb); have n3_ := Aside0.mk (Kd.R_below (by (with_reducible repeat (first | apply Kd.R_alloc | apply Kd.R_drewN | apply Kd.R_drew)); exact HO194.out) hb); have n4_ := Aside0.mk (blk_below (g := gb179) (o := .cells #[.int .i64 t177, .int .i64 t178] 25 (0, 0)) (by (with_reducible repeat (first | refine blk_drewN ?_ _ | refine blk_drew ?_ | refine blk_alloc ?_ _)); exact BK179.out) hb); have n5_ := Aside0.mk (blk_below (g := gb185) (o := .cells #[.int .i64 t183, .int .i64 t184] 25 (0, 0)) (by (with_reducible repeat (first | refine blk_drewN ?_ _ | refine blk_drew ?_ | refine blk_alloc ?_ _)); exact BK185.out) hb); have n6_ := Aside0.mk (blk_below (g := gb191) (o := .cells #[.int .i64 t189, .int .i64 t190] 25 (0, 0)) (by (with_reducible repeat (first | refine blk_drewN ?_ _ | refine blk_drew ?_ | refine blk_alloc ?_ _)); exact BK191.out) hb); have n7_ := Aside0.mk (below_step (by repeat (first | (with_reducible first | exact HB.out | apply below_alloc | apply pw_below_drewN | apply below_drew1 | refine below_set ?_ GE179.out | refine below_set ?_ GE185.out | refine below_set ?_ GE191.out) | exact HB.out)) hb); clear HO176; clear HO182; clear HO188; clear HO194; clear BK179; clear BK185; clear BK191; clear HB; have HO176 := n0_; have HO182 := n1_; have HO188 := n2_; have HO194 := n3_; have BK179 := n4_; have BK185 := n5_; have BK191 := n6_; have HB := n7_; clear n0_ n1_ n2_ n3_ n4_ n5_ n6_ n7_; (try clear hb); (try clear hb2); (try clear hk); (try clear hi)))
     go_ret
     exact ⟨by first | rfl | (simp [errW_none, errW_some] <;> rfl) | (simp [*, errW_none, errW_some] <;> rfl), by repeat (first | (with_reducible first | exact HB.out | apply below_alloc | apply pw_below_drewN | apply below_drew1 | refine below_set ?_ GE179.out | refine below_set ?_ GE185.out | refine below_set ?_ GE191.out) | exact HB.out)⟩
    ·rw [if_neg c8] at H
     exact absurd H (by simp)
   ·rw [if_neg c7] at H
    exact absurd H (by simp)
  ·replace c6 := Bool.eq_false_iff.mpr c6
   subst c6
   have H1 : (none) = some r := by rw [if_neg (show ¬ (false = true) by decide)] at H; exact H
   clear H
   have H := H1
   clear H1
   exact absurd H (by simp)
 ·rw [if_neg c4] at H
  exact absurd H (by simp)

/-! ### variorumlaw05_LexerReads: function 3 -/
def variorumlaw05_LexerReads.f (k : Nat) (a0 : ByteArray) : Option (Bool) := (lexer_Lex.f k a0).bind fun bt197 => ((variorumref05_Lex.f k a0).bind fun bt203 => ((variorumlaw05_fixed.f k).bind fun t209 => (if t209 = true then ((variorumref05_Same.f k bt197.1 bt203.1).bind fun t210 => (if t210 = true then (some (bt197.2.1 == bt203.2.1 && (bt197.2.2 == bt203.2.2))) else (none))) else (none))))
theorem variorumlaw05_LexerReads.mono : ∀ a0 k, LeO (variorumlaw05_LexerReads.f k a0) (variorumlaw05_LexerReads.f (k + 1) a0) := by
 intro a0 k
 unfold variorumlaw05_LexerReads.f
 repeat' first
   | (with_reducible exact lexer_Lex.mono _ _)
   | (with_reducible exact variorumlaw05_fixed.mono _)
   | (with_reducible exact variorumref05_Lex.mono _ _)
   | (with_reducible exact variorumref05_Same.mono _ _ _)
   | (with_reducible exact LeO.refl _)
   | (with_reducible exact LeO.none _)
   | (with_reducible refine LeO.ite ?_ ?_)
   | (with_reducible refine LeO.bind ?_ (fun _ => ?_))
   | exact lexer_Lex.mono _ _
   | exact variorumlaw05_fixed.mono _
   | exact variorumref05_Lex.mono _ _
   | exact variorumref05_Same.mono _ _ _
   | exact LeO.none _
   | refine LeO.ite ?_ ?_
   | refine LeO.bind ?_ (fun _ => ?_)
set_option maxHeartbeats 8000000 in
set_option maxRecDepth 100000 in
theorem variorumlaw05_LexerReads.calls (k : Nat) (a0 : ByteArray) (r : Bool) (w : World) (hT : Lib.Utf8Tabs 0 1 w) (h : variorumlaw05_LexerReads.f k a0 = some r) :
  Calls Tryz.prog 3 #[.string a0] w fun e w' => e = .returned (.bool r) ∧ Below w.heap.size w w' := by
 have HT := Aside0.mk hT
 clear hT
 have hu25 := Tryz.underlying25
 have HB := Aside0.mk (Below.refl w.heap.size w)
 have H : ((lexer_Lex.f k a0).bind fun bt197 => ((variorumref05_Lex.f k a0).bind fun bt203 => ((variorumlaw05_fixed.f k).bind fun t209 => (if t209 = true then ((variorumref05_Same.f k bt197.1 bt203.1).bind fun t210 => (if t210 = true then (some (bt197.2.1 == bt203.2.1 && (bt197.2.2 == bt203.2.2))) else (none))) else (none))))) = some r := h
 clear h
 replace H := Option.bind_eq_some_iff.mp H
 obtain ⟨⟨t197, t200, t201⟩, A20, H⟩ := H
 replace H : ((variorumref05_Lex.f k a0).bind fun bt203 => ((variorumlaw05_fixed.f k).bind fun t209 => (if t209 = true then ((variorumref05_Same.f k t197 bt203.1).bind fun t210 => (if t210 = true then (some (t200 == bt203.2.1 && (t201 == bt203.2.2))) else (none))) else (none)))) = some r := H
 have A2 := Aside0.mk A20
 clear A20
 replace H := Option.bind_eq_some_iff.mp H
 obtain ⟨⟨t203, t206, t207⟩, A30, H⟩ := H
 replace H : ((variorumlaw05_fixed.f k).bind fun t209 => (if t209 = true then ((variorumref05_Same.f k t197 t203).bind fun t210 => (if t210 = true then (some (t200 == t206 && (t201 == t207))) else (none))) else (none))) = some r := H
 have A3 := Aside0.mk A30
 clear A30
 replace H := Option.bind_eq_some_iff.mp H
 obtain ⟨t209, A40, H⟩ := H
 replace H : (if t209 = true then ((variorumref05_Same.f k t197 t203).bind fun t210 => (if t210 = true then (some (t200 == t206 && (t201 == t207))) else (none))) else (none)) = some r := H
 have A4 := Aside0.mk A40
 clear A40
 by_cases c5 : t209 = true
 ·subst c5
  have H1 : ((variorumref05_Same.f k t197 t203).bind fun t210 => (if t210 = true then (some (t200 == t206 && (t201 == t207))) else (none))) = some r := by rw [if_pos rfl] at H; exact H
  clear H
  have H := H1
  clear H1
  replace H := Option.bind_eq_some_iff.mp H
  obtain ⟨t210, A60, H⟩ := H
  replace H : (if t210 = true then (some (t200 == t206 && (t201 == t207))) else (none)) = some r := H
  have A6 := Aside0.mk A60
  clear A60
  by_cases c7 : t210 = true
  ·subst c7
   have H1 : (some (t200 == t206 && (t201 == t207))) = some r := by rw [if_pos rfl] at H; exact H
   clear H
   have H := H1
   clear H1
   obtain rfl := Option.some.inj H
   go_enter Tryz.func3, Tryz.ntmps3
   go_wp2_with (first | ((with_reducible refine gate_callee (f := 10) rfl ?_); refine goesL_ (some 9) rfl rfl Tryz.func10 (by kernel_rfl) rfl #[.string a0] rfl (by (try simp only [List.map_toArray, List.map_cons, List.map_nil]); first | done | rfl | (simp only [List.length_drop, List.length_take]; rfl)) ?_; (with_reducible refine (lexer_Lex.calls k a0 t197 t200 t201 _ (by first | exact HT.out | exact Utf8Tabs_below HT.out (by repeat (first | (with_reducible first | exact HB.out | apply below_alloc | apply pw_below_drewN | apply below_drew1 | refine below_set ?_ GE202.out | refine below_set ?_ GE208.out) | exact HB.out | exact Below.refl _ _))) A2.out).mono ?_); rintro e w8 ⟨v198, rfl, ho0, hb⟩; refine ⟨_, rfl, ?_⟩; have n0_ := Aside0.mk (Kd.R_lower ho0 (below_size (by repeat (first | (with_reducible first | exact HB.out | apply below_alloc | apply pw_below_drewN | apply below_drew1) | exact HB.out)))); have n1_ := Aside0.mk (below_step (by repeat (first | (with_reducible first | exact HB.out | apply below_alloc | apply pw_below_drewN | apply below_drew1) | exact HB.out)) hb); clear HB; have HO199 := n0_; have HB := n1_; clear n0_ n1_; (try clear hb); (try clear hb2); (try clear hk); (try clear hi); (try clear ho0)) | ((with_reducible refine gate_dst (N := 4) rfl ?_); refine box_event ?hg (N := 4) ?hd (cs := #[.int .i64 0, .int .i64 0]) (t := 25) ?hr ?_; (case hd => rfl); (case hg => rfl); (case hr => first | (go_simp; done) | (go_simp; rfl)); intro gb202 hg w9 hbox hb; have n0_ := Aside0.mk (Kd.R_below (by (with_reducible repeat (first | apply Kd.R_alloc | apply Kd.R_drewN | apply Kd.R_drew)); exact HO199.out) hb); have n1_ := Aside0.mk (below_step (by repeat (first | (with_reducible first | exact HB.out | apply below_alloc | apply pw_below_drewN | apply below_drew1) | exact HB.out)) hb); have n2_ := Aside0.mk (hbox); have n3_ := Aside0.mk ((by rw [hg]; exact (below_size (by repeat (first | (with_reducible first | exact HB.out | apply below_alloc | apply pw_below_drewN | apply below_drew1) | exact HB.out))) : w.heap.size ≤ gb202)); have n4_ := Aside0.mk ((by rw [hg]; exact (below_size (by repeat (first | (with_reducible first | exact HB.out | apply below_alloc | apply pw_below_drewN | apply below_drew1) | exact HB.out))) : w.heap.size ≤ gb202)); clear HO199; clear HB; have HO199 := n0_; have HB := n1_; have BK202 := n2_; have GW202 := n3_; have GE202 := n4_; clear n0_ n1_ n2_ n3_ n4_; clear hb hbox hg; have hcz10_0 : w9.cell? ⟨gb202, 0, none⟩ = some (.int .i64 0) := (blk_cell BK202.out 0).trans rfl; have hcz10_1 : w9.cell? ⟨gb202, 1, none⟩ = some (.int .i64 0) := (blk_cell BK202.out 1).trans rfl; have hfz10_0 := blk_frozen BK202.out 0; have hfz10_1 := blk_frozen BK202.out 1) | ((with_reducible refine gate_callee (f := 11) rfl ?_); refine goesL_ (some 14) rfl rfl Tryz.func11 (by kernel_rfl) rfl #[.string a0] rfl (by (try simp only [List.map_toArray, List.map_cons, List.map_nil]); first | done | rfl | (simp only [List.length_drop, List.length_take]; rfl)) ?_; (with_reducible refine (variorumref05_Lex.calls k a0 t203 t206 t207 _ A3.out).mono ?_); rintro e w11 ⟨v204, rfl, ho0, hb⟩; refine ⟨_, rfl, ?_⟩; have n0_ := Aside0.mk (Kd.R_elder' (by (with_reducible repeat (first | apply Kd.R_alloc | apply Kd.R_drewN | apply Kd.R_drew)); exact (Kd.R_mono (Kd.R_far (p := ⟨gb202, 1, none⟩) (Kd.R_far (p := ⟨gb202, 0, none⟩) (Kd.R_types HO199.out BK202.out (by decide)) (fun _ hk => hk.2) (.int .i64 t200)) (fun _ hk => hk.2) (.int .i64 t201)) (fun _ h_ => h_.1))) (Kd.R_base ho0) hb); have n1_ := Aside0.mk (Kd.R_lower (Kd.R_new' ho0 (Kd.R_lt (by (with_reducible repeat (first | apply Kd.R_alloc | apply Kd.R_drewN | apply Kd.R_drew)); exact (Kd.R_mono (Kd.R_far (p := ⟨gb202, 1, none⟩) (Kd.R_far (p := ⟨gb202, 0, none⟩) (Kd.R_types HO199.out BK202.out (by decide)) (fun _ hk => hk.2) (.int .i64 t200)) (fun _ hk => hk.2) (.int .i64 t201)) (fun _ h_ => h_.1))))) (below_size (by repeat (first | (with_reducible first | exact HB.out | apply below_alloc | apply pw_below_drewN | apply below_drew1 | refine below_set ?_ GE202.out) | exact HB.out)))); have n2_ := Aside0.mk (blk_below (g := gb202) (o := .cells #[.int .i64 t200, .int .i64 t201] 25 (0, 0)) (by (with_reducible repeat (first | refine blk_drewN ?_ _ | refine blk_drew ?_ | refine blk_alloc ?_ _)); refine blk_put (cs := #[.int .i64 t200, .int .i64 0]) ?_ 1 _ rfl; (with_reducible repeat (first | refine blk_drewN ?_ _ | refine blk_drew ?_ | refine blk_alloc ?_ _)); refine blk_put (cs := #[.int .i64 0, .int .i64 0]) ?_ 0 _ rfl; (with_reducible repeat (first | refine blk_drewN ?_ _ | refine blk_drew ?_ | refine blk_alloc ?_ _)); exact BK202.out) hb); have n3_ := Aside0.mk (below_step (by repeat (first | (with_reducible first | exact HB.out | apply below_alloc | apply pw_below_drewN | apply below_drew1 | refine below_set ?_ GE202.out) | exact HB.out)) hb); clear HO199; clear BK202; clear HB; have HO199 := n0_; have HO205 := n1_; have BK202 := n2_; have HB := n3_; clear n0_ n1_ n2_ n3_; (try clear hb); (try clear hb2); (try clear hk); (try clear hi); (try clear ho0)) | ((with_reducible refine gate_dst (N := 6) rfl ?_); refine box_event ?hg (N := 6) ?hd (cs := #[.int .i64 0, .int .i64 0]) (t := 25) ?hr ?_; (case hd => rfl); (case hg => rfl); (case hr => first | (go_simp; done) | (go_simp; rfl)); intro gb208 hg w12 hbox hb; have n0_ := Aside0.mk (Kd.R_below (by (with_reducible repeat (first | apply Kd.R_alloc | apply Kd.R_drewN | apply Kd.R_drew)); exact HO199.out) hb); have n1_ := Aside0.mk (Kd.R_below (by (with_reducible repeat (first | apply Kd.R_alloc | apply Kd.R_drewN | apply Kd.R_drew)); exact HO205.out) hb); have n2_ := Aside0.mk (blk_below (g := gb202) (o := .cells #[.int .i64 t200, .int .i64 t201] 25 (0, 0)) (by (with_reducible repeat (first | refine blk_drewN ?_ _ | refine blk_drew ?_ | refine blk_alloc ?_ _)); exact BK202.out) hb); have n3_ := Aside0.mk (below_step (by repeat (first | (with_reducible first | exact HB.out | apply below_alloc | apply pw_below_drewN | apply below_drew1 | refine below_set ?_ GE202.out) | exact HB.out)) hb); have n4_ := Aside0.mk (hbox); have n5_ := Aside0.mk ((by rw [hg]; exact (below_size (by repeat (first | (with_reducible first | exact HB.out | apply below_alloc | apply pw_below_drewN | apply below_drew1 | refine below_set ?_ GE202.out) | exact HB.out))) : w.heap.size ≤ gb208)); have n6_ := Aside0.mk ((by rw [hg]; exact (below_size (by repeat (first | (with_reducible first | exact HB.out | apply below_alloc | apply pw_below_drewN | apply below_drew1 | refine below_set ?_ GE202.out) | exact HB.out))) : w.heap.size ≤ gb208)); have n7_ := Aside0.mk ((by rw [hg]; exact Nat.ne_of_lt (blk_lt (g := gb202) (o := .cells #[.int .i64 t200, .int .i64 t201] 25 (0, 0)) (by (with_reducible repeat (first | refine blk_drewN ?_ _ | refine blk_drew ?_ | refine blk_alloc ?_ _)); exact BK202.out)) : gb202 ≠ gb208)); have n8_ := Aside0.mk ((by rw [hg]; exact Nat.ne_of_gt (blk_lt (g := gb202) (o := .cells #[.int .i64 t200, .int .i64 t201] 25 (0, 0)) (by (with_reducible repeat (first | refine blk_drewN ?_ _ | refine blk_drew ?_ | refine blk_alloc ?_ _)); exact BK202.out)) : gb208 ≠ gb202)); clear HO199; clear HO205; clear BK202; clear HB; have HO199 := n0_; have HO205 := n1_; have BK202 := n2_; have HB := n3_; have BK208 := n4_; have GW208 := n5_; have GE208 := n6_; have NB202_208 := n7_; have NB208_202 := n8_; clear n0_ n1_ n2_ n3_ n4_ n5_ n6_ n7_ n8_; clear hb hbox hg; have hnb13 := NB208_202.out; have hnc13 := NB202_208.out; have hcz14_0 : w12.cell? ⟨gb208, 0, none⟩ = some (.int .i64 0) := (blk_cell BK208.out 0).trans rfl; have hcz14_1 : w12.cell? ⟨gb208, 1, none⟩ = some (.int .i64 0) := (blk_cell BK208.out 1).trans rfl; have hfz14_0 := blk_frozen BK208.out 0; have hfz14_1 := blk_frozen BK208.out 1) | ((with_reducible refine gate_callee (f := 12) rfl ?_); refine goesL_ (some 17) rfl rfl Tryz.func12 (by kernel_rfl) rfl #[] rfl (by (try simp only [List.map_toArray, List.map_cons, List.map_nil]); first | done | rfl | (simp only [List.length_drop, List.length_take]; rfl)) ?_; (with_reducible refine (variorumlaw05_fixed.calls k  true _ (by first | exact HT.out | exact Utf8Tabs_below HT.out (by repeat (first | (with_reducible first | exact HB.out | apply below_alloc | apply pw_below_drewN | apply below_drew1 | refine below_set ?_ GE202.out | refine below_set ?_ GE208.out) | exact HB.out | exact Below.refl _ _))) A4.out).mono ?_); rintro e w15 ⟨rfl, hb⟩; refine ⟨_, rfl, ?_⟩; have n0_ := Aside0.mk (Kd.R_below (by (with_reducible repeat (first | apply Kd.R_alloc | apply Kd.R_drewN | apply Kd.R_drew)); exact (Kd.R_mono (Kd.R_far (p := ⟨gb208, 1, none⟩) (Kd.R_far (p := ⟨gb208, 0, none⟩) (Kd.R_types HO199.out BK208.out (by decide)) (fun _ hk => hk.2) (.int .i64 t206)) (fun _ hk => hk.2) (.int .i64 t207)) (fun _ h_ => h_.1))) hb); have n1_ := Aside0.mk (Kd.R_below (by (with_reducible repeat (first | apply Kd.R_alloc | apply Kd.R_drewN | apply Kd.R_drew)); exact (Kd.R_mono (Kd.R_far (p := ⟨gb208, 1, none⟩) (Kd.R_far (p := ⟨gb208, 0, none⟩) (Kd.R_types HO205.out BK208.out (by decide)) (fun _ hk => hk.2) (.int .i64 t206)) (fun _ hk => hk.2) (.int .i64 t207)) (fun _ h_ => h_.1))) hb); have n2_ := Aside0.mk (blk_below (g := gb202) (o := .cells #[.int .i64 t200, .int .i64 t201] 25 (0, 0)) (by (with_reducible repeat (first | refine blk_drewN ?_ _ | refine blk_drew ?_ | refine blk_alloc ?_ _)); refine blk_far ?_ NB202_208.out _; (with_reducible repeat (first | refine blk_drewN ?_ _ | refine blk_drew ?_ | refine blk_alloc ?_ _)); refine blk_far ?_ NB202_208.out _; (with_reducible repeat (first | refine blk_drewN ?_ _ | refine blk_drew ?_ | refine blk_alloc ?_ _)); exact BK202.out) hb); have n3_ := Aside0.mk (blk_below (g := gb208) (o := .cells #[.int .i64 t206, .int .i64 t207] 25 (0, 0)) (by (with_reducible repeat (first | refine blk_drewN ?_ _ | refine blk_drew ?_ | refine blk_alloc ?_ _)); refine blk_put (cs := #[.int .i64 t206, .int .i64 0]) ?_ 1 _ rfl; (with_reducible repeat (first | refine blk_drewN ?_ _ | refine blk_drew ?_ | refine blk_alloc ?_ _)); refine blk_put (cs := #[.int .i64 0, .int .i64 0]) ?_ 0 _ rfl; (with_reducible repeat (first | refine blk_drewN ?_ _ | refine blk_drew ?_ | refine blk_alloc ?_ _)); exact BK208.out) hb); have n4_ := Aside0.mk (below_step (by repeat (first | (with_reducible first | exact HB.out | apply below_alloc | apply pw_below_drewN | apply below_drew1 | refine below_set ?_ GE202.out | refine below_set ?_ GE208.out) | exact HB.out)) hb); clear HO199; clear HO205; clear BK202; clear BK208; clear HB; have HO199 := n0_; have HO205 := n1_; have BK202 := n2_; have BK208 := n3_; have HB := n4_; clear n0_ n1_ n2_ n3_ n4_; (try clear hb); (try clear hb2); (try clear hk); (try clear hi); obtain ⟨Ao16, co16, eo16⟩ := Kd.R_slice HO199.out; subst eo16; obtain ⟨Ao17, co17, eo17⟩ := Kd.R_slice HO205.out; subst eo17) | (go_at_call 13; (with_reducible refine (variorumref05_Same.calls k _ _ t197 _ _ t203 true _ ?side1 ?side2 ?side3 ?side4 A6.out).mono ?_); (case side1 => repeat (first | exact (Kd.R_reads' HO199.out).2.2 | (with_reducible refine Kd.C_alloc ?_ _) | (with_reducible refine Kd.C_drewN ?_ _) | (with_reducible refine Kd.C_drew ?_))); (case side2 => exact (Kd.R_reads' HO199.out).2.1); (case side3 => repeat (first | exact (Kd.R_reads' HO205.out).2.2 | (with_reducible refine Kd.C_alloc ?_ _) | (with_reducible refine Kd.C_drewN ?_ _) | (with_reducible refine Kd.C_drew ?_))); (case side4 => exact (Kd.R_reads' HO205.out).2.1); rintro e w' ⟨rfl, ⟨nd, rfl⟩⟩; have hcz18_0 : w15.cell? ⟨gb202, 0, none⟩ = some (.int .i64 t200) := (blk_cell BK202.out 0).trans rfl; have hcz18_1 : w15.cell? ⟨gb202, 1, none⟩ = some (.int .i64 t201) := (blk_cell BK202.out 1).trans rfl; have hfz18_0 := blk_frozen BK202.out 0; have hfz18_1 := blk_frozen BK202.out 1; have hcz19_0 : w15.cell? ⟨gb208, 0, none⟩ = some (.int .i64 t206) := (blk_cell BK208.out 0).trans rfl; have hcz19_1 : w15.cell? ⟨gb208, 1, none⟩ = some (.int .i64 t207) := (blk_cell BK208.out 1).trans rfl; have hfz19_0 := blk_frozen BK208.out 0; have hfz19_1 := blk_frozen BK208.out 1))
   go_ret
   exact ⟨by first | rfl | (simp [errW_none, errW_some] <;> rfl) | (simp [*, errW_none, errW_some] <;> rfl), by repeat (first | (with_reducible first | exact HB.out | apply below_alloc | apply pw_below_drewN | apply below_drew1 | refine below_set ?_ GE202.out | refine below_set ?_ GE208.out) | exact HB.out)⟩
  ·replace c7 := Bool.eq_false_iff.mpr c7
   subst c7
   have H1 : (none) = some r := by rw [if_neg (show ¬ (false = true) by decide)] at H; exact H
   clear H
   have H := H1
   clear H1
   exact absurd H (by simp)
 ·replace c5 := Bool.eq_false_iff.mpr c5
  subst c5
  have H1 : (none) = some r := by rw [if_neg (show ¬ (false = true) by decide)] at H; exact H
  clear H
  have H := H1
  clear H1
  exact absurd H (by simp)

/-- The one statement about numbers and lists that is left of the law. -/
def variorumlaw05_LexerReads.Pure : Prop := ∀ (x0 : ByteArray), x0.size ≤ 140737488351232 → x0.size + 1 ≤ 1048576 → ∃ k, variorumlaw05_LexerReads.f k x0 = some true

end Go.Proofs.YtjiljpddkfcdbaaGreatDoor.PLx

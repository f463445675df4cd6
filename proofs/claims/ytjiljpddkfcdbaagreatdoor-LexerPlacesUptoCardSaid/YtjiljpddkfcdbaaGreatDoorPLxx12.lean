/- Written by a program of this session: functions of the given program as plain Lean functions, the walks that show it, and the row of each law, for every input that its statement speaks of. -/
import Derived.Test.YtjiljpddkfcdbaaGreatDoorPLxx0
import Derived.Test.YtjiljpddkfcdbaaGreatDoorPLxx3
import Derived.Test.YtjiljpddkfcdbaaGreatDoorPLxx7
namespace Go.Proofs.YtjiljpddkfcdbaaGreatDoor.PLx
open Go.RowKit Go.Proofs.YtjiljpddkfcdbaaGreatDoorW.PrintWords Go.Proofs.YtjiljpddkfcdbaaGreatDoorW.PrintLast Go.Proofs.YtjiljpddkfcdbaaGreatDoorW.PrintMore
attribute [local go_sem] max2_int min2_int max_two min_two max_three min_three max_four min_four   -- for this text's walks alone
set_option linter.unusedVariables false
set_option linter.unusedSimpArgs false

/-! ### variorumlaw05_LexerPlaces: function 7 -/
mutual
def variorumlaw05_LexerPlaces.j0 : Nat → ByteArray → List (S38) → Bool → Int → Int → Option (Bool)
 | 0, _, _, _, _, _ => none
 | k + 1, x0, x3, x21, x313000, x313001 => if x21 = true then ((variorumlaw05_fixed.f k).bind fun t314 => (if t314 = true then (if x313001 ≥ 0 then (some (decide (x313001 ≤ (x0.size : Int)))) else (none)) else (none))) else (variorumlaw05_LexerPlaces.l0 k x0 x3 0)
def variorumlaw05_LexerPlaces.l0 : Nat → ByteArray → List (S38) → Int → Option (Bool)
 | 0, _, _, _ => none
 | k + 1, x0, x3, x5 => if x5 < (x3.length : Int) then (if 0 ≤ x5 then (if ((rd_T38 x3 x5).f2) < 0 then (variorumlaw05_LexerPlaces.j2 k x0 x3 x5 true ((rd_T38 x3 x5).f0) ((rd_T38 x3 x5).f1) ((rd_T38 x3 x5).f2)) else (if ((rd_T38 x3 x5).f2) ≥ (x0.size : Int) then (variorumlaw05_LexerPlaces.j2 k x0 x3 x5 true ((rd_T38 x3 x5).f0) ((rd_T38 x3 x5).f1) ((rd_T38 x3 x5).f2)) else (if x5 > 0 then (if 0 ≤ (wrap64 (x5 - 1)) then (if (wrap64 (x5 - 1)) < (x3.length : Int) then (variorumlaw05_LexerPlaces.j2 k x0 x3 x5 (decide (((rd_T38 x3 (wrap64 (x5 - 1))).f2) ≥ ((rd_T38 x3 x5).f2))) ((rd_T38 x3 x5).f0) ((rd_T38 x3 x5).f1) ((rd_T38 x3 x5).f2)) else (none)) else (none)) else (variorumlaw05_LexerPlaces.j2 k x0 x3 x5 false ((rd_T38 x3 x5).f0) ((rd_T38 x3 x5).f1) ((rd_T38 x3 x5).f2))))) else (none)) else (some true)
def variorumlaw05_LexerPlaces.j2 : Nat → ByteArray → List (S38) → Int → Bool → Int → ByteArray → Int → Option (Bool)
 | 0, _, _, _, _, _, _, _ => none
 | k + 1, x0, x3, x5, x69, x317000, x317001, x317002 => if x69 = true then (none) else (if 0 ≤ x317002 then (if x317002 < (x0.size : Int) then (if x317000 = 2 then (if (bt x0 x317002) = 123 then (if x317000 = 3 then (if (bt x0 x317002) = 125 then (if x317000 = 1 then (if (bt x0 x317002) = 92 then (if x317000 = 0 then ((variorumref05_Blank.f (bt x0 x317002)).bind fun t318 => (if t318 = true then (variorumlaw05_LexerPlaces.j3 k x0 x3 x5 true x317000 x317001 x317002) else (variorumlaw05_LexerPlaces.j3 k x0 x3 x5 true x317000 x317001 x317002))) else (variorumlaw05_LexerPlaces.j3 k x0 x3 x5 false x317000 x317001 x317002)) else (variorumlaw05_LexerPlaces.j3 k x0 x3 x5 true x317000 x317001 x317002)) else (if x317000 = 0 then ((variorumref05_Blank.f (bt x0 x317002)).bind fun t319 => (if t319 = true then (variorumlaw05_LexerPlaces.j3 k x0 x3 x5 true x317000 x317001 x317002) else (variorumlaw05_LexerPlaces.j3 k x0 x3 x5 true x317000 x317001 x317002))) else (variorumlaw05_LexerPlaces.j3 k x0 x3 x5 false x317000 x317001 x317002))) else (variorumlaw05_LexerPlaces.j3 k x0 x3 x5 true x317000 x317001 x317002)) else (if x317000 = 1 then (if (bt x0 x317002) = 92 then (if x317000 = 0 then ((variorumref05_Blank.f (bt x0 x317002)).bind fun t320 => (if t320 = true then (variorumlaw05_LexerPlaces.j3 k x0 x3 x5 true x317000 x317001 x317002) else (variorumlaw05_LexerPlaces.j3 k x0 x3 x5 true x317000 x317001 x317002))) else (variorumlaw05_LexerPlaces.j3 k x0 x3 x5 false x317000 x317001 x317002)) else (variorumlaw05_LexerPlaces.j3 k x0 x3 x5 true x317000 x317001 x317002)) else (if x317000 = 0 then ((variorumref05_Blank.f (bt x0 x317002)).bind fun t321 => (if t321 = true then (variorumlaw05_LexerPlaces.j3 k x0 x3 x5 true x317000 x317001 x317002) else (variorumlaw05_LexerPlaces.j3 k x0 x3 x5 true x317000 x317001 x317002))) else (variorumlaw05_LexerPlaces.j3 k x0 x3 x5 false x317000 x317001 x317002)))) else (variorumlaw05_LexerPlaces.j3 k x0 x3 x5 true x317000 x317001 x317002)) else (if x317000 = 3 then (if (bt x0 x317002) = 125 then (if x317000 = 1 then (if (bt x0 x317002) = 92 then (if x317000 = 0 then ((variorumref05_Blank.f (bt x0 x317002)).bind fun t322 => (if t322 = true then (variorumlaw05_LexerPlaces.j3 k x0 x3 x5 true x317000 x317001 x317002) else (if (bt x0 x317002) = 123 then (variorumlaw05_LexerPlaces.j3 k x0 x3 x5 true x317000 x317001 x317002) else (variorumlaw05_LexerPlaces.j3 k x0 x3 x5 true x317000 x317001 x317002)))) else (variorumlaw05_LexerPlaces.j3 k x0 x3 x5 false x317000 x317001 x317002)) else (variorumlaw05_LexerPlaces.j3 k x0 x3 x5 true x317000 x317001 x317002)) else (if x317000 = 0 then ((variorumref05_Blank.f (bt x0 x317002)).bind fun t323 => (if t323 = true then (variorumlaw05_LexerPlaces.j3 k x0 x3 x5 true x317000 x317001 x317002) else (if (bt x0 x317002) = 123 then (variorumlaw05_LexerPlaces.j3 k x0 x3 x5 true x317000 x317001 x317002) else (variorumlaw05_LexerPlaces.j3 k x0 x3 x5 true x317000 x317001 x317002)))) else (variorumlaw05_LexerPlaces.j3 k x0 x3 x5 false x317000 x317001 x317002))) else (variorumlaw05_LexerPlaces.j3 k x0 x3 x5 true x317000 x317001 x317002)) else (if x317000 = 1 then (if (bt x0 x317002) = 92 then (if x317000 = 0 then ((variorumref05_Blank.f (bt x0 x317002)).bind fun t324 => (if t324 = true then (variorumlaw05_LexerPlaces.j3 k x0 x3 x5 true x317000 x317001 x317002) else (if (bt x0 x317002) = 123 then (variorumlaw05_LexerPlaces.j3 k x0 x3 x5 true x317000 x317001 x317002) else (if (bt x0 x317002) = 125 then (variorumlaw05_LexerPlaces.j3 k x0 x3 x5 true x317000 x317001 x317002) else (variorumlaw05_LexerPlaces.j3 k x0 x3 x5 ((bt x0 x317002) == 37) x317000 x317001 x317002))))) else (variorumlaw05_LexerPlaces.j3 k x0 x3 x5 false x317000 x317001 x317002)) else (variorumlaw05_LexerPlaces.j3 k x0 x3 x5 true x317000 x317001 x317002)) else (if x317000 = 0 then ((variorumref05_Blank.f (bt x0 x317002)).bind fun t325 => (if t325 = true then (variorumlaw05_LexerPlaces.j3 k x0 x3 x5 true x317000 x317001 x317002) else (if (bt x0 x317002) = 123 then (variorumlaw05_LexerPlaces.j3 k x0 x3 x5 true x317000 x317001 x317002) else (if (bt x0 x317002) = 125 then (variorumlaw05_LexerPlaces.j3 k x0 x3 x5 true x317000 x317001 x317002) else (variorumlaw05_LexerPlaces.j3 k x0 x3 x5 ((bt x0 x317002) == 37) x317000 x317001 x317002))))) else (variorumlaw05_LexerPlaces.j3 k x0 x3 x5 false x317000 x317001 x317002))))) else (none)) else (none))
def variorumlaw05_LexerPlaces.j3 : Nat → ByteArray → List (S38) → Int → Bool → Int → ByteArray → Int → Option (Bool)
 | 0, _, _, _, _, _, _, _ => none
 | k + 1, x0, x3, x5, x119, x317000, x317001, x317002 => if x119 = true then (none) else (if 0 ≤ x317002 then (if x317002 ≤ (x0.size : Int) then ((lexer_Lex.f k (x0.extract 0 (x317002 : Int).toNat)).bind fun bt326 => (if bt326.2.1 = 0 then (if 0 ≤ x5 then (if x5 ≤ (x3.length : Int) then ((variorumref05_Same.f k bt326.1 (x3.take (x5 : Int).toNat)).bind fun t336 => (if t336 = true then (variorumlaw05_LexerPlaces.l0 k x0 x3 (wrap64 (x5 + 1))) else (none))) else (none)) else (none)) else (none))) else (none)) else (none))
end
def variorumlaw05_LexerPlaces.f (k : Nat) (a0 : ByteArray) : Option (Bool) := (lexer_Lex.f k a0).bind fun bt307 => ((variorumlaw05_fixed.f k).bind fun t313 => (if t313 = true then (variorumlaw05_LexerPlaces.j0 k a0 bt307.1 (bt307.2.1 != 0) bt307.2.1 bt307.2.2) else (variorumlaw05_LexerPlaces.j0 k a0 bt307.1 true bt307.2.1 bt307.2.2)))
theorem variorumlaw05_LexerPlaces.mono_l : ∀ k, (∀ y0 y1 y2 y3 y4, LeO (variorumlaw05_LexerPlaces.j0 k y0 y1 y2 y3 y4) (variorumlaw05_LexerPlaces.j0 (k + 1) y0 y1 y2 y3 y4)) ∧ (∀ y0 y1 y2, LeO (variorumlaw05_LexerPlaces.l0 k y0 y1 y2) (variorumlaw05_LexerPlaces.l0 (k + 1) y0 y1 y2)) ∧ (∀ y0 y1 y2 y3 y4 y5 y6, LeO (variorumlaw05_LexerPlaces.j2 k y0 y1 y2 y3 y4 y5 y6) (variorumlaw05_LexerPlaces.j2 (k + 1) y0 y1 y2 y3 y4 y5 y6)) ∧ (∀ y0 y1 y2 y3 y4 y5 y6, LeO (variorumlaw05_LexerPlaces.j3 k y0 y1 y2 y3 y4 y5 y6) (variorumlaw05_LexerPlaces.j3 (k + 1) y0 y1 y2 y3 y4 y5 y6))
 | 0 => ⟨fun _ _ _ _ _ r h => by simp [variorumlaw05_LexerPlaces.j0] at h, fun _ _ _ r h => by simp [variorumlaw05_LexerPlaces.l0] at h, fun _ _ _ _ _ _ _ r h => by simp [variorumlaw05_LexerPlaces.j2] at h, fun _ _ _ _ _ _ _ r h => by simp [variorumlaw05_LexerPlaces.j3] at h⟩
 | k + 1 => by
  obtain ⟨ih0, ih1, ih2, ih3⟩ := variorumlaw05_LexerPlaces.mono_l k
  refine ⟨?_, ?_, ?_, ?_⟩
  ·intro y0 y1 y2 y3 y4
   unfold variorumlaw05_LexerPlaces.j0
   repeat' first
   | (with_reducible exact ih0 _ _ _ _ _)
   | (with_reducible exact ih1 _ _ _)
   | (with_reducible exact ih2 _ _ _ _ _ _ _)
   | (with_reducible exact ih3 _ _ _ _ _ _ _)
   | (with_reducible exact lexer_Lex.mono _ _)
   | (with_reducible exact variorumlaw05_fixed.mono _)
   | (with_reducible exact variorumref05_Same.mono _ _ _)
   | (with_reducible exact LeO.refl _)
   | (with_reducible exact LeO.none _)
   | (with_reducible refine LeO.ite ?_ ?_)
   | (with_reducible refine LeO.bind ?_ (fun _ => ?_))
   | exact ih0 _ _ _ _ _
   | exact ih1 _ _ _
   | exact ih2 _ _ _ _ _ _ _
   | exact ih3 _ _ _ _ _ _ _
   | exact lexer_Lex.mono _ _
   | exact variorumlaw05_fixed.mono _
   | exact variorumref05_Same.mono _ _ _
   | exact LeO.none _
   | refine LeO.ite ?_ ?_
   | refine LeO.bind ?_ (fun _ => ?_)
  ·intro y0 y1 y2
   unfold variorumlaw05_LexerPlaces.l0
   repeat' first
   | (with_reducible exact ih0 _ _ _ _ _)
   | (with_reducible exact ih1 _ _ _)
   | (with_reducible exact ih2 _ _ _ _ _ _ _)
   | (with_reducible exact ih3 _ _ _ _ _ _ _)
   | (with_reducible exact lexer_Lex.mono _ _)
   | (with_reducible exact variorumlaw05_fixed.mono _)
   | (with_reducible exact variorumref05_Same.mono _ _ _)
   | (with_reducible exact LeO.refl _)
   | (with_reducible exact LeO.none _)
   | (with_reducible refine LeO.ite ?_ ?_)
   | (with_reducible refine LeO.bind ?_ (fun _ => ?_))
   | exact ih0 _ _ _ _ _
   | exact ih1 _ _ _
   | exact ih2 _ _ _ _ _ _ _
   | exact ih3 _ _ _ _ _ _ _
   | exact lexer_Lex.mono _ _
   | exact variorumlaw05_fixed.mono _
   | exact variorumref05_Same.mono _ _ _
   | exact LeO.none _
   | refine LeO.ite ?_ ?_
   | refine LeO.bind ?_ (fun _ => ?_)
  ·intro y0 y1 y2 y3 y4 y5 y6
   unfold variorumlaw05_LexerPlaces.j2
   repeat' first
   | (with_reducible exact ih0 _ _ _ _ _)
   | (with_reducible exact ih1 _ _ _)
   | (with_reducible exact ih2 _ _ _ _ _ _ _)
   | (with_reducible exact ih3 _ _ _ _ _ _ _)
   | (with_reducible exact lexer_Lex.mono _ _)
   | (with_reducible exact variorumlaw05_fixed.mono _)
   | (with_reducible exact variorumref05_Same.mono _ _ _)
   | (with_reducible exact LeO.refl _)
   | (with_reducible exact LeO.none _)
   | (with_reducible refine LeO.ite ?_ ?_)
   | (with_reducible refine LeO.bind ?_ (fun _ => ?_))
   | exact ih0 _ _ _ _ _
   | exact ih1 _ _ _
   | exact ih2 _ _ _ _ _ _ _
   | exact ih3 _ _ _ _ _ _ _
   | exact lexer_Lex.mono _ _
   | exact variorumlaw05_fixed.mono _
   | exact variorumref05_Same.mono _ _ _
   | exact LeO.none _
   | refine LeO.ite ?_ ?_
   | refine LeO.bind ?_ (fun _ => ?_)
  ·intro y0 y1 y2 y3 y4 y5 y6
   unfold variorumlaw05_LexerPlaces.j3
   repeat' first
   | (with_reducible exact ih0 _ _ _ _ _)
   | (with_reducible exact ih1 _ _ _)
   | (with_reducible exact ih2 _ _ _ _ _ _ _)
   | (with_reducible exact ih3 _ _ _ _ _ _ _)
   | (with_reducible exact lexer_Lex.mono _ _)
   | (with_reducible exact variorumlaw05_fixed.mono _)
   | (with_reducible exact variorumref05_Same.mono _ _ _)
   | (with_reducible exact LeO.refl _)
   | (with_reducible exact LeO.none _)
   | (with_reducible refine LeO.ite ?_ ?_)
   | (with_reducible refine LeO.bind ?_ (fun _ => ?_))
   | exact ih0 _ _ _ _ _
   | exact ih1 _ _ _
   | exact ih2 _ _ _ _ _ _ _
   | exact ih3 _ _ _ _ _ _ _
   | exact lexer_Lex.mono _ _
   | exact variorumlaw05_fixed.mono _
   | exact variorumref05_Same.mono _ _ _
   | exact LeO.none _
   | refine LeO.ite ?_ ?_
   | refine LeO.bind ?_ (fun _ => ?_)
theorem variorumlaw05_LexerPlaces.mono : ∀ a0 k, LeO (variorumlaw05_LexerPlaces.f k a0) (variorumlaw05_LexerPlaces.f (k + 1) a0) := by
 intro a0 k
 obtain ⟨ih0, ih1, ih2, ih3⟩ := variorumlaw05_LexerPlaces.mono_l k
 unfold variorumlaw05_LexerPlaces.f
 repeat' first
   | (with_reducible exact ih0 _ _ _ _ _)
   | (with_reducible exact ih1 _ _ _)
   | (with_reducible exact ih2 _ _ _ _ _ _ _)
   | (with_reducible exact ih3 _ _ _ _ _ _ _)
   | (with_reducible exact lexer_Lex.mono _ _)
   | (with_reducible exact variorumlaw05_fixed.mono _)
   | (with_reducible exact variorumref05_Same.mono _ _ _)
   | (with_reducible exact LeO.refl _)
   | (with_reducible exact LeO.none _)
   | (with_reducible refine LeO.ite ?_ ?_)
   | (with_reducible refine LeO.bind ?_ (fun _ => ?_))
   | exact ih0 _ _ _ _ _
   | exact ih1 _ _ _
   | exact ih2 _ _ _ _ _ _ _
   | exact ih3 _ _ _ _ _ _ _
   | exact lexer_Lex.mono _ _
   | exact variorumlaw05_fixed.mono _
   | exact variorumref05_Same.mono _ _ _
   | exact LeO.none _
   | refine LeO.ite ?_ ?_
   | refine LeO.bind ?_ (fun _ => ?_)
set_option maxHeartbeats 8000000 in
set_option maxRecDepth 100000 in
theorem variorumlaw05_LexerPlaces.calls (k : Nat) (a0 : ByteArray) (r : Bool) (w : World) (hT : Lib.Utf8Tabs 0 1 w) (h : variorumlaw05_LexerPlaces.f k a0 = some r) :
  Calls Tryz.prog 7 #[.string a0] w fun e w' => e = .returned (.bool r) ∧ Below w.heap.size w w' := by
 have HT := Aside0.mk hT
 clear hT
 have hu25 := Tryz.underlying25
 have hu38 := Tryz.underlying38
 have HB := Aside0.mk (Below.refl w.heap.size w)
 have H : ((lexer_Lex.f k a0).bind fun bt307 => ((variorumlaw05_fixed.f k).bind fun t313 => (if t313 = true then (variorumlaw05_LexerPlaces.j0 k a0 bt307.1 (bt307.2.1 != 0) bt307.2.1 bt307.2.2) else (variorumlaw05_LexerPlaces.j0 k a0 bt307.1 true bt307.2.1 bt307.2.2)))) = some r := h
 clear h
 replace H := Option.bind_eq_some_iff.mp H
 obtain ⟨⟨t307, t310, t311⟩, A20, H⟩ := H
 replace H : ((variorumlaw05_fixed.f k).bind fun t313 => (if t313 = true then (variorumlaw05_LexerPlaces.j0 k a0 t307 (t310 != 0) t310 t311) else (variorumlaw05_LexerPlaces.j0 k a0 t307 true t310 t311))) = some r := H
 have A2 := Aside0.mk A20
 clear A20
 have HC3 := Aside0.mk H
 clear H
 go_enter Tryz.func7, Tryz.ntmps7
 go_upto_region 2 with (first | (go_at_call 10; (with_reducible refine (lexer_Lex.calls k a0 t307 t310 t311 _ (by first | exact HT.out | exact Utf8Tabs_below HT.out (by repeat (first | (with_reducible first | exact HB.out | apply below_alloc | apply pw_below_drewN | apply below_drew1) | exact HB.out | exact Below.refl _ _))) A2.out).mono ?_); rintro e w4 ⟨v308, rfl, ho0, hb⟩; have n0_ := Aside0.mk (Kd.R_lower ho0 (below_size (by repeat (first | (with_reducible first | exact HB.out | apply below_alloc | apply pw_below_drewN | apply below_drew1) | exact HB.out)))); have n1_ := Aside0.mk (below_step (by repeat (first | (with_reducible first | exact HB.out | apply below_alloc | apply pw_below_drewN | apply below_drew1) | exact HB.out)) hb); clear HB; have HO309 := n0_; have HB := n1_; clear n0_ n1_; (try clear hb); (try clear hb2); (try clear hk); (try clear hi); (try clear ho0)) | ((with_reducible refine gate_dst (N := 4) rfl ?_); (try (refine gate_guard (by rfl) ?_; dsimp only)); refine box_event ?hg (N := 4) ?hd (cs := #[.int .i64 0, .int .i64 0]) (t := 25) ?hr ?_; (case hd => rfl); (case hg => rfl); (case hr => first | (go_simp; done) | (go_simp; rfl)); intro gb312 hg w5 hbox hb; have n0_ := Aside0.mk (Kd.R_below (by (with_reducible repeat (first | apply Kd.R_alloc | apply Kd.R_drewN | apply Kd.R_drew)); exact HO309.out) hb); have n1_ := Aside0.mk (below_step (by repeat (first | (with_reducible first | exact HB.out | apply below_alloc | apply pw_below_drewN | apply below_drew1) | exact HB.out)) hb); have n2_ := Aside0.mk (hbox); have n3_ := Aside0.mk ((by rw [hg]; exact (below_size (by repeat (first | (with_reducible first | exact HB.out | apply below_alloc | apply pw_below_drewN | apply below_drew1) | exact HB.out))) : w.heap.size ≤ gb312)); have n4_ := Aside0.mk ((by rw [hg]; exact (below_size (by repeat (first | (with_reducible first | exact HB.out | apply below_alloc | apply pw_below_drewN | apply below_drew1) | exact HB.out))) : w.heap.size ≤ gb312)); clear HO309; clear HB; have HO309 := n0_; have HB := n1_; have BK312 := n2_; have GW312 := n3_; have GE312 := n4_; clear n0_ n1_ n2_ n3_ n4_; clear hb hbox hg; have hcz6_0 : w5.cell? ⟨gb312, 0, none⟩ = some (.int .i64 0) := (blk_cell BK312.out 0).trans rfl; have hcz6_1 : w5.cell? ⟨gb312, 1, none⟩ = some (.int .i64 0) := (blk_cell BK312.out 1).trans rfl; have hfz6_0 := blk_frozen BK312.out 0; have hfz6_1 := blk_frozen BK312.out 1))
 repeat (go_quiet (first | (go_at_call 10; (with_reducible refine (lexer_Lex.calls k a0 t307 t310 t311 _ (by first | exact HT.out | exact Utf8Tabs_below HT.out (by repeat (first | (with_reducible first | exact HB.out | apply below_alloc | apply pw_below_drewN | apply below_drew1) | exact HB.out | exact Below.refl _ _))) A2.out).mono ?_); rintro e w4 ⟨v308, rfl, ho0, hb⟩; have n0_ := Aside0.mk (Kd.R_lower ho0 (below_size (by repeat (first | (with_reducible first | exact HB.out | apply below_alloc | apply pw_below_drewN | apply below_drew1) | exact HB.out)))); have n1_ := Aside0.mk (below_step (by repeat (first | (with_reducible first | exact HB.out | apply below_alloc | apply pw_below_drewN | apply below_drew1) | exact HB.out)) hb); clear HB; have HO309 := n0_; have HB := n1_; clear n0_ n1_; (try clear hb); (try clear hb2); (try clear hk); (try clear hi); (try clear ho0)) | ((with_reducible refine gate_dst (N := 4) rfl ?_); (try (refine gate_guard (by rfl) ?_; dsimp only)); refine box_event ?hg (N := 4) ?hd (cs := #[.int .i64 0, .int .i64 0]) (t := 25) ?hr ?_; (case hd => rfl); (case hg => rfl); (case hr => first | (go_simp; done) | (go_simp; rfl)); intro gb312 hg w5 hbox hb; have n0_ := Aside0.mk (Kd.R_below (by (with_reducible repeat (first | apply Kd.R_alloc | apply Kd.R_drewN | apply Kd.R_drew)); exact HO309.out) hb); have n1_ := Aside0.mk (below_step (by repeat (first | (with_reducible first | exact HB.out | apply below_alloc | apply pw_below_drewN | apply below_drew1) | exact HB.out)) hb); have n2_ := Aside0.mk (hbox); have n3_ := Aside0.mk ((by rw [hg]; exact (below_size (by repeat (first | (with_reducible first | exact HB.out | apply below_alloc | apply pw_below_drewN | apply below_drew1) | exact HB.out))) : w.heap.size ≤ gb312)); have n4_ := Aside0.mk ((by rw [hg]; exact (below_size (by repeat (first | (with_reducible first | exact HB.out | apply below_alloc | apply pw_below_drewN | apply below_drew1) | exact HB.out))) : w.heap.size ≤ gb312)); clear HO309; clear HB; have HO309 := n0_; have HB := n1_; have BK312 := n2_; have GW312 := n3_; have GE312 := n4_; clear n0_ n1_ n2_ n3_ n4_; clear hb hbox hg; have hcz6_0 : w5.cell? ⟨gb312, 0, none⟩ = some (.int .i64 0) := (blk_cell BK312.out 0).trans rfl; have hcz6_1 : w5.cell? ⟨gb312, 1, none⟩ = some (.int .i64 0) := (blk_cell BK312.out 1).trans rfl; have hfz6_0 := blk_frozen BK312.out 0; have hfz6_1 := blk_frozen BK312.out 1)); go_upto_region 2 with (first | (go_at_call 10; (with_reducible refine (lexer_Lex.calls k a0 t307 t310 t311 _ (by first | exact HT.out | exact Utf8Tabs_below HT.out (by repeat (first | (with_reducible first | exact HB.out | apply below_alloc | apply pw_below_drewN | apply below_drew1) | exact HB.out | exact Below.refl _ _))) A2.out).mono ?_); rintro e w4 ⟨v308, rfl, ho0, hb⟩; have n0_ := Aside0.mk (Kd.R_lower ho0 (below_size (by repeat (first | (with_reducible first | exact HB.out | apply below_alloc | apply pw_below_drewN | apply below_drew1) | exact HB.out)))); have n1_ := Aside0.mk (below_step (by repeat (first | (with_reducible first | exact HB.out | apply below_alloc | apply pw_below_drewN | apply below_drew1) | exact HB.out)) hb); clear HB; have HO309 := n0_; have HB := n1_; clear n0_ n1_; (try clear hb); (try clear hb2); (try clear hk); (try clear hi); (try clear ho0)) | ((with_reducible refine gate_dst (N := 4) rfl ?_); (try (refine gate_guard (by rfl) ?_; dsimp only)); refine box_event ?hg (N := 4) ?hd (cs := #[.int .i64 0, .int .i64 0]) (t := 25) ?hr ?_; (case hd => rfl); (case hg => rfl); (case hr => first | (go_simp; done) | (go_simp; rfl)); intro gb312 hg w5 hbox hb; have n0_ := Aside0.mk (Kd.R_below (by (with_reducible repeat (first | apply Kd.R_alloc | apply Kd.R_drewN | apply Kd.R_drew)); exact HO309.out) hb); have n1_ := Aside0.mk (below_step (by repeat (first | (with_reducible first | exact HB.out | apply below_alloc | apply pw_below_drewN | apply below_drew1) | exact HB.out)) hb); have n2_ := Aside0.mk (hbox); have n3_ := Aside0.mk ((by rw [hg]; exact (below_size (by repeat (first | (with_reducible first | exact HB.out | apply below_alloc | apply pw_below_drewN | apply below_drew1) | exact HB.out))) : w.heap.size ≤ gb312)); have n4_ := Aside0.mk ((by rw [hg]; exact (below_size (by repeat (first | (with_reducible first | exact HB.out | apply below_alloc | apply pw_below_drewN | apply below_drew1) | exact HB.out))) : w.heap.size ≤ gb312)); clear HO309; clear HB; have HO309 := n0_; have HB := n1_; have BK312 := n2_; have GW312 := n3_; have GE312 := n4_; clear n0_ n1_ n2_ n3_ n4_; clear hb hbox hg; have hcz6_0 : w5.cell? ⟨gb312, 0, none⟩ = some (.int .i64 0) := (blk_cell BK312.out 0).trans rfl; have hcz6_1 : w5.cell? ⟨gb312, 1, none⟩ = some (.int .i64 0) := (blk_cell BK312.out 1).trans rfl; have hfz6_0 := blk_frozen BK312.out 0; have hfz6_1 := blk_frozen BK312.out 1)))
 (try simp only [Act.put, List.setIfInBounds_toArray, List.set_cons_zero, List.set_cons_succ])
 go_cut [21] (fun v21 wc => ∃ (kq : Nat) (x21_2 : Bool), v21 = .bool x21_2 ∧ Aside0 (variorumlaw05_LexerPlaces.j0 kq a0 t307 x21_2 t310 t311 = some r) ∧ Aside0 (kq ≤ k) ∧ Aside0 (Kd.R k38 38 wc w.heap.size (fun _ => True) v308 t307) ∧ Aside0 (wc.heap[gb312]? = some (.cells #[.int .i64 t310, .int .i64 t311] 25 (0, 0))) ∧ Aside0 (Below w.heap.size w wc))
 case first =>
  as_aux_lemma =>
  have H := HC3.out
  clear HC3
  replace H := Option.bind_eq_some_iff.mp H
  obtain ⟨t313, A70, H⟩ := H
  replace H : (if t313 = true then (variorumlaw05_LexerPlaces.j0 k a0 t307 (t310 != 0) t310 t311) else (variorumlaw05_LexerPlaces.j0 k a0 t307 true t310 t311)) = some r := H
  have A7 := Aside0.mk A70
  clear A70
  by_cases c8 : t313 = true
  ·subst c8
   have H1 : (variorumlaw05_LexerPlaces.j0 k a0 t307 (t310 != 0) t310 t311) = some r := by rw [if_pos rfl] at H; exact H
   clear H
   have H := H1
   clear H1
   have H' := Aside0.mk H
   clear H
   go_wp2_with (first | (go_at_call 12; (with_reducible refine (variorumlaw05_fixed.calls k  true _ (by first | exact HT.out | exact Utf8Tabs_below HT.out (by repeat (first | (with_reducible first | exact HB.out | apply below_alloc | apply pw_below_drewN | apply below_drew1 | refine below_set ?_ GE312.out) | exact HB.out | exact Below.refl _ _))) A7.out).mono ?_); rintro e w9 ⟨rfl, hb⟩; have n0_ := Aside0.mk (Kd.R_below (by (with_reducible repeat (first | apply Kd.R_alloc | apply Kd.R_drewN | apply Kd.R_drew)); exact (Kd.R_mono (Kd.R_far (p := ⟨gb312, 1, none⟩) (Kd.R_far (p := ⟨gb312, 0, none⟩) (Kd.R_types HO309.out BK312.out (by decide)) (fun _ hk => hk.2) (.int .i64 t310)) (fun _ hk => hk.2) (.int .i64 t311)) (fun _ h_ => h_.1))) hb); have n1_ := Aside0.mk (blk_below (g := gb312) (o := .cells #[.int .i64 t310, .int .i64 t311] 25 (0, 0)) (by (with_reducible repeat (first | refine blk_drewN ?_ _ | refine blk_drew ?_ | refine blk_alloc ?_ _)); refine blk_put (cs := #[.int .i64 t310, .int .i64 0]) ?_ 1 _ rfl; (with_reducible repeat (first | refine blk_drewN ?_ _ | refine blk_drew ?_ | refine blk_alloc ?_ _)); refine blk_put (cs := #[.int .i64 0, .int .i64 0]) ?_ 0 _ rfl; (with_reducible repeat (first | refine blk_drewN ?_ _ | refine blk_drew ?_ | refine blk_alloc ?_ _)); exact BK312.out) hb); have n2_ := Aside0.mk (below_step (by repeat (first | (with_reducible first | exact HB.out | apply below_alloc | apply pw_below_drewN | apply below_drew1 | refine below_set ?_ GE312.out) | exact HB.out)) hb); clear HO309; clear BK312; clear HB; have HO309 := n0_; have BK312 := n1_; have HB := n2_; clear n0_ n1_ n2_; (try clear hb); (try clear hb2); (try clear hk); (try clear hi); have hcz10_0 : w9.cell? ⟨gb312, 0, none⟩ = some (.int .i64 t310) := (blk_cell BK312.out 0).trans rfl; have hcz10_1 : w9.cell? ⟨gb312, 1, none⟩ = some (.int .i64 t311) := (blk_cell BK312.out 1).trans rfl; have hfz10_0 := blk_frozen BK312.out 0; have hfz10_1 := blk_frozen BK312.out 1))
   repeat (go_quiet (first | (go_at_call 12; (with_reducible refine (variorumlaw05_fixed.calls k  true _ (by first | exact HT.out | exact Utf8Tabs_below HT.out (by repeat (first | (with_reducible first | exact HB.out | apply below_alloc | apply pw_below_drewN | apply below_drew1 | refine below_set ?_ GE312.out) | exact HB.out | exact Below.refl _ _))) A7.out).mono ?_); rintro e w9 ⟨rfl, hb⟩; have n0_ := Aside0.mk (Kd.R_below (by (with_reducible repeat (first | apply Kd.R_alloc | apply Kd.R_drewN | apply Kd.R_drew)); exact (Kd.R_mono (Kd.R_far (p := ⟨gb312, 1, none⟩) (Kd.R_far (p := ⟨gb312, 0, none⟩) (Kd.R_types HO309.out BK312.out (by decide)) (fun _ hk => hk.2) (.int .i64 t310)) (fun _ hk => hk.2) (.int .i64 t311)) (fun _ h_ => h_.1))) hb); have n1_ := Aside0.mk (blk_below (g := gb312) (o := .cells #[.int .i64 t310, .int .i64 t311] 25 (0, 0)) (by (with_reducible repeat (first | refine blk_drewN ?_ _ | refine blk_drew ?_ | refine blk_alloc ?_ _)); refine blk_put (cs := #[.int .i64 t310, .int .i64 0]) ?_ 1 _ rfl; (with_reducible repeat (first | refine blk_drewN ?_ _ | refine blk_drew ?_ | refine blk_alloc ?_ _)); refine blk_put (cs := #[.int .i64 0, .int .i64 0]) ?_ 0 _ rfl; (with_reducible repeat (first | refine blk_drewN ?_ _ | refine blk_drew ?_ | refine blk_alloc ?_ _)); exact BK312.out) hb); have n2_ := Aside0.mk (below_step (by repeat (first | (with_reducible first | exact HB.out | apply below_alloc | apply pw_below_drewN | apply below_drew1 | refine below_set ?_ GE312.out) | exact HB.out)) hb); clear HO309; clear BK312; clear HB; have HO309 := n0_; have BK312 := n1_; have HB := n2_; clear n0_ n1_ n2_; (try clear hb); (try clear hb2); (try clear hk); (try clear hi); have hcz10_0 : w9.cell? ⟨gb312, 0, none⟩ = some (.int .i64 t310) := (blk_cell BK312.out 0).trans rfl; have hcz10_1 : w9.cell? ⟨gb312, 1, none⟩ = some (.int .i64 t311) := (blk_cell BK312.out 1).trans rfl; have hfz10_0 := blk_frozen BK312.out 0; have hfz10_1 := blk_frozen BK312.out 1)); try go_wp2_with (first | (go_at_call 12; (with_reducible refine (variorumlaw05_fixed.calls k  true _ (by first | exact HT.out | exact Utf8Tabs_below HT.out (by repeat (first | (with_reducible first | exact HB.out | apply below_alloc | apply pw_below_drewN | apply below_drew1 | refine below_set ?_ GE312.out) | exact HB.out | exact Below.refl _ _))) A7.out).mono ?_); rintro e w9 ⟨rfl, hb⟩; have n0_ := Aside0.mk (Kd.R_below (by (with_reducible repeat (first | apply Kd.R_alloc | apply Kd.R_drewN | apply Kd.R_drew)); exact (Kd.R_mono (Kd.R_far (p := ⟨gb312, 1, none⟩) (Kd.R_far (p := ⟨gb312, 0, none⟩) (Kd.R_types HO309.out BK312.out (by decide)) (fun _ hk => hk.2) (.int .i64 t310)) (fun _ hk => hk.2) (.int .i64 t311)) (fun _ h_ => h_.1))) hb); have n1_ := Aside0.mk (blk_below (g := gb312) (o := .cells #[.int .i64 t310, .int .i64 t311] 25 (0, 0)) (by (with_reducible repeat (first | refine blk_drewN ?_ _ | refine blk_drew ?_ | refine blk_alloc ?_ _)); refine blk_put (cs := #[.int .i64 t310, .int .i64 0]) ?_ 1 _ rfl; (with_reducible repeat (first | refine blk_drewN ?_ _ | refine blk_drew ?_ | refine blk_alloc ?_ _)); refine blk_put (cs := #[.int .i64 0, .int .i64 0]) ?_ 0 _ rfl; (with_reducible repeat (first | refine blk_drewN ?_ _ | refine blk_drew ?_ | refine blk_alloc ?_ _)); exact BK312.out) hb); have n2_ := Aside0.mk (below_step (by repeat (first | (with_reducible first | exact HB.out | apply below_alloc | apply pw_below_drewN | apply below_drew1 | refine below_set ?_ GE312.out) | exact HB.out)) hb); clear HO309; clear BK312; clear HB; have HO309 := n0_; have BK312 := n1_; have HB := n2_; clear n0_ n1_ n2_; (try clear hb); (try clear hb2); (try clear hk); (try clear hi); have hcz10_0 : w9.cell? ⟨gb312, 0, none⟩ = some (.int .i64 t310) := (blk_cell BK312.out 0).trans rfl; have hcz10_1 : w9.cell? ⟨gb312, 1, none⟩ = some (.int .i64 t311) := (blk_cell BK312.out 1).trans rfl; have hfz10_0 := blk_frozen BK312.out 0; have hfz10_1 := blk_frozen BK312.out 1)))
   go_meet
   case rel => exact ⟨_, ((t310 != 0)), (by first | rfl | (simp; done) | (simp [*]; done)), H', ⟨by first | omega | exact Nat.le_refl _⟩, ⟨by (with_reducible repeat (first | apply Kd.R_alloc | apply Kd.R_drewN | apply Kd.R_drew)); exact HO309.out⟩, ⟨by (with_reducible repeat (first | refine blk_drewN ?_ _ | refine blk_drew ?_ | refine blk_alloc ?_ _)); exact BK312.out⟩, ⟨by repeat (first | (with_reducible first | exact HB.out | apply below_alloc | apply pw_below_drewN | apply below_drew1 | refine below_set ?_ GE312.out) | exact HB.out)⟩⟩
  ·replace c8 := Bool.eq_false_iff.mpr c8
   subst c8
   have H1 : (variorumlaw05_LexerPlaces.j0 k a0 t307 true t310 t311) = some r := by rw [if_neg (show ¬ (false = true) by decide)] at H; exact H
   clear H
   have H := H1
   clear H1
   have H' := Aside0.mk H
   clear H
   go_wp2_with (first | (go_at_call 12; (with_reducible refine (variorumlaw05_fixed.calls k  false _ (by first | exact HT.out | exact Utf8Tabs_below HT.out (by repeat (first | (with_reducible first | exact HB.out | apply below_alloc | apply pw_below_drewN | apply below_drew1 | refine below_set ?_ GE312.out) | exact HB.out | exact Below.refl _ _))) A7.out).mono ?_); rintro e w11 ⟨rfl, hb⟩; have n0_ := Aside0.mk (Kd.R_below (by (with_reducible repeat (first | apply Kd.R_alloc | apply Kd.R_drewN | apply Kd.R_drew)); exact (Kd.R_mono (Kd.R_far (p := ⟨gb312, 1, none⟩) (Kd.R_far (p := ⟨gb312, 0, none⟩) (Kd.R_types HO309.out BK312.out (by decide)) (fun _ hk => hk.2) (.int .i64 t310)) (fun _ hk => hk.2) (.int .i64 t311)) (fun _ h_ => h_.1))) hb); have n1_ := Aside0.mk (blk_below (g := gb312) (o := .cells #[.int .i64 t310, .int .i64 t311] 25 (0, 0)) (by (with_reducible repeat (first | refine blk_drewN ?_ _ | refine blk_drew ?_ | refine blk_alloc ?_ _)); refine blk_put (cs := #[.int .i64 t310, .int .i64 0]) ?_ 1 _ rfl; (with_reducible repeat (first | refine blk_drewN ?_ _ | refine blk_drew ?_ | refine blk_alloc ?_ _)); refine blk_put (cs := #[.int .i64 0, .int .i64 0]) ?_ 0 _ rfl; (with_reducible repeat (first | refine blk_drewN ?_ _ | refine blk_drew ?_ | refine blk_alloc ?_ _)); exact BK312.out) hb); have n2_ := Aside0.mk (below_step (by repeat (first | (with_reducible first | exact HB.out | apply below_alloc | apply pw_below_drewN | apply below_drew1 | refine below_set ?_ GE312.out) | exact HB.out)) hb); clear HO309; clear BK312; clear HB; have HO309 := n0_; have BK312 := n1_; have HB := n2_; clear n0_ n1_ n2_; (try clear hb); (try clear hb2); (try clear hk); (try clear hi)))
   repeat (go_quiet (first | (go_at_call 12; (with_reducible refine (variorumlaw05_fixed.calls k  false _ (by first | exact HT.out | exact Utf8Tabs_below HT.out (by repeat (first | (with_reducible first | exact HB.out | apply below_alloc | apply pw_below_drewN | apply below_drew1 | refine below_set ?_ GE312.out) | exact HB.out | exact Below.refl _ _))) A7.out).mono ?_); rintro e w11 ⟨rfl, hb⟩; have n0_ := Aside0.mk (Kd.R_below (by (with_reducible repeat (first | apply Kd.R_alloc | apply Kd.R_drewN | apply Kd.R_drew)); exact (Kd.R_mono (Kd.R_far (p := ⟨gb312, 1, none⟩) (Kd.R_far (p := ⟨gb312, 0, none⟩) (Kd.R_types HO309.out BK312.out (by decide)) (fun _ hk => hk.2) (.int .i64 t310)) (fun _ hk => hk.2) (.int .i64 t311)) (fun _ h_ => h_.1))) hb); have n1_ := Aside0.mk (blk_below (g := gb312) (o := .cells #[.int .i64 t310, .int .i64 t311] 25 (0, 0)) (by (with_reducible repeat (first | refine blk_drewN ?_ _ | refine blk_drew ?_ | refine blk_alloc ?_ _)); refine blk_put (cs := #[.int .i64 t310, .int .i64 0]) ?_ 1 _ rfl; (with_reducible repeat (first | refine blk_drewN ?_ _ | refine blk_drew ?_ | refine blk_alloc ?_ _)); refine blk_put (cs := #[.int .i64 0, .int .i64 0]) ?_ 0 _ rfl; (with_reducible repeat (first | refine blk_drewN ?_ _ | refine blk_drew ?_ | refine blk_alloc ?_ _)); exact BK312.out) hb); have n2_ := Aside0.mk (below_step (by repeat (first | (with_reducible first | exact HB.out | apply below_alloc | apply pw_below_drewN | apply below_drew1 | refine below_set ?_ GE312.out) | exact HB.out)) hb); clear HO309; clear BK312; clear HB; have HO309 := n0_; have BK312 := n1_; have HB := n2_; clear n0_ n1_ n2_; (try clear hb); (try clear hb2); (try clear hk); (try clear hi))); try go_wp2_with (first | (go_at_call 12; (with_reducible refine (variorumlaw05_fixed.calls k  false _ (by first | exact HT.out | exact Utf8Tabs_below HT.out (by repeat (first | (with_reducible first | exact HB.out | apply below_alloc | apply pw_below_drewN | apply below_drew1 | refine below_set ?_ GE312.out) | exact HB.out | exact Below.refl _ _))) A7.out).mono ?_); rintro e w11 ⟨rfl, hb⟩; have n0_ := Aside0.mk (Kd.R_below (by (with_reducible repeat (first | apply Kd.R_alloc | apply Kd.R_drewN | apply Kd.R_drew)); exact (Kd.R_mono (Kd.R_far (p := ⟨gb312, 1, none⟩) (Kd.R_far (p := ⟨gb312, 0, none⟩) (Kd.R_types HO309.out BK312.out (by decide)) (fun _ hk => hk.2) (.int .i64 t310)) (fun _ hk => hk.2) (.int .i64 t311)) (fun _ h_ => h_.1))) hb); have n1_ := Aside0.mk (blk_below (g := gb312) (o := .cells #[.int .i64 t310, .int .i64 t311] 25 (0, 0)) (by (with_reducible repeat (first | refine blk_drewN ?_ _ | refine blk_drew ?_ | refine blk_alloc ?_ _)); refine blk_put (cs := #[.int .i64 t310, .int .i64 0]) ?_ 1 _ rfl; (with_reducible repeat (first | refine blk_drewN ?_ _ | refine blk_drew ?_ | refine blk_alloc ?_ _)); refine blk_put (cs := #[.int .i64 0, .int .i64 0]) ?_ 0 _ rfl; (with_reducible repeat (first | refine blk_drewN ?_ _ | refine blk_drew ?_ | refine blk_alloc ?_ _)); exact BK312.out) hb); have n2_ := Aside0.mk (below_step (by repeat (first | (with_reducible first | exact HB.out | apply below_alloc | apply pw_below_drewN | apply below_drew1 | refine below_set ?_ GE312.out) | exact HB.out)) hb); clear HO309; clear BK312; clear HB; have HO309 := n0_; have BK312 := n1_; have HB := n2_; clear n0_ n1_ n2_; (try clear hb); (try clear hb2); (try clear hk); (try clear hi))))
   go_meet
   case rel => exact ⟨_, (true), (by first | rfl | (simp; done) | (simp [*]; done)), H', ⟨by first | omega | exact Nat.le_refl _⟩, ⟨by (with_reducible repeat (first | apply Kd.R_alloc | apply Kd.R_drewN | apply Kd.R_drew)); exact HO309.out⟩, ⟨by (with_reducible repeat (first | refine blk_drewN ?_ _ | refine blk_drew ?_ | refine blk_alloc ?_ _)); exact BK312.out⟩, ⟨by repeat (first | (with_reducible first | exact HB.out | apply below_alloc | apply pw_below_drewN | apply below_drew1 | refine below_set ?_ GE312.out) | exact HB.out)⟩⟩
 case rest =>
  as_aux_lemma =>
  clear HC3
  try clear p2
  try clear c7
  try clear c8
  try clear hcz10_0
  try clear hcz10_1
  try clear hcz6_0
  try clear hcz6_1
  try clear hfz10_0
  try clear hfz10_1
  try clear hfz6_0
  try clear hfz6_1
  obtain ⟨kq, x21_2, rfl, HA, HJ2, HO_3, BK312, HB⟩ := hcut
  cases kq with
  | zero => exact absurd HA.out (by simp [variorumlaw05_LexerPlaces.j0])
  | succ kj2 =>
   have H := HA.out
   clear HA
   simp only [variorumlaw05_LexerPlaces.j0] at H
   by_cases c12 : x21_2 = true
   ·subst c12
    have H1 : ((variorumlaw05_fixed.f kj2).bind fun t314 => (if t314 = true then (if t311 ≥ 0 then (some (decide (t311 ≤ (a0.size : Int)))) else (none)) else (none))) = some r := by rw [if_pos rfl] at H; exact H
    clear H
    have H := H1
    clear H1
    replace H := Option.bind_eq_some_iff.mp H
    obtain ⟨t314, A130, H⟩ := H
    replace H : (if t314 = true then (if t311 ≥ 0 then (some (decide (t311 ≤ (a0.size : Int)))) else (none)) else (none)) = some r := H
    have A13 := Aside0.mk A130
    clear A130
    by_cases c14 : t314 = true
    ·subst c14
     have H1 : (if t311 ≥ 0 then (some (decide (t311 ≤ (a0.size : Int)))) else (none)) = some r := by rw [if_pos rfl] at H; exact H
     clear H
     have H := H1
     clear H1
     by_cases c15 : t311 ≥ 0
     ·rw [if_pos c15] at H
      have c15b0 : decide (0 ≤ t311) = true := decide_eq_true c15
      clear c15
      obtain rfl := Option.some.inj H
      go_wp2_with (first | (go_at_call 12; (with_reducible refine (variorumlaw05_fixed.calls kj2  true _ (by first | exact HT.out | exact Utf8Tabs_below HT.out (by repeat (first | (with_reducible first | exact HB.out | apply below_alloc | apply pw_below_drewN | apply below_drew1 | refine below_set ?_ GE312.out) | exact HB.out | exact Below.refl _ _))) A13.out).mono ?_); rintro e w16 ⟨rfl, hb⟩; have n0_ := Aside0.mk (Kd.R_below (by (with_reducible repeat (first | apply Kd.R_alloc | apply Kd.R_drewN | apply Kd.R_drew)); exact HO_3.out) hb); have n1_ := Aside0.mk (blk_below (g := gb312) (o := .cells #[.int .i64 t310, .int .i64 t311] 25 (0, 0)) (by (with_reducible repeat (first | refine blk_drewN ?_ _ | refine blk_drew ?_ | refine blk_alloc ?_ _)); exact BK312.out) hb); have n2_ := Aside0.mk (below_step (by repeat (first | (with_reducible first | exact HB.out | apply below_alloc | apply pw_below_drewN | apply below_drew1 | refine below_set ?_ GE312.out) | exact HB.out)) hb); clear HO_3; clear BK312; clear HB; have HO_3 := n0_; have BK312 := n1_; have HB := n2_; clear n0_ n1_ n2_; (try clear hb); (try clear hb2); (try clear hk); (try clear hi); have hcz17_0 : w16.cell? ⟨gb312, 0, none⟩ = some (.int .i64 t310) := (blk_cell BK312.out 0).trans rfl; have hcz17_1 : w16.cell? ⟨gb312, 1, none⟩ = some (.int .i64 t311) := (blk_cell BK312.out 1).trans rfl; have hfz17_0 := blk_frozen BK312.out 0; have hfz17_1 := blk_frozen BK312.out 1))
      repeat (go_quiet (first | (go_at_call 12; (with_reducible refine (variorumlaw05_fixed.calls kj2  true _ (by first | exact HT.out | exact Utf8Tabs_below HT.out (by repeat (first | (with_reducible first | exact HB.out | apply below_alloc | apply pw_below_drewN | apply below_drew1 | refine below_set ?_ GE312.out) | exact HB.out | exact Below.refl _ _))) A13.out).mono ?_); rintro e w16 ⟨rfl, hb⟩; have n0_ := Aside0.mk (Kd.R_below (by (with_reducible repeat (first | apply Kd.R_alloc | apply Kd.R_drewN | apply Kd.R_drew)); exact HO_3.out) hb); have n1_ := Aside0.mk (blk_below (g := gb312) (o := .cells #[.int .i64 t310, .int .i64 t311] 25 (0, 0)) (by (with_reducible repeat (first | refine blk_drewN ?_ _ | refine blk_drew ?_ | refine blk_alloc ?_ _)); exact BK312.out) hb); have n2_ := Aside0.mk (below_step (by repeat (first | (with_reducible first | exact HB.out | apply below_alloc | apply pw_below_drewN | apply below_drew1 | refine below_set ?_ GE312.out) | exact HB.out)) hb); clear HO_3; clear BK312; clear HB; have HO_3 := n0_; have BK312 := n1_; have HB := n2_; clear n0_ n1_ n2_; (try clear hb); (try clear hb2); (try clear hk); (try clear hi); have hcz17_0 : w16.cell? ⟨gb312, 0, none⟩ = some (.int .i64 t310) := (blk_cell BK312.out 0).trans rfl; have hcz17_1 : w16.cell? ⟨gb312, 1, none⟩ = some (.int .i64 t311) := (blk_cell BK312.out 1).trans rfl; have hfz17_0 := blk_frozen BK312.out 0; have hfz17_1 := blk_frozen BK312.out 1)); try go_wp2_with (first | (go_at_call 12; (with_reducible refine (variorumlaw05_fixed.calls kj2  true _ (by first | exact HT.out | exact Utf8Tabs_below HT.out (by repeat (first | (with_reducible first | exact HB.out | apply below_alloc | apply pw_below_drewN | apply below_drew1 | refine below_set ?_ GE312.out) | exact HB.out | exact Below.refl _ _))) A13.out).mono ?_); rintro e w16 ⟨rfl, hb⟩; have n0_ := Aside0.mk (Kd.R_below (by (with_reducible repeat (first | apply Kd.R_alloc | apply Kd.R_drewN | apply Kd.R_drew)); exact HO_3.out) hb); have n1_ := Aside0.mk (blk_below (g := gb312) (o := .cells #[.int .i64 t310, .int .i64 t311] 25 (0, 0)) (by (with_reducible repeat (first | refine blk_drewN ?_ _ | refine blk_drew ?_ | refine blk_alloc ?_ _)); exact BK312.out) hb); have n2_ := Aside0.mk (below_step (by repeat (first | (with_reducible first | exact HB.out | apply below_alloc | apply pw_below_drewN | apply below_drew1 | refine below_set ?_ GE312.out) | exact HB.out)) hb); clear HO_3; clear BK312; clear HB; have HO_3 := n0_; have BK312 := n1_; have HB := n2_; clear n0_ n1_ n2_; (try clear hb); (try clear hb2); (try clear hk); (try clear hi); have hcz17_0 : w16.cell? ⟨gb312, 0, none⟩ = some (.int .i64 t310) := (blk_cell BK312.out 0).trans rfl; have hcz17_1 : w16.cell? ⟨gb312, 1, none⟩ = some (.int .i64 t311) := (blk_cell BK312.out 1).trans rfl; have hfz17_0 := blk_frozen BK312.out 0; have hfz17_1 := blk_frozen BK312.out 1)))
      go_ret
      exact ⟨by first | rfl | (simp [errW_none, errW_some] <;> rfl) | (simp [*, errW_none, errW_some] <;> rfl), by repeat (first | (with_reducible first | exact HB.out | apply below_alloc | apply pw_below_drewN | apply below_drew1 | refine below_set ?_ GE312.out) | exact HB.out)⟩
     ·rw [if_neg c15] at H
      exact absurd H (by simp)
    ·replace c14 := Bool.eq_false_iff.mpr c14
     subst c14
     have H1 : (none) = some r := by rw [if_neg (show ¬ (false = true) by decide)] at H; exact H
     clear H
     have H := H1
     clear H1
     exact absurd H (by simp)
   ·replace c12 := Bool.eq_false_iff.mpr c12
    subst c12
    have H1 : (variorumlaw05_LexerPlaces.l0 kj2 a0 t307 0) = some r := by rw [if_neg (show ¬ (false = true) by decide)] at H; exact H
    clear H
    have H := H1
    clear H1
    have H' := Aside0.mk H
    clear H
    go_wp2
    repeat (go_quiet (fail); try go_wp2)
    go_loopg [5] kj2 (fun kq v5 w' => ∃ (x5_2 : Int), v5 = .int .i64 x5_2 ∧ Aside0 (variorumlaw05_LexerPlaces.l0 kq a0 t307 x5_2 = some r) ∧ Aside0 (kq ≤ kj2) ∧ Aside0 (Kd.R k38 38 w' w.heap.size (fun _ => True) v308 t307) ∧ Aside0 (w'.heap[gb312]? = some (.cells #[.int .i64 t310, .int .i64 t311] 25 (0, 0))) ∧ Aside0 (Below w.heap.size w w'))
    case atStart => exact ⟨(0), (by first | rfl | (simp; done) | (simp [*]; done)), H', ⟨Nat.le_refl _⟩, ⟨by (with_reducible repeat (first | apply Kd.R_alloc | apply Kd.R_drewN | apply Kd.R_drew)); exact HO_3.out⟩, ⟨by (with_reducible repeat (first | refine blk_drewN ?_ _ | refine blk_drew ?_ | refine blk_alloc ?_ _)); exact BK312.out⟩, ⟨by repeat (first | (with_reducible first | exact HB.out | apply below_alloc | apply pw_below_drewN | apply below_drew1 | refine below_set ?_ GE312.out) | exact HB.out)⟩⟩
    case round =>
     as_aux_lemma =>
     clear H'
     try clear c1
     try clear p2
     try clear c7
     try clear c8
     try clear c12
     try clear c14
     try clear c15
     try clear c15b0
     try clear hcz10_0
     try clear hcz10_1
     try clear hcz17_0
     try clear hcz17_1
     try clear hcz6_0
     try clear hcz6_1
     try clear hfz10_0
     try clear hfz10_1
     try clear hfz17_0
     try clear hfz17_1
     try clear hfz6_0
     try clear hfz6_1
     try clear p2
     obtain ⟨x5_2, rfl, HA, HK2, HO_3, BK312, HB⟩ := hrel
     cases gk with
     | zero => exact absurd HA.out (by simp [variorumlaw05_LexerPlaces.l0])
     | succ k2 =>
      have H := HA.out
      clear HA
      simp only [variorumlaw05_LexerPlaces.l0] at H
      by_cases c18 : x5_2 < (t307.length : Int)
      ·rw [if_pos c18] at H
       have c18b0 : decide (x5_2 < (t307.length : Int)) = true := decide_eq_true c18
       clear c18
       by_cases c19 : 0 ≤ x5_2
       ·rw [if_pos c19] at H
        have c19b0 : decide (0 ≤ x5_2) = true := decide_eq_true c19
        clear c19
        have HC20 := Aside0.mk H
        clear H
        obtain ⟨Ao21, co21, eo21⟩ := Kd.R_slice HO_3.out
        subst eo21
        have p315 : 0 ≤ (x5_2 : Int) := of_decide_eq_true (by first | (with_reducible assumption) | assumption)
        have q315 : x5_2 < (t307.length : Int) := of_decide_eq_true (by first | (with_reducible assumption) | assumption)
        obtain ⟨ad315, e315, hx315_0, hx315_1, hx315_2⟩ := at_T38 (Kd.R_reads' HO_3.out).2.2 x5_2 p315 q315
        cases e315
        replace p315 := eq_true p315
        replace q315 := eq_true q315
        go_upto_region 8 with (first | ((with_reducible refine gate_dst (N := 6) rfl ?_); (try (refine gate_guard (by rfl) ?_; dsimp only)); refine box_event ?hg (N := 6) ?hd (cs := #[.int .i64 0, .string (⟨#[]⟩ : ByteArray), .int .i64 0]) (t := 38) ?hr ?_; (case hd => rfl); (case hg => rfl); (case hr => first | (go_simp; done) | (go_simp; rfl)); intro gb316 hg w22 hbox hb; have n0_ := Aside0.mk (Kd.R_below (Kd.R_elderB (by (with_reducible repeat (first | apply Kd.R_alloc | apply Kd.R_drewN | apply Kd.R_drew)); exact HO_3.out) gb316 (Nat.le_of_eq hg.symm)) hb); have n1_ := Aside0.mk (blk_below (g := gb312) (o := .cells #[.int .i64 t310, .int .i64 t311] 25 (0, 0)) (by (with_reducible repeat (first | refine blk_drewN ?_ _ | refine blk_drew ?_ | refine blk_alloc ?_ _)); exact BK312.out) hb); have n2_ := Aside0.mk (below_step (by repeat (first | (with_reducible first | exact HB.out | apply below_alloc | apply pw_below_drewN | apply below_drew1 | refine below_set ?_ GE312.out) | exact HB.out)) hb); have n3_ := Aside0.mk (hbox); have n4_ := Aside0.mk ((by rw [hg]; exact (below_size (by repeat (first | (with_reducible first | exact HB.out | apply below_alloc | apply pw_below_drewN | apply below_drew1 | refine below_set ?_ GE312.out) | exact HB.out))) : w.heap.size ≤ gb316)); have n5_ := Aside0.mk ((by rw [hg]; exact (below_size (by repeat (first | (with_reducible first | exact HB.out | apply below_alloc | apply pw_below_drewN | apply below_drew1 | refine below_set ?_ GE312.out) | exact HB.out))) : w.heap.size ≤ gb316)); have n6_ := Aside0.mk ((by rw [hg]; exact Nat.ne_of_lt (blk_lt (g := gb312) (o := .cells #[.int .i64 t310, .int .i64 t311] 25 (0, 0)) (by (with_reducible repeat (first | refine blk_drewN ?_ _ | refine blk_drew ?_ | refine blk_alloc ?_ _)); exact BK312.out)) : gb312 ≠ gb316)); have n7_ := Aside0.mk ((by rw [hg]; exact Nat.ne_of_gt (blk_lt (g := gb312) (o := .cells #[.int .i64 t310, .int .i64 t311] 25 (0, 0)) (by (with_reducible repeat (first | refine blk_drewN ?_ _ | refine blk_drew ?_ | refine blk_alloc ?_ _)); exact BK312.out)) : gb316 ≠ gb312)); clear HO_3; clear BK312; clear HB; have HO_3 := n0_; have BK312 := n1_; have HB := n2_; have BK316 := n3_; have GW316 := n4_; have GE316 := n5_; have NB312_316 := n6_; have NB316_312 := n7_; clear n0_ n1_ n2_ n3_ n4_ n5_ n6_ n7_; clear hb hbox hg; have hnb23 := NB316_312.out; have hnc23 := NB312_316.out; have hcz24_0 : w22.cell? ⟨gb316, 0, none⟩ = some (.int .i64 0) := (blk_cell BK316.out 0).trans rfl; have hcz24_1 : w22.cell? ⟨gb316, 1, none⟩ = some (.string (⟨#[]⟩ : ByteArray)) := (blk_cell BK316.out 1).trans rfl; have hcz24_2 : w22.cell? ⟨gb316, 2, none⟩ = some (.int .i64 0) := (blk_cell BK316.out 2).trans rfl; have hfz24_0 := blk_frozen BK316.out 0; have hfz24_1 := blk_frozen BK316.out 1; have hfz24_2 := blk_frozen BK316.out 2))
        repeat (go_quiet (first | ((with_reducible refine gate_dst (N := 6) rfl ?_); (try (refine gate_guard (by rfl) ?_; dsimp only)); refine box_event ?hg (N := 6) ?hd (cs := #[.int .i64 0, .string (⟨#[]⟩ : ByteArray), .int .i64 0]) (t := 38) ?hr ?_; (case hd => rfl); (case hg => rfl); (case hr => first | (go_simp; done) | (go_simp; rfl)); intro gb316 hg w22 hbox hb; have n0_ := Aside0.mk (Kd.R_below (Kd.R_elderB (by (with_reducible repeat (first | apply Kd.R_alloc | apply Kd.R_drewN | apply Kd.R_drew)); exact HO_3.out) gb316 (Nat.le_of_eq hg.symm)) hb); have n1_ := Aside0.mk (blk_below (g := gb312) (o := .cells #[.int .i64 t310, .int .i64 t311] 25 (0, 0)) (by (with_reducible repeat (first | refine blk_drewN ?_ _ | refine blk_drew ?_ | refine blk_alloc ?_ _)); exact BK312.out) hb); have n2_ := Aside0.mk (below_step (by repeat (first | (with_reducible first | exact HB.out | apply below_alloc | apply pw_below_drewN | apply below_drew1 | refine below_set ?_ GE312.out) | exact HB.out)) hb); have n3_ := Aside0.mk (hbox); have n4_ := Aside0.mk ((by rw [hg]; exact (below_size (by repeat (first | (with_reducible first | exact HB.out | apply below_alloc | apply pw_below_drewN | apply below_drew1 | refine below_set ?_ GE312.out) | exact HB.out))) : w.heap.size ≤ gb316)); have n5_ := Aside0.mk ((by rw [hg]; exact (below_size (by repeat (first | (with_reducible first | exact HB.out | apply below_alloc | apply pw_below_drewN | apply below_drew1 | refine below_set ?_ GE312.out) | exact HB.out))) : w.heap.size ≤ gb316)); have n6_ := Aside0.mk ((by rw [hg]; exact Nat.ne_of_lt (blk_lt (g := gb312) (o := .cells #[.int .i64 t310, .int .i64 t311] 25 (0, 0)) (by (with_reducible repeat (first | refine blk_drewN ?_ _ | refine blk_drew ?_ | refine blk_alloc ?_ _)); exact BK312.out)) : gb312 ≠ gb316)); have n7_ := Aside0.mk ((by rw [hg]; exact Nat.ne_of_gt (blk_lt (g := gb312) (o := .cells #[.int .i64 t310, .int .i64 t311] 25 (0, 0)) (by (with_reducible repeat (first | refine blk_drewN ?_ _ | refine blk_drew ?_ | refine blk_alloc ?_ _)); exact BK312.out)) : gb316 ≠ gb312)); clear HO_3; clear BK312; clear HB; have HO_3 := n0_; have BK312 := n1_; have HB := n2_; have BK316 := n3_; have GW316 := n4_; have GE316 := n5_; have NB312_316 := n6_; have NB316_312 := n7_; clear n0_ n1_ n2_ n3_ n4_ n5_ n6_ n7_; clear hb hbox hg; have hnb23 := NB316_312.out; have hnc23 := NB312_316.out; have hcz24_0 : w22.cell? ⟨gb316, 0, none⟩ = some (.int .i64 0) := (blk_cell BK316.out 0).trans rfl; have hcz24_1 : w22.cell? ⟨gb316, 1, none⟩ = some (.string (⟨#[]⟩ : ByteArray)) := (blk_cell BK316.out 1).trans rfl; have hcz24_2 : w22.cell? ⟨gb316, 2, none⟩ = some (.int .i64 0) := (blk_cell BK316.out 2).trans rfl; have hfz24_0 := blk_frozen BK316.out 0; have hfz24_1 := blk_frozen BK316.out 1; have hfz24_2 := blk_frozen BK316.out 2)); go_upto_region 8 with (first | ((with_reducible refine gate_dst (N := 6) rfl ?_); (try (refine gate_guard (by rfl) ?_; dsimp only)); refine box_event ?hg (N := 6) ?hd (cs := #[.int .i64 0, .string (⟨#[]⟩ : ByteArray), .int .i64 0]) (t := 38) ?hr ?_; (case hd => rfl); (case hg => rfl); (case hr => first | (go_simp; done) | (go_simp; rfl)); intro gb316 hg w22 hbox hb; have n0_ := Aside0.mk (Kd.R_below (Kd.R_elderB (by (with_reducible repeat (first | apply Kd.R_alloc | apply Kd.R_drewN | apply Kd.R_drew)); exact HO_3.out) gb316 (Nat.le_of_eq hg.symm)) hb); have n1_ := Aside0.mk (blk_below (g := gb312) (o := .cells #[.int .i64 t310, .int .i64 t311] 25 (0, 0)) (by (with_reducible repeat (first | refine blk_drewN ?_ _ | refine blk_drew ?_ | refine blk_alloc ?_ _)); exact BK312.out) hb); have n2_ := Aside0.mk (below_step (by repeat (first | (with_reducible first | exact HB.out | apply below_alloc | apply pw_below_drewN | apply below_drew1 | refine below_set ?_ GE312.out) | exact HB.out)) hb); have n3_ := Aside0.mk (hbox); have n4_ := Aside0.mk ((by rw [hg]; exact (below_size (by repeat (first | (with_reducible first | exact HB.out | apply below_alloc | apply pw_below_drewN | apply below_drew1 | refine below_set ?_ GE312.out) | exact HB.out))) : w.heap.size ≤ gb316)); have n5_ := Aside0.mk ((by rw [hg]; exact (below_size (by repeat (first | (with_reducible first | exact HB.out | apply below_alloc | apply pw_below_drewN | apply below_drew1 | refine below_set ?_ GE312.out) | exact HB.out))) : w.heap.size ≤ gb316)); have n6_ := Aside0.mk ((by rw [hg]; exact Nat.ne_of_lt (blk_lt (g := gb312) (o := .cells #[.int .i64 t310, .int .i64 t311] 25 (0, 0)) (by (with_reducible repeat (first | refine blk_drewN ?_ _ | refine blk_drew ?_ | refine blk_alloc ?_ _)); exact BK312.out)) : gb312 ≠ gb316)); have n7_ := Aside0.mk ((by rw [hg]; exact Nat.ne_of_gt (blk_lt (g := gb312) (o := .cells #[.int .i64 t310, .int .i64 t311] 25 (0, 0)) (by (with_reducible repeat (first | refine blk_drewN ?_ _ | refine blk_drew ?_ | refine blk_alloc ?_ _)); exact BK312.out)) : gb316 ≠ gb312)); clear HO_3; clear BK312; clear HB; have HO_3 := n0_; have BK312 := n1_; have HB := n2_; have BK316 := n3_; have GW316 := n4_; have GE316 := n5_; have NB312_316 := n6_; have NB316_312 := n7_; clear n0_ n1_ n2_ n3_ n4_ n5_ n6_ n7_; clear hb hbox hg; have hnb23 := NB316_312.out; have hnc23 := NB312_316.out; have hcz24_0 : w22.cell? ⟨gb316, 0, none⟩ = some (.int .i64 0) := (blk_cell BK316.out 0).trans rfl; have hcz24_1 : w22.cell? ⟨gb316, 1, none⟩ = some (.string (⟨#[]⟩ : ByteArray)) := (blk_cell BK316.out 1).trans rfl; have hcz24_2 : w22.cell? ⟨gb316, 2, none⟩ = some (.int .i64 0) := (blk_cell BK316.out 2).trans rfl; have hfz24_0 := blk_frozen BK316.out 0; have hfz24_1 := blk_frozen BK316.out 1; have hfz24_2 := blk_frozen BK316.out 2)))
        (try simp only [Act.put, List.setIfInBounds_toArray, List.set_cons_zero, List.set_cons_succ])
        go_cut [69] (fun v69 wc => ∃ (kq : Nat) (x69_19 : Bool), v69 = .bool x69_19 ∧ Aside0 (variorumlaw05_LexerPlaces.j2 kq a0 t307 x5_2 x69_19 ((rd_T38 t307 x5_2).f0) ((rd_T38 t307 x5_2).f1) ((rd_T38 t307 x5_2).f2) = some r) ∧ Aside0 (kq ≤ k2) ∧ Aside0 (Kd.R k38 38 wc w.heap.size (fun k_ => k_ ≠ gb316) (.slice (some ad315) t307.length co21) t307) ∧ Aside0 (wc.heap[gb312]? = some (.cells #[.int .i64 t310, .int .i64 t311] 25 (0, 0))) ∧ Aside0 (wc.heap[gb316]? = some (.cells #[.int .i64 ((rd_T38 t307 x5_2).f0), .string ((rd_T38 t307 x5_2).f1), .int .i64 ((rd_T38 t307 x5_2).f2)] 38 (0, 0))) ∧ Aside0 (Below w.heap.size w wc))
        case first =>
         as_aux_lemma =>
         have H := HC20.out
         clear HC20
         by_cases c25 : ((rd_T38 t307 x5_2).f2) < 0
         ·rw [if_pos c25] at H
          have c25b0 : decide (((rd_T38 t307 x5_2).f2) < 0) = true := decide_eq_true c25
          clear c25
          (first | rw [c25b0] | (simp only [i64_w, i32_w]; rw [c25b0]) | skip)
          have H' := Aside0.mk H
          clear H
          have hnb26 := NB316_312.out
          have hnc26 := NB312_316.out
          have hcz27_0 : w22.cell? ⟨gb316, 0, none⟩ = some (.int .i64 0) := (blk_cell BK316.out 0).trans rfl
          have hcz27_1 : w22.cell? ⟨gb316, 1, none⟩ = some (.string (⟨#[]⟩ : ByteArray)) := (blk_cell BK316.out 1).trans rfl
          have hcz27_2 : w22.cell? ⟨gb316, 2, none⟩ = some (.int .i64 0) := (blk_cell BK316.out 2).trans rfl
          have hfz27_0 := blk_frozen BK316.out 0
          have hfz27_1 := blk_frozen BK316.out 1
          have hfz27_2 := blk_frozen BK316.out 2
          go_wp2
          repeat (go_quiet (fail); try go_wp2)
          go_meet
          case rel => exact ⟨_, (true), (by first | rfl | (simp; done) | (simp [*]; done)), H', ⟨by have := HJ2.out; have := HK2.out; first | omega | exact Nat.le_refl _⟩, ⟨by (with_reducible repeat (first | apply Kd.R_alloc | apply Kd.R_drewN | apply Kd.R_drew)); exact Kd.R_mono (Kd.R_far (p := ⟨gb316, 2, none⟩) (Kd.R_far (p := ⟨gb316, 1, none⟩) (Kd.R_far (p := ⟨gb316, 0, none⟩) (Kd.R_mono HO_3.out (fun k_ hk => (⟨hk, hk.2⟩ : _ ∧ k_ ≠ gb316))) (fun _ hk => hk.2) (.int .i64 ((rd_T38 t307 x5_2).f0))) (fun _ hk => hk.2) (.string ((rd_T38 t307 x5_2).f1))) (fun _ hk => hk.2) (.int .i64 ((rd_T38 t307 x5_2).f2))) (fun _ hk => hk.1.2)⟩, ⟨by (with_reducible repeat (first | refine blk_drewN ?_ _ | refine blk_drew ?_ | refine blk_alloc ?_ _)); refine blk_far ?_ NB312_316.out _; (with_reducible repeat (first | refine blk_drewN ?_ _ | refine blk_drew ?_ | refine blk_alloc ?_ _)); refine blk_far ?_ NB312_316.out _; (with_reducible repeat (first | refine blk_drewN ?_ _ | refine blk_drew ?_ | refine blk_alloc ?_ _)); refine blk_far ?_ NB312_316.out _; (with_reducible repeat (first | refine blk_drewN ?_ _ | refine blk_drew ?_ | refine blk_alloc ?_ _)); exact BK312.out⟩, ⟨by (with_reducible repeat (first | refine blk_drewN ?_ _ | refine blk_drew ?_ | refine blk_alloc ?_ _)); refine blk_put (cs := #[.int .i64 ((rd_T38 t307 x5_2).f0), .string ((rd_T38 t307 x5_2).f1), .int .i64 0]) ?_ 2 _ rfl; (with_reducible repeat (first | refine blk_drewN ?_ _ | refine blk_drew ?_ | refine blk_alloc ?_ _)); refine blk_put (cs := #[.int .i64 ((rd_T38 t307 x5_2).f0), .string (⟨#[]⟩ : ByteArray), .int .i64 0]) ?_ 1 _ rfl; (with_reducible repeat (first | refine blk_drewN ?_ _ | refine blk_drew ?_ | refine blk_alloc ?_ _)); refine blk_put (cs := #[.int .i64 0, .string (⟨#[]⟩ : ByteArray), .int .i64 0]) ?_ 0 _ rfl; (with_reducible repeat (first | refine blk_drewN ?_ _ | refine blk_drew ?_ | refine blk_alloc ?_ _)); exact BK316.out⟩, ⟨by repeat (first | (with_reducible first | exact HB.out | apply below_alloc | apply pw_below_drewN | apply below_drew1 | refine below_set ?_ GE312.out | refine below_set ?_ GE316.out) | exact HB.out)⟩⟩
         ·rw [if_neg c25] at H
          have c25b0 : decide (((rd_T38 t307 x5_2).f2) < 0) = false := decide_eq_false c25
          clear c25
          (first | rw [c25b0] | (simp only [i64_w, i32_w]; rw [c25b0]) | skip)
          by_cases c28 : ((rd_T38 t307 x5_2).f2) ≥ (a0.size : Int)
          ·rw [if_pos c28] at H
           have c28b0 : decide ((a0.size : Int) ≤ ((rd_T38 t307 x5_2).f2)) = true := decide_eq_true c28
           clear c28
           have H' := Aside0.mk H
           clear H
           have hnb29 := NB316_312.out
           have hnc29 := NB312_316.out
           have hcz30_0 : w22.cell? ⟨gb316, 0, none⟩ = some (.int .i64 0) := (blk_cell BK316.out 0).trans rfl
           have hcz30_1 : w22.cell? ⟨gb316, 1, none⟩ = some (.string (⟨#[]⟩ : ByteArray)) := (blk_cell BK316.out 1).trans rfl
           have hcz30_2 : w22.cell? ⟨gb316, 2, none⟩ = some (.int .i64 0) := (blk_cell BK316.out 2).trans rfl
           have hfz30_0 := blk_frozen BK316.out 0
           have hfz30_1 := blk_frozen BK316.out 1
           have hfz30_2 := blk_frozen BK316.out 2
           go_wp2
           repeat (go_quiet (fail); try go_wp2)
           go_meet
           case rel => exact ⟨_, (true), (by first | rfl | (simp; done) | (simp [*]; done)), H', ⟨by have := HJ2.out; have := HK2.out; first | omega | exact Nat.le_refl _⟩, ⟨by (with_reducible repeat (first | apply Kd.R_alloc | apply Kd.R_drewN | apply Kd.R_drew)); exact Kd.R_mono (Kd.R_far (p := ⟨gb316, 2, none⟩) (Kd.R_far (p := ⟨gb316, 1, none⟩) (Kd.R_far (p := ⟨gb316, 0, none⟩) (Kd.R_mono HO_3.out (fun k_ hk => (⟨hk, hk.2⟩ : _ ∧ k_ ≠ gb316))) (fun _ hk => hk.2) (.int .i64 ((rd_T38 t307 x5_2).f0))) (fun _ hk => hk.2) (.string ((rd_T38 t307 x5_2).f1))) (fun _ hk => hk.2) (.int .i64 ((rd_T38 t307 x5_2).f2))) (fun _ hk => hk.1.2)⟩, ⟨by (with_reducible repeat (first | refine blk_drewN ?_ _ | refine blk_drew ?_ | refine blk_alloc ?_ _)); refine blk_far ?_ NB312_316.out _; (with_reducible repeat (first | refine blk_drewN ?_ _ | refine blk_drew ?_ | refine blk_alloc ?_ _)); refine blk_far ?_ NB312_316.out _; (with_reducible repeat (first | refine blk_drewN ?_ _ | refine blk_drew ?_ | refine blk_alloc ?_ _)); refine blk_far ?_ NB312_316.out _; (with_reducible repeat (first | refine blk_drewN ?_ _ | refine blk_drew ?_ | refine blk_alloc ?_ _)); exact BK312.out⟩, ⟨by (with_reducible repeat (first | refine blk_drewN ?_ _ | refine blk_drew ?_ | refine blk_alloc ?_ _)); refine blk_put (cs := #[.int .i64 ((rd_T38 t307 x5_2).f0), .string ((rd_T38 t307 x5_2).f1), .int .i64 0]) ?_ 2 _ rfl; (with_reducible repeat (first | refine blk_drewN ?_ _ | refine blk_drew ?_ | refine blk_alloc ?_ _)); refine blk_put (cs := #[.int .i64 ((rd_T38 t307 x5_2).f0), .string (⟨#[]⟩ : ByteArray), .int .i64 0]) ?_ 1 _ rfl; (with_reducible repeat (first | refine blk_drewN ?_ _ | refine blk_drew ?_ | refine blk_alloc ?_ _)); refine blk_put (cs := #[.int .i64 0, .string (⟨#[]⟩ : ByteArray), .int .i64 0]) ?_ 0 _ rfl; (with_reducible repeat (first | refine blk_drewN ?_ _ | refine blk_drew ?_ | refine blk_alloc ?_ _)); exact BK316.out⟩, ⟨by repeat (first | (with_reducible first | exact HB.out | apply below_alloc | apply pw_below_drewN | apply below_drew1 | refine below_set ?_ GE312.out | refine below_set ?_ GE316.out) | exact HB.out)⟩⟩
          ·rw [if_neg c28] at H
           have c28b0 : decide ((a0.size : Int) ≤ ((rd_T38 t307 x5_2).f2)) = false := decide_eq_false c28
           clear c28
           by_cases c31 : x5_2 > 0
           ·rw [if_pos c31] at H
            have c31b0 : decide (0 < x5_2) = true := decide_eq_true c31
            clear c31
            obtain ⟨ji32, hji32⟩ : ∃ j_ : Int, (wrap64 (x5_2 - 1)) = j_ := ⟨_, rfl⟩
            replace H : (if 0 ≤ (ji32) then (if (ji32) < (t307.length : Int) then (variorumlaw05_LexerPlaces.j2 k2 a0 t307 x5_2 (decide (((rd_T38 t307 (ji32)).f2) ≥ ((rd_T38 t307 x5_2).f2))) ((rd_T38 t307 x5_2).f0) ((rd_T38 t307 x5_2).f1) ((rd_T38 t307 x5_2).f2)) else (none)) else (none)) = some r := by first | (rw [hji32] at H; exact H) | (simp only [hji32] at H ⊢; exact H)
            have hji32w : (IntKind.i64.wrap (x5_2 - 1)) = ji32 := (i64_w _).trans hji32
            by_cases c33 : 0 ≤ (ji32)
            ·rw [if_pos c33] at H
             have c33b0 : decide (0 ≤ (ji32)) = true := decide_eq_true c33
             clear c33
             by_cases c34 : (ji32) < (t307.length : Int)
             ·rw [if_pos c34] at H
              have c34b0 : decide ((ji32) < (t307.length : Int)) = true := decide_eq_true c34
              clear c34
              have H' := Aside0.mk H
              clear H
              have hnb35 := NB316_312.out
              have hnc35 := NB312_316.out
              have hcz36_0 : w22.cell? ⟨gb316, 0, none⟩ = some (.int .i64 0) := (blk_cell BK316.out 0).trans rfl
              have hcz36_1 : w22.cell? ⟨gb316, 1, none⟩ = some (.string (⟨#[]⟩ : ByteArray)) := (blk_cell BK316.out 1).trans rfl
              have hcz36_2 : w22.cell? ⟨gb316, 2, none⟩ = some (.int .i64 0) := (blk_cell BK316.out 2).trans rfl
              have hfz36_0 := blk_frozen BK316.out 0
              have hfz36_1 := blk_frozen BK316.out 1
              have hfz36_2 := blk_frozen BK316.out 2
              have p317 : 0 ≤ ((ji32) : Int) := of_decide_eq_true (by first | (with_reducible assumption) | assumption)
              have q317 : (ji32) < (t307.length : Int) := of_decide_eq_true (by first | (with_reducible assumption) | assumption)
              obtain ⟨ad317, e317, hx317_0, hx317_1, hx317_2⟩ := at_T38 (Kd.R_reads' HO_3.out).2.2 (ji32) p317 q317
              obtain rfl : ad315 = ad317 := (by injection e317)
              have hn317_0 : ad315.block ≠ gb316 := (by first | exact (HO_3.out.1 _ rfl).2 | exact HO_3.out.1 _ rfl)
              have hn317_1 : ad315.block ≠ gb316 := (by first | exact (HO_3.out.1 _ rfl).2 | exact HO_3.out.1 _ rfl)
              have hn317_2 : ad315.block ≠ gb316 := (by first | exact (HO_3.out.1 _ rfl).2 | exact HO_3.out.1 _ rfl)
              replace hx317_0 := (cell_far (p := ⟨gb316, 0, none⟩) (by first | (rw [add_block]; exact hn317_0) | (show (Addr.add _ _).block ≠ _; rw [add_block]; exact hn317_0) | exact hn317_0) (.int .i64 ((rd_T38 t307 x5_2).f0))).trans hx317_0
              replace hx317_1 := (cell_far (p := ⟨gb316, 0, none⟩) (by first | (rw [add_block]; exact hn317_0) | (show (Addr.add _ _).block ≠ _; rw [add_block]; exact hn317_0) | exact hn317_0) (.int .i64 ((rd_T38 t307 x5_2).f0))).trans hx317_1
              replace hx317_2 := (cell_far (p := ⟨gb316, 0, none⟩) (by first | (rw [add_block]; exact hn317_0) | (show (Addr.add _ _).block ≠ _; rw [add_block]; exact hn317_0) | exact hn317_0) (.int .i64 ((rd_T38 t307 x5_2).f0))).trans hx317_2
              replace hx317_0 := (cell_far (p := ⟨gb316, 1, none⟩) (by first | (rw [add_block]; exact hn317_1) | (show (Addr.add _ _).block ≠ _; rw [add_block]; exact hn317_1) | exact hn317_1) (.string ((rd_T38 t307 x5_2).f1))).trans hx317_0
              replace hx317_1 := (cell_far (p := ⟨gb316, 1, none⟩) (by first | (rw [add_block]; exact hn317_1) | (show (Addr.add _ _).block ≠ _; rw [add_block]; exact hn317_1) | exact hn317_1) (.string ((rd_T38 t307 x5_2).f1))).trans hx317_1
              replace hx317_2 := (cell_far (p := ⟨gb316, 1, none⟩) (by first | (rw [add_block]; exact hn317_1) | (show (Addr.add _ _).block ≠ _; rw [add_block]; exact hn317_1) | exact hn317_1) (.string ((rd_T38 t307 x5_2).f1))).trans hx317_2
              replace hx317_0 := (cell_far (p := ⟨gb316, 2, none⟩) (by first | (rw [add_block]; exact hn317_2) | (show (Addr.add _ _).block ≠ _; rw [add_block]; exact hn317_2) | exact hn317_2) (.int .i64 ((rd_T38 t307 x5_2).f2))).trans hx317_0
              replace hx317_1 := (cell_far (p := ⟨gb316, 2, none⟩) (by first | (rw [add_block]; exact hn317_2) | (show (Addr.add _ _).block ≠ _; rw [add_block]; exact hn317_2) | exact hn317_2) (.int .i64 ((rd_T38 t307 x5_2).f2))).trans hx317_1
              replace hx317_2 := (cell_far (p := ⟨gb316, 2, none⟩) (by first | (rw [add_block]; exact hn317_2) | (show (Addr.add _ _).block ≠ _; rw [add_block]; exact hn317_2) | exact hn317_2) (.int .i64 ((rd_T38 t307 x5_2).f2))).trans hx317_2
              (try have hy317_0 := fun (n_ : Nat) => (show (((((w22.drewN n_).setCell ⟨gb316, 0, none⟩ (.int .i64 ((rd_T38 t307 x5_2).f0))).setCell ⟨gb316, 1, none⟩ (.string ((rd_T38 t307 x5_2).f1))).setCell ⟨gb316, 2, none⟩ (.int .i64 ((rd_T38 t307 x5_2).f2)))).cell? _ = some _ from hx317_0))
              (try have hy317_1 := fun (n_ : Nat) => (show (((((w22.drewN n_).setCell ⟨gb316, 0, none⟩ (.int .i64 ((rd_T38 t307 x5_2).f0))).setCell ⟨gb316, 1, none⟩ (.string ((rd_T38 t307 x5_2).f1))).setCell ⟨gb316, 2, none⟩ (.int .i64 ((rd_T38 t307 x5_2).f2)))).cell? _ = some _ from hx317_1))
              (try have hy317_2 := fun (n_ : Nat) => (show (((((w22.drewN n_).setCell ⟨gb316, 0, none⟩ (.int .i64 ((rd_T38 t307 x5_2).f0))).setCell ⟨gb316, 1, none⟩ (.string ((rd_T38 t307 x5_2).f1))).setCell ⟨gb316, 2, none⟩ (.int .i64 ((rd_T38 t307 x5_2).f2)))).cell? _ = some _ from hx317_2))
              clear hn317_0
              clear hn317_1
              clear hn317_2
              replace p317 := eq_true p317
              replace q317 := eq_true q317
              go_wp2
              repeat (go_quiet (fail); try go_wp2)
              go_meet
              case rel => exact ⟨_, (decide (((rd_T38 t307 (ji32)).f2) ≥ ((rd_T38 t307 x5_2).f2))), (by first | rfl | (simp; done) | (simp only [← hji32] <;> (first | rfl | simp)) | (simp [*]; done)), H', ⟨by have := HJ2.out; have := HK2.out; first | omega | exact Nat.le_refl _⟩, ⟨by (with_reducible repeat (first | apply Kd.R_alloc | apply Kd.R_drewN | apply Kd.R_drew)); exact Kd.R_mono (Kd.R_far (p := ⟨gb316, 2, none⟩) (Kd.R_far (p := ⟨gb316, 1, none⟩) (Kd.R_far (p := ⟨gb316, 0, none⟩) (Kd.R_mono HO_3.out (fun k_ hk => (⟨hk, hk.2⟩ : _ ∧ k_ ≠ gb316))) (fun _ hk => hk.2) (.int .i64 ((rd_T38 t307 x5_2).f0))) (fun _ hk => hk.2) (.string ((rd_T38 t307 x5_2).f1))) (fun _ hk => hk.2) (.int .i64 ((rd_T38 t307 x5_2).f2))) (fun _ hk => hk.1.2)⟩, ⟨by (with_reducible repeat (first | refine blk_drewN ?_ _ | refine blk_drew ?_ | refine blk_alloc ?_ _)); refine blk_far ?_ NB312_316.out _; (with_reducible repeat (first | refine blk_drewN ?_ _ | refine blk_drew ?_ | refine blk_alloc ?_ _)); refine blk_far ?_ NB312_316.out _; (with_reducible repeat (first | refine blk_drewN ?_ _ | refine blk_drew ?_ | refine blk_alloc ?_ _)); refine blk_far ?_ NB312_316.out _; (with_reducible repeat (first | refine blk_drewN ?_ _ | refine blk_drew ?_ | refine blk_alloc ?_ _)); exact BK312.out⟩, ⟨by (with_reducible repeat (first | refine blk_drewN ?_ _ | refine blk_drew ?_ | refine blk_alloc ?_ _)); refine blk_put (cs := #[.int .i64 ((rd_T38 t307 x5_2).f0), .string ((rd_T38 t307 x5_2).f1), .int .i64 0]) ?_ 2 _ rfl; (with_reducible repeat (first | refine blk_drewN ?_ _ | refine blk_drew ?_ | refine blk_alloc ?_ _)); refine blk_put (cs := #[.int .i64 ((rd_T38 t307 x5_2).f0), .string (⟨#[]⟩ : ByteArray), .int .i64 0]) ?_ 1 _ rfl; (with_reducible repeat (first | refine blk_drewN ?_ _ | refine blk_drew ?_ | refine blk_alloc ?_ _)); refine blk_put (cs := #[.int .i64 0, .string (⟨#[]⟩ : ByteArray), .int .i64 0]) ?_ 0 _ rfl; (with_reducible repeat (first | refine blk_drewN ?_ _ | refine blk_drew ?_ | refine blk_alloc ?_ _)); exact BK316.out⟩, ⟨by repeat (first | (with_reducible first | exact HB.out | apply below_alloc | apply pw_below_drewN | apply below_drew1 | refine below_set ?_ GE312.out | refine below_set ?_ GE316.out) | exact HB.out)⟩⟩
             ·rw [if_neg c34] at H
              exact absurd H (by simp)
            ·rw [if_neg c33] at H
             exact absurd H (by simp)
           ·rw [if_neg c31] at H
            have c31b0 : decide (0 < x5_2) = false := decide_eq_false c31
            clear c31
            have H' := Aside0.mk H
            clear H
            have hnb37 := NB316_312.out
            have hnc37 := NB312_316.out
            have hcz38_0 : w22.cell? ⟨gb316, 0, none⟩ = some (.int .i64 0) := (blk_cell BK316.out 0).trans rfl
            have hcz38_1 : w22.cell? ⟨gb316, 1, none⟩ = some (.string (⟨#[]⟩ : ByteArray)) := (blk_cell BK316.out 1).trans rfl
            have hcz38_2 : w22.cell? ⟨gb316, 2, none⟩ = some (.int .i64 0) := (blk_cell BK316.out 2).trans rfl
            have hfz38_0 := blk_frozen BK316.out 0
            have hfz38_1 := blk_frozen BK316.out 1
            have hfz38_2 := blk_frozen BK316.out 2
            go_wp2
            repeat (go_quiet (fail); try go_wp2)
            go_meet
            case rel => exact ⟨_, (false), (by first | rfl | (simp; done) | (simp [*]; done)), H', ⟨by have := HJ2.out; have := HK2.out; first | omega | exact Nat.le_refl _⟩, ⟨by (with_reducible repeat (first | apply Kd.R_alloc | apply Kd.R_drewN | apply Kd.R_drew)); exact Kd.R_mono (Kd.R_far (p := ⟨gb316, 2, none⟩) (Kd.R_far (p := ⟨gb316, 1, none⟩) (Kd.R_far (p := ⟨gb316, 0, none⟩) (Kd.R_mono HO_3.out (fun k_ hk => (⟨hk, hk.2⟩ : _ ∧ k_ ≠ gb316))) (fun _ hk => hk.2) (.int .i64 ((rd_T38 t307 x5_2).f0))) (fun _ hk => hk.2) (.string ((rd_T38 t307 x5_2).f1))) (fun _ hk => hk.2) (.int .i64 ((rd_T38 t307 x5_2).f2))) (fun _ hk => hk.1.2)⟩, ⟨by (with_reducible repeat (first | refine blk_drewN ?_ _ | refine blk_drew ?_ | refine blk_alloc ?_ _)); refine blk_far ?_ NB312_316.out _; (with_reducible repeat (first | refine blk_drewN ?_ _ | refine blk_drew ?_ | refine blk_alloc ?_ _)); refine blk_far ?_ NB312_316.out _; (with_reducible repeat (first | refine blk_drewN ?_ _ | refine blk_drew ?_ | refine blk_alloc ?_ _)); refine blk_far ?_ NB312_316.out _; (with_reducible repeat (first | refine blk_drewN ?_ _ | refine blk_drew ?_ | refine blk_alloc ?_ _)); exact BK312.out⟩, ⟨by (with_reducible repeat (first | refine blk_drewN ?_ _ | refine blk_drew ?_ | refine blk_alloc ?_ _)); refine blk_put (cs := #[.int .i64 ((rd_T38 t307 x5_2).f0), .string ((rd_T38 t307 x5_2).f1), .int .i64 0]) ?_ 2 _ rfl; (with_reducible repeat (first | refine blk_drewN ?_ _ | refine blk_drew ?_ | refine blk_alloc ?_ _)); refine blk_put (cs := #[.int .i64 ((rd_T38 t307 x5_2).f0), .string (⟨#[]⟩ : ByteArray), .int .i64 0]) ?_ 1 _ rfl; (with_reducible repeat (first | refine blk_drewN ?_ _ | refine blk_drew ?_ | refine blk_alloc ?_ _)); refine blk_put (cs := #[.int .i64 0, .string (⟨#[]⟩ : ByteArray), .int .i64 0]) ?_ 0 _ rfl; (with_reducible repeat (first | refine blk_drewN ?_ _ | refine blk_drew ?_ | refine blk_alloc ?_ _)); exact BK316.out⟩, ⟨by repeat (first | (with_reducible first | exact HB.out | apply below_alloc | apply pw_below_drewN | apply below_drew1 | refine below_set ?_ GE312.out | refine below_set ?_ GE316.out) | exact HB.out)⟩⟩
        case rest =>
         as_aux_lemma =>
         clear HC20
         try clear c1
         try clear c2
         try clear p2
         try clear c3
         try clear p3
         try clear q3
         try clear hx3
         try clear p6
         try clear c7
         try clear c8
         try clear c12
         try clear c14
         try clear c15
         try clear c15b0
         try clear c18
         try clear c18b0
         try clear c19
         try clear c19b0
         try clear c23
         try clear c25
         try clear c25b0
         try clear c26
         try clear c28
         try clear c28b0
         try clear c29
         try clear c31
         try clear c31b0
         try clear p31
         try clear q31
         try clear hx31
         try clear c33
         try clear c33b0
         try clear c34
         try clear c34b0
         try clear c35
         try clear c37
         try clear hcz10_0
         try clear hcz10_1
         try clear hcz17_0
         try clear hcz17_1
         try clear hcz24_0
         try clear hcz24_1
         try clear hcz24_2
         try clear hcz27_0
         try clear hcz27_1
         try clear hcz27_2
         try clear hcz30_0
         try clear hcz30_1
         try clear hcz30_2
         try clear hcz36_0
         try clear hcz36_1
         try clear hcz36_2
         try clear hcz38_0
         try clear hcz38_1
         try clear hcz38_2
         try clear hcz6_0
         try clear hcz6_1
         try clear hfz10_0
         try clear hfz10_1
         try clear hfz17_0
         try clear hfz17_1
         try clear hfz24_0
         try clear hfz24_1
         try clear hfz24_2
         try clear hfz27_0
         try clear hfz27_1
         try clear hfz27_2
         try clear hfz30_0
         try clear hfz30_1
         try clear hfz30_2
         try clear hfz36_0
         try clear hfz36_1
         try clear hfz36_2
         try clear hfz38_0
         try clear hfz38_1
         try clear hfz38_2
         try clear hfz6_0
         try clear hfz6_1
         try clear hx315_0
         try clear hx315_1
         try clear hx315_2
         try clear hx317_0
         try clear hx317_1
         try clear hx317_2
         try clear p2
         try clear p315
         try clear p317
         try clear q315
         try clear q317
         obtain ⟨kq, x69_19, rfl, HA, HJ19, HO_3, BK312, BK316, HB⟩ := hcut
         cases kq with
         | zero => exact absurd HA.out (by simp [variorumlaw05_LexerPlaces.j2])
         | succ kj19 =>
          have H := HA.out
          clear HA
          simp only [variorumlaw05_LexerPlaces.j2] at H
          by_cases c39 : x69_19 = true
          ·subst c39
           have H1 : (none) = some r := by rw [if_pos rfl] at H; exact H
           clear H
           have H := H1
           clear H1
           exact absurd H (by simp)
          ·replace c39 := Bool.eq_false_iff.mpr c39
           subst c39
           have H1 : (if 0 ≤ ((rd_T38 t307 x5_2).f2) then (if ((rd_T38 t307 x5_2).f2) < (a0.size : Int) then (if ((rd_T38 t307 x5_2).f0) = 2 then (if (bt a0 ((rd_T38 t307 x5_2).f2)) = 123 then (if ((rd_T38 t307 x5_2).f0) = 3 then (if (bt a0 ((rd_T38 t307 x5_2).f2)) = 125 then (if ((rd_T38 t307 x5_2).f0) = 1 then (if (bt a0 ((rd_T38 t307 x5_2).f2)) = 92 then (if ((rd_T38 t307 x5_2).f0) = 0 then ((variorumref05_Blank.f (bt a0 ((rd_T38 t307 x5_2).f2))).bind fun t318 => (if t318 = true then (variorumlaw05_LexerPlaces.j3 kj19 a0 t307 x5_2 true ((rd_T38 t307 x5_2).f0) ((rd_T38 t307 x5_2).f1) ((rd_T38 t307 x5_2).f2)) else (variorumlaw05_LexerPlaces.j3 kj19 a0 t307 x5_2 true ((rd_T38 t307 x5_2).f0) ((rd_T38 t307 x5_2).f1) ((rd_T38 t307 x5_2).f2)))) else (variorumlaw05_LexerPlaces.j3 kj19 a0 t307 x5_2 false ((rd_T38 t307 x5_2).f0) ((rd_T38 t307 x5_2).f1) ((rd_T38 t307 x5_2).f2))) else (variorumlaw05_LexerPlaces.j3 kj19 a0 t307 x5_2 true ((rd_T38 t307 x5_2).f0) ((rd_T38 t307 x5_2).f1) ((rd_T38 t307 x5_2).f2))) else (if ((rd_T38 t307 x5_2).f0) = 0 then ((variorumref05_Blank.f (bt a0 ((rd_T38 t307 x5_2).f2))).bind fun t319 => (if t319 = true then (variorumlaw05_LexerPlaces.j3 kj19 a0 t307 x5_2 true ((rd_T38 t307 x5_2).f0) ((rd_T38 t307 x5_2).f1) ((rd_T38 t307 x5_2).f2)) else (variorumlaw05_LexerPlaces.j3 kj19 a0 t307 x5_2 true ((rd_T38 t307 x5_2).f0) ((rd_T38 t307 x5_2).f1) ((rd_T38 t307 x5_2).f2)))) else (variorumlaw05_LexerPlaces.j3 kj19 a0 t307 x5_2 false ((rd_T38 t307 x5_2).f0) ((rd_T38 t307 x5_2).f1) ((rd_T38 t307 x5_2).f2)))) else (variorumlaw05_LexerPlaces.j3 kj19 a0 t307 x5_2 true ((rd_T38 t307 x5_2).f0) ((rd_T38 t307 x5_2).f1) ((rd_T38 t307 x5_2).f2))) else (if ((rd_T38 t307 x5_2).f0) = 1 then (if (bt a0 ((rd_T38 t307 x5_2).f2)) = 92 then (if ((rd_T38 t307 x5_2).f0) = 0 then ((variorumref05_Blank.f (bt a0 ((rd_T38 t307 x5_2).f2))).bind fun t320 => (if t320 = true then (variorumlaw05_LexerPlaces.j3 kj19 a0 t307 x5_2 true ((rd_T38 t307 x5_2).f0) ((rd_T38 t307 x5_2).f1) ((rd_T38 t307 x5_2).f2)) else (variorumlaw05_LexerPlaces.j3 kj19 a0 t307 x5_2 true ((rd_T38 t307 x5_2).f0) ((rd_T38 t307 x5_2).f1) ((rd_T38 t307 x5_2).f2)))) else (variorumlaw05_LexerPlaces.j3 kj19 a0 t307 x5_2 false ((rd_T38 t307 x5_2).f0) ((rd_T38 t307 x5_2).f1) ((rd_T38 t307 x5_2).f2))) else (variorumlaw05_LexerPlaces.j3 kj19 a0 t307 x5_2 true ((rd_T38 t307 x5_2).f0) ((rd_T38 t307 x5_2).f1) ((rd_T38 t307 x5_2).f2))) else (if ((rd_T38 t307 x5_2).f0) = 0 then ((variorumref05_Blank.f (bt a0 ((rd_T38 t307 x5_2).f2))).bind fun t321 => (if t321 = true then (variorumlaw05_LexerPlaces.j3 kj19 a0 t307 x5_2 true ((rd_T38 t307 x5_2).f0) ((rd_T38 t307 x5_2).f1) ((rd_T38 t307 x5_2).f2)) else (variorumlaw05_LexerPlaces.j3 kj19 a0 t307 x5_2 true ((rd_T38 t307 x5_2).f0) ((rd_T38 t307 x5_2).f1) ((rd_T38 t307 x5_2).f2)))) else (variorumlaw05_LexerPlaces.j3 kj19 a0 t307 x5_2 false ((rd_T38 t307 x5_2).f0) ((rd_T38 t307 x5_2).f1) ((rd_T38 t307 x5_2).f2))))) else (variorumlaw05_LexerPlaces.j3 kj19 a0 t307 x5_2 true ((rd_T38 t307 x5_2).f0) ((rd_T38 t307 x5_2).f1) ((rd_T38 t307 x5_2).f2))) else (if ((rd_T38 t307 x5_2).f0) = 3 then (if (bt a0 ((rd_T38 t307 x5_2).f2)) = 125 then (if ((rd_T38 t307 x5_2).f0) = 1 then (if (bt a0 ((rd_T38 t307 x5_2).f2)) = 92 then (if ((rd_T38 t307 x5_2).f0) = 0 then ((variorumref05_Blank.f (bt a0 ((rd_T38 t307 x5_2).f2))).bind fun t322 => (if t322 = true then (variorumlaw05_LexerPlaces.j3 kj19 a0 t307 x5_2 true ((rd_T38 t307 x5_2).f0) ((rd_T38 t307 x5_2).f1) ((rd_T38 t307 x5_2).f2)) else (if (bt a0 ((rd_T38 t307 x5_2).f2)) = 123 then (variorumlaw05_LexerPlaces.j3 kj19 a0 t307 x5_2 true ((rd_T38 t307 x5_2).f0) ((rd_T38 t307 x5_2).f1) ((rd_T38 t307 x5_2).f2)) else (variorumlaw05_LexerPlaces.j3 kj19 a0 t307 x5_2 true ((rd_T38 t307 x5_2).f0) ((rd_T38 t307 x5_2).f1) ((rd_T38 t307 x5_2).f2))))) else (variorumlaw05_LexerPlaces.j3 kj19 a0 t307 x5_2 false ((rd_T38 t307 x5_2).f0) ((rd_T38 t307 x5_2).f1) ((rd_T38 t307 x5_2).f2))) else (variorumlaw05_LexerPlaces.j3 kj19 a0 t307 x5_2 true ((rd_T38 t307 x5_2).f0) ((rd_T38 t307 x5_2).f1) ((rd_T38 t307 x5_2).f2))) else (if ((rd_T38 t307 x5_2).f0) = 0 then ((variorumref05_Blank.f (bt a0 ((rd_T38 t307 x5_2).f2))).bind fun t323 => (if t323 = true then (variorumlaw05_LexerPlaces.j3 kj19 a0 t307 x5_2 true ((rd_T38 t307 x5_2).f0) ((rd_T38 t307 x5_2).f1) ((rd_T38 t307 x5_2).f2)) else (if (bt a0 ((rd_T38 t307 x5_2).f2)) = 123 then (variorumlaw05_LexerPlaces.j3 kj19 a0 t307 x5_2 true ((rd_T38 t307 x5_2).f0) ((rd_T38 t307 x5_2).f1) ((rd_T38 t307 x5_2).f2)) else (variorumlaw05_LexerPlaces.j3 kj19 a0 t307 x5_2 true ((rd_T38 t307 x5_2).f0) ((rd_T38 t307 x5_2).f1) ((rd_T38 t307 x5_2).f2))))) else (variorumlaw05_LexerPlaces.j3 kj19 a0 t307 x5_2 false ((rd_T38 t307 x5_2).f0) ((rd_T38 t307 x5_2).f1) ((rd_T38 t307 x5_2).f2)))) else (variorumlaw05_LexerPlaces.j3 kj19 a0 t307 x5_2 true ((rd_T38 t307 x5_2).f0) ((rd_T38 t307 x5_2).f1) ((rd_T38 t307 x5_2).f2))) else (if ((rd_T38 t307 x5_2).f0) = 1 then (if (bt a0 ((rd_T38 t307 x5_2).f2)) = 92 then (if ((rd_T38 t307 x5_2).f0) = 0 then ((variorumref05_Blank.f (bt a0 ((rd_T38 t307 x5_2).f2))).bind fun t324 => (if t324 = true then (variorumlaw05_LexerPlaces.j3 kj19 a0 t307 x5_2 true ((rd_T38 t307 x5_2).f0) ((rd_T38 t307 x5_2).f1) ((rd_T38 t307 x5_2).f2)) else (if (bt a0 ((rd_T38 t307 x5_2).f2)) = 123 then (variorumlaw05_LexerPlaces.j3 kj19 a0 t307 x5_2 true ((rd_T38 t307 x5_2).f0) ((rd_T38 t307 x5_2).f1) ((rd_T38 t307 x5_2).f2)) else (if (bt a0 ((rd_T38 t307 x5_2).f2)) = 125 then (variorumlaw05_LexerPlaces.j3 kj19 a0 t307 x5_2 true ((rd_T38 t307 x5_2).f0) ((rd_T38 t307 x5_2).f1) ((rd_T38 t307 x5_2).f2)) else (variorumlaw05_LexerPlaces.j3 kj19 a0 t307 x5_2 ((bt a0 ((rd_T38 t307 x5_2).f2)) == 37) ((rd_T38 t307 x5_2).f0) ((rd_T38 t307 x5_2).f1) ((rd_T38 t307 x5_2).f2)))))) else (variorumlaw05_LexerPlaces.j3 kj19 a0 t307 x5_2 false ((rd_T38 t307 x5_2).f0) ((rd_T38 t307 x5_2).f1) ((rd_T38 t307 x5_2).f2))) else (variorumlaw05_LexerPlaces.j3 kj19 a0 t307 x5_2 true ((rd_T38 t307 x5_2).f0) ((rd_T38 t307 x5_2).f1) ((rd_T38 t307 x5_2).f2))) else (if ((rd_T38 t307 x5_2).f0) = 0 then ((variorumref05_Blank.f (bt a0 ((rd_T38 t307 x5_2).f2))).bind fun t325 => (if t325 = true then (variorumlaw05_LexerPlaces.j3 kj19 a0 t307 x5_2 true ((rd_T38 t307 x5_2).f0) ((rd_T38 t307 x5_2).f1) ((rd_T38 t307 x5_2).f2)) else (if (bt a0 ((rd_T38 t307 x5_2).f2)) = 123 then (variorumlaw05_LexerPlaces.j3 kj19 a0 t307 x5_2 true ((rd_T38 t307 x5_2).f0) ((rd_T38 t307 x5_2).f1) ((rd_T38 t307 x5_2).f2)) else (if (bt a0 ((rd_T38 t307 x5_2).f2)) = 125 then (variorumlaw05_LexerPlaces.j3 kj19 a0 t307 x5_2 true ((rd_T38 t307 x5_2).f0) ((rd_T38 t307 x5_2).f1) ((rd_T38 t307 x5_2).f2)) else (variorumlaw05_LexerPlaces.j3 kj19 a0 t307 x5_2 ((bt a0 ((rd_T38 t307 x5_2).f2)) == 37) ((rd_T38 t307 x5_2).f0) ((rd_T38 t307 x5_2).f1) ((rd_T38 t307 x5_2).f2)))))) else (variorumlaw05_LexerPlaces.j3 kj19 a0 t307 x5_2 false ((rd_T38 t307 x5_2).f0) ((rd_T38 t307 x5_2).f1) ((rd_T38 t307 x5_2).f2)))))) else (none)) else (none)) = some r := by rw [if_neg (show ¬ (false = true) by decide)] at H; exact H
           clear H
           have H := H1
           clear H1
           by_cases c40 : 0 ≤ ((rd_T38 t307 x5_2).f2)
           ·rw [if_pos c40] at H
            have c40b0 : decide (0 ≤ ((rd_T38 t307 x5_2).f2)) = true := decide_eq_true c40
            clear c40
            by_cases c41 : ((rd_T38 t307 x5_2).f2) < (a0.size : Int)
            ·rw [if_pos c41] at H
             have c41b0 : decide (((rd_T38 t307 x5_2).f2) < (a0.size : Int)) = true := decide_eq_true c41
             clear c41
             have HC43 := Aside0.mk H
             clear H
             have hnb44 := NB316_312.out
             have hnc44 := NB312_316.out
             have hcz45_0 : wc.cell? ⟨gb316, 0, none⟩ = some (.int .i64 ((rd_T38 t307 x5_2).f0)) := (blk_cell BK316.out 0).trans rfl
             have hcz45_1 : wc.cell? ⟨gb316, 1, none⟩ = some (.string ((rd_T38 t307 x5_2).f1)) := (blk_cell BK316.out 1).trans rfl
             have hcz45_2 : wc.cell? ⟨gb316, 2, none⟩ = some (.int .i64 ((rd_T38 t307 x5_2).f2)) := (blk_cell BK316.out 2).trans rfl
             have hfz45_0 := blk_frozen BK316.out 0
             have hfz45_1 := blk_frozen BK316.out 1
             have hfz45_2 := blk_frozen BK316.out 2
             have p42 : 0 ≤ (((rd_T38 t307 x5_2).f2) : Int) := of_decide_eq_true (by first | (with_reducible assumption) | assumption)
             have q42 : ((rd_T38 t307 x5_2).f2) < (a0.size : Int) := of_decide_eq_true (by first | (with_reducible assumption) | assumption)
             have hx42 := bt_at a0 ((rd_T38 t307 x5_2).f2)
             replace p42 := eq_true p42
             replace q42 := eq_true q42
             go_upto_region 11 with (fail)
             repeat (go_quiet (fail); go_upto_region 11 with (fail))
             go_cut [119] (fun v119 wc => ∃ (kq : Nat) (x119_42 : Bool), v119 = .bool x119_42 ∧ Aside0 (variorumlaw05_LexerPlaces.j3 kq a0 t307 x5_2 x119_42 ((rd_T38 t307 x5_2).f0) ((rd_T38 t307 x5_2).f1) ((rd_T38 t307 x5_2).f2) = some r) ∧ Aside0 (kq ≤ kj19) ∧ Aside0 (Kd.R k38 38 wc w.heap.size (fun k_ => k_ ≠ gb316) (.slice (some ad315) t307.length co21) t307) ∧ Aside0 (wc.heap[gb312]? = some (.cells #[.int .i64 t310, .int .i64 t311] 25 (0, 0))) ∧ Aside0 (wc.heap[gb316]? = some (.cells #[.int .i64 ((rd_T38 t307 x5_2).f0), .string ((rd_T38 t307 x5_2).f1), .int .i64 ((rd_T38 t307 x5_2).f2)] 38 (0, 0))) ∧ Aside0 (Below w.heap.size w wc))
             case first =>
              as_aux_lemma =>
              have H := HC43.out
              clear HC43
              by_cases c46 : ((rd_T38 t307 x5_2).f0) = 2
              ·rw [if_pos c46] at H
               have c46b0 : (((rd_T38 t307 x5_2).f0) == 2) = true := beq_iff_eq.mpr c46
               have c46b1 : (((rd_T38 t307 x5_2).f0) != 2) = false := bne_eq_false_iff_eq.mpr c46
               clear c46
               (first | rw [c46b0] | (simp only [i64_w, i32_w]; rw [c46b0]) | skip)
               by_cases c47 : (bt a0 ((rd_T38 t307 x5_2).f2)) = 123
               ·rw [if_pos c47] at H
                have c47b0 : ((bt a0 ((rd_T38 t307 x5_2).f2)) == 123) = true := beq_iff_eq.mpr c47
                have c47b1 : ((bt a0 ((rd_T38 t307 x5_2).f2)) != 123) = false := bne_eq_false_iff_eq.mpr c47
                clear c47
                by_cases c48 : ((rd_T38 t307 x5_2).f0) = 3
                ·rw [if_pos c48] at H
                 have c48b0 : (((rd_T38 t307 x5_2).f0) == 3) = true := beq_iff_eq.mpr c48
                 have c48b1 : (((rd_T38 t307 x5_2).f0) != 3) = false := bne_eq_false_iff_eq.mpr c48
                 clear c48
                 by_cases c49 : (bt a0 ((rd_T38 t307 x5_2).f2)) = 125
                 ·rw [if_pos c49] at H
                  have c49b0 : ((bt a0 ((rd_T38 t307 x5_2).f2)) == 125) = true := beq_iff_eq.mpr c49
                  have c49b1 : ((bt a0 ((rd_T38 t307 x5_2).f2)) != 125) = false := bne_eq_false_iff_eq.mpr c49
                  clear c49
                  by_cases c50 : ((rd_T38 t307 x5_2).f0) = 1
                  ·rw [if_pos c50] at H
                   have c50b0 : (((rd_T38 t307 x5_2).f0) == 1) = true := beq_iff_eq.mpr c50
                   have c50b1 : (((rd_T38 t307 x5_2).f0) != 1) = false := bne_eq_false_iff_eq.mpr c50
                   clear c50
                   by_cases c51 : (bt a0 ((rd_T38 t307 x5_2).f2)) = 92
                   ·rw [if_pos c51] at H
                    have c51b0 : ((bt a0 ((rd_T38 t307 x5_2).f2)) == 92) = true := beq_iff_eq.mpr c51
                    have c51b1 : ((bt a0 ((rd_T38 t307 x5_2).f2)) != 92) = false := bne_eq_false_iff_eq.mpr c51
                    clear c51
                    by_cases c52 : ((rd_T38 t307 x5_2).f0) = 0
                    ·rw [if_pos c52] at H
                     have c52b0 : (((rd_T38 t307 x5_2).f0) == 0) = true := beq_iff_eq.mpr c52
                     have c52b1 : (((rd_T38 t307 x5_2).f0) != 0) = false := bne_eq_false_iff_eq.mpr c52
                     clear c52
                     replace H := Option.bind_eq_some_iff.mp H
                     obtain ⟨t318, A530, H⟩ := H
                     replace H : (if t318 = true then (variorumlaw05_LexerPlaces.j3 kj19 a0 t307 x5_2 true ((rd_T38 t307 x5_2).f0) ((rd_T38 t307 x5_2).f1) ((rd_T38 t307 x5_2).f2)) else (variorumlaw05_LexerPlaces.j3 kj19 a0 t307 x5_2 true ((rd_T38 t307 x5_2).f0) ((rd_T38 t307 x5_2).f1) ((rd_T38 t307 x5_2).f2))) = some r := H
                     have A53 := Aside0.mk A530
                     clear A530
                     by_cases c54 : t318 = true
                     ·subst c54
                      have H1 : (variorumlaw05_LexerPlaces.j3 kj19 a0 t307 x5_2 true ((rd_T38 t307 x5_2).f0) ((rd_T38 t307 x5_2).f1) ((rd_T38 t307 x5_2).f2)) = some r := by rw [if_pos rfl] at H; exact H
                      clear H
                      have H := H1
                      clear H1
                      have H' := Aside0.mk H
                      clear H
                      have hnb55 := NB316_312.out
                      have hnc55 := NB312_316.out
                      have hcz56_0 : wc.cell? ⟨gb316, 0, none⟩ = some (.int .i64 ((rd_T38 t307 x5_2).f0)) := (blk_cell BK316.out 0).trans rfl
                      have hcz56_1 : wc.cell? ⟨gb316, 1, none⟩ = some (.string ((rd_T38 t307 x5_2).f1)) := (blk_cell BK316.out 1).trans rfl
                      have hcz56_2 : wc.cell? ⟨gb316, 2, none⟩ = some (.int .i64 ((rd_T38 t307 x5_2).f2)) := (blk_cell BK316.out 2).trans rfl
                      have hfz56_0 := blk_frozen BK316.out 0
                      have hfz56_1 := blk_frozen BK316.out 1
                      have hfz56_2 := blk_frozen BK316.out 2
                      go_wp2_with (first | (go_at_call 22; (with_reducible refine (variorumref05_Blank.calls (bt a0 ((rd_T38 t307 x5_2).f2)) true _ A53.out).mono ?_); rintro e w' ⟨rfl, ⟨nd, rfl⟩⟩; (try first | exact ⟨rfl, _, World.drewN_drewN _ _ _⟩ | exact ⟨rfl, _, Eq.trans (World.drewN_drewN _ _ _) (congrArg (World.drewN _) (Nat.add_assoc _ _ _))⟩)))
                      repeat (go_quiet (first | (go_at_call 22; (with_reducible refine (variorumref05_Blank.calls (bt a0 ((rd_T38 t307 x5_2).f2)) true _ A53.out).mono ?_); rintro e w' ⟨rfl, ⟨nd, rfl⟩⟩; (try first | exact ⟨rfl, _, World.drewN_drewN _ _ _⟩ | exact ⟨rfl, _, Eq.trans (World.drewN_drewN _ _ _) (congrArg (World.drewN _) (Nat.add_assoc _ _ _))⟩))); try go_wp2_with (first | (go_at_call 22; (with_reducible refine (variorumref05_Blank.calls (bt a0 ((rd_T38 t307 x5_2).f2)) true _ A53.out).mono ?_); rintro e w' ⟨rfl, ⟨nd, rfl⟩⟩; (try first | exact ⟨rfl, _, World.drewN_drewN _ _ _⟩ | exact ⟨rfl, _, Eq.trans (World.drewN_drewN _ _ _) (congrArg (World.drewN _) (Nat.add_assoc _ _ _))⟩))))
                      go_meet
                      case rel => exact ⟨_, (true), (by first | rfl | (simp; done) | (simp [*]; done)), H', ⟨by have := HJ2.out; have := HK2.out; have := HJ19.out; first | omega | exact Nat.le_refl _⟩, ⟨by (with_reducible repeat (first | apply Kd.R_alloc | apply Kd.R_drewN | apply Kd.R_drew)); exact HO_3.out⟩, ⟨by (with_reducible repeat (first | refine blk_drewN ?_ _ | refine blk_drew ?_ | refine blk_alloc ?_ _)); exact BK312.out⟩, ⟨by (with_reducible repeat (first | refine blk_drewN ?_ _ | refine blk_drew ?_ | refine blk_alloc ?_ _)); exact BK316.out⟩, ⟨by repeat (first | (with_reducible first | exact HB.out | apply below_alloc | apply pw_below_drewN | apply below_drew1 | refine below_set ?_ GE312.out | refine below_set ?_ GE316.out) | exact HB.out)⟩⟩
                     ·replace c54 := Bool.eq_false_iff.mpr c54
                      subst c54
                      have H1 : (variorumlaw05_LexerPlaces.j3 kj19 a0 t307 x5_2 true ((rd_T38 t307 x5_2).f0) ((rd_T38 t307 x5_2).f1) ((rd_T38 t307 x5_2).f2)) = some r := by rw [if_neg (show ¬ (false = true) by decide)] at H; exact H
                      clear H
                      have H := H1
                      clear H1
                      have H' := Aside0.mk H
                      clear H
                      have hnb57 := NB316_312.out
                      have hnc57 := NB312_316.out
                      have hcz58_0 : wc.cell? ⟨gb316, 0, none⟩ = some (.int .i64 ((rd_T38 t307 x5_2).f0)) := (blk_cell BK316.out 0).trans rfl
                      have hcz58_1 : wc.cell? ⟨gb316, 1, none⟩ = some (.string ((rd_T38 t307 x5_2).f1)) := (blk_cell BK316.out 1).trans rfl
                      have hcz58_2 : wc.cell? ⟨gb316, 2, none⟩ = some (.int .i64 ((rd_T38 t307 x5_2).f2)) := (blk_cell BK316.out 2).trans rfl
                      have hfz58_0 := blk_frozen BK316.out 0
                      have hfz58_1 := blk_frozen BK316.out 1
                      have hfz58_2 := blk_frozen BK316.out 2
                      go_wp2_with (first | (go_at_call 22; (with_reducible refine (variorumref05_Blank.calls (bt a0 ((rd_T38 t307 x5_2).f2)) false _ A53.out).mono ?_); rintro e w' ⟨rfl, ⟨nd, rfl⟩⟩; (try first | exact ⟨rfl, _, World.drewN_drewN _ _ _⟩ | exact ⟨rfl, _, Eq.trans (World.drewN_drewN _ _ _) (congrArg (World.drewN _) (Nat.add_assoc _ _ _))⟩)))
                      repeat (go_quiet (first | (go_at_call 22; (with_reducible refine (variorumref05_Blank.calls (bt a0 ((rd_T38 t307 x5_2).f2)) false _ A53.out).mono ?_); rintro e w' ⟨rfl, ⟨nd, rfl⟩⟩; (try first | exact ⟨rfl, _, World.drewN_drewN _ _ _⟩ | exact ⟨rfl, _, Eq.trans (World.drewN_drewN _ _ _) (congrArg (World.drewN _) (Nat.add_assoc _ _ _))⟩))); try go_wp2_with (first | (go_at_call 22; (with_reducible refine (variorumref05_Blank.calls (bt a0 ((rd_T38 t307 x5_2).f2)) false _ A53.out).mono ?_); rintro e w' ⟨rfl, ⟨nd, rfl⟩⟩; (try first | exact ⟨rfl, _, World.drewN_drewN _ _ _⟩ | exact ⟨rfl, _, Eq.trans (World.drewN_drewN _ _ _) (congrArg (World.drewN _) (Nat.add_assoc _ _ _))⟩))))
                      go_meet
                      case rel => exact ⟨_, (true), (by first | rfl | (simp; done) | (simp [*]; done)), H', ⟨by have := HJ2.out; have := HK2.out; have := HJ19.out; first | omega | exact Nat.le_refl _⟩, ⟨by (with_reducible repeat (first | apply Kd.R_alloc | apply Kd.R_drewN | apply Kd.R_drew)); exact HO_3.out⟩, ⟨by (with_reducible repeat (first | refine blk_drewN ?_ _ | refine blk_drew ?_ | refine blk_alloc ?_ _)); exact BK312.out⟩, ⟨by (with_reducible repeat (first | refine blk_drewN ?_ _ | refine blk_drew ?_ | refine blk_alloc ?_ _)); exact BK316.out⟩, ⟨by repeat (first | (with_reducible first | exact HB.out | apply below_alloc | apply pw_below_drewN | apply below_drew1 | refine below_set ?_ GE312.out | refine below_set ?_ GE316.out) | exact HB.out)⟩⟩
                    ·rw [if_neg c52] at H
                     have c52b0 : (((rd_T38 t307 x5_2).f0) == 0) = false := beq_eq_false_iff_ne.mpr c52
                     have c52b1 : (((rd_T38 t307 x5_2).f0) != 0) = true := bne_iff_ne.mpr c52
                     have H' := Aside0.mk H
                     clear H
                     have hnb59 := NB316_312.out
                     have hnc59 := NB312_316.out
                     have hcz60_0 : wc.cell? ⟨gb316, 0, none⟩ = some (.int .i64 ((rd_T38 t307 x5_2).f0)) := (blk_cell BK316.out 0).trans rfl
                     have hcz60_1 : wc.cell? ⟨gb316, 1, none⟩ = some (.string ((rd_T38 t307 x5_2).f1)) := (blk_cell BK316.out 1).trans rfl
                     have hcz60_2 : wc.cell? ⟨gb316, 2, none⟩ = some (.int .i64 ((rd_T38 t307 x5_2).f2)) := (blk_cell BK316.out 2).trans rfl
                     have hfz60_0 := blk_frozen BK316.out 0
                     have hfz60_1 := blk_frozen BK316.out 1
                     have hfz60_2 := blk_frozen BK316.out 2
                     go_wp2
                     repeat (go_quiet (fail); try go_wp2)
                     go_meet
                     case rel => exact ⟨_, (false), (by first | rfl | (simp; done) | (simp [*]; done)), H', ⟨by have := HJ2.out; have := HK2.out; have := HJ19.out; first | omega | exact Nat.le_refl _⟩, ⟨by (with_reducible repeat (first | apply Kd.R_alloc | apply Kd.R_drewN | apply Kd.R_drew)); exact HO_3.out⟩, ⟨by (with_reducible repeat (first | refine blk_drewN ?_ _ | refine blk_drew ?_ | refine blk_alloc ?_ _)); exact BK312.out⟩, ⟨by (with_reducible repeat (first | refine blk_drewN ?_ _ | refine blk_drew ?_ | refine blk_alloc ?_ _)); exact BK316.out⟩, ⟨by repeat (first | (with_reducible first | exact HB.out | apply below_alloc | apply pw_below_drewN | apply below_drew1 | refine below_set ?_ GE312.out | refine below_set ?_ GE316.out) | exact HB.out)⟩⟩
                   ·rw [if_neg c51] at H
                    have c51b0 : ((bt a0 ((rd_T38 t307 x5_2).f2)) == 92) = false := beq_eq_false_iff_ne.mpr c51
                    have c51b1 : ((bt a0 ((rd_T38 t307 x5_2).f2)) != 92) = true := bne_iff_ne.mpr c51
                    have H' := Aside0.mk H
                    clear H
                    have hnb61 := NB316_312.out
                    have hnc61 := NB312_316.out
                    have hcz62_0 : wc.cell? ⟨gb316, 0, none⟩ = some (.int .i64 ((rd_T38 t307 x5_2).f0)) := (blk_cell BK316.out 0).trans rfl
                    have hcz62_1 : wc.cell? ⟨gb316, 1, none⟩ = some (.string ((rd_T38 t307 x5_2).f1)) := (blk_cell BK316.out 1).trans rfl
                    have hcz62_2 : wc.cell? ⟨gb316, 2, none⟩ = some (.int .i64 ((rd_T38 t307 x5_2).f2)) := (blk_cell BK316.out 2).trans rfl
                    have hfz62_0 := blk_frozen BK316.out 0
                    have hfz62_1 := blk_frozen BK316.out 1
                    have hfz62_2 := blk_frozen BK316.out 2
                    go_wp2
                    repeat (go_quiet (fail); try go_wp2)
                    go_meet
                    case rel => exact ⟨_, (true), (by first | rfl | (simp; done) | (simp [*]; done)), H', ⟨by have := HJ2.out; have := HK2.out; have := HJ19.out; first | omega | exact Nat.le_refl _⟩, ⟨by (with_reducible repeat (first | apply Kd.R_alloc | apply Kd.R_drewN | apply Kd.R_drew)); exact HO_3.out⟩, ⟨by (with_reducible repeat (first | refine blk_drewN ?_ _ | refine blk_drew ?_ | refine blk_alloc ?_ _)); exact BK312.out⟩, ⟨by (with_reducible repeat (first | refine blk_drewN ?_ _ | refine blk_drew ?_ | refine blk_alloc ?_ _)); exact BK316.out⟩, ⟨by repeat (first | (with_reducible first | exact HB.out | apply below_alloc | apply pw_below_drewN | apply below_drew1 | refine below_set ?_ GE312.out | refine below_set ?_ GE316.out) | exact HB.out)⟩⟩
                  ·rw [if_neg c50] at H
                   have c50b0 : (((rd_T38 t307 x5_2).f0) == 1) = false := beq_eq_false_iff_ne.mpr c50
                   have c50b1 : (((rd_T38 t307 x5_2).f0) != 1) = true := bne_iff_ne.mpr c50
                   by_cases c63 : ((rd_T38 t307 x5_2).f0) = 0
                   ·rw [if_pos c63] at H
                    have c63b0 : (((rd_T38 t307 x5_2).f0) == 0) = true := beq_iff_eq.mpr c63
                    have c63b1 : (((rd_T38 t307 x5_2).f0) != 0) = false := bne_eq_false_iff_eq.mpr c63
                    clear c63
                    replace H := Option.bind_eq_some_iff.mp H
                    obtain ⟨t319, A640, H⟩ := H
                    replace H : (if t319 = true then (variorumlaw05_LexerPlaces.j3 kj19 a0 t307 x5_2 true ((rd_T38 t307 x5_2).f0) ((rd_T38 t307 x5_2).f1) ((rd_T38 t307 x5_2).f2)) else (variorumlaw05_LexerPlaces.j3 kj19 a0 t307 x5_2 true ((rd_T38 t307 x5_2).f0) ((rd_T38 t307 x5_2).f1) ((rd_T38 t307 x5_2).f2))) = some r := H
                    have A64 := Aside0.mk A640
                    clear A640
                    by_cases c65 : t319 = true
                    ·subst c65
                     have H1 : (variorumlaw05_LexerPlaces.j3 kj19 a0 t307 x5_2 true ((rd_T38 t307 x5_2).f0) ((rd_T38 t307 x5_2).f1) ((rd_T38 t307 x5_2).f2)) = some r := by rw [if_pos rfl] at H; exact H
                     clear H
                     have H := H1
                     clear H1
                     have H' := Aside0.mk H
                     clear H
                     have hnb66 := NB316_312.out
                     have hnc66 := NB312_316.out
                     have hcz67_0 : wc.cell? ⟨gb316, 0, none⟩ = some (.int .i64 ((rd_T38 t307 x5_2).f0)) := (blk_cell BK316.out 0).trans rfl
                     have hcz67_1 : wc.cell? ⟨gb316, 1, none⟩ = some (.string ((rd_T38 t307 x5_2).f1)) := (blk_cell BK316.out 1).trans rfl
                     have hcz67_2 : wc.cell? ⟨gb316, 2, none⟩ = some (.int .i64 ((rd_T38 t307 x5_2).f2)) := (blk_cell BK316.out 2).trans rfl
                     have hfz67_0 := blk_frozen BK316.out 0
                     have hfz67_1 := blk_frozen BK316.out 1
                     have hfz67_2 := blk_frozen BK316.out 2
                     go_wp2_with (first | (go_at_call 22; (with_reducible refine (variorumref05_Blank.calls (bt a0 ((rd_T38 t307 x5_2).f2)) true _ A64.out).mono ?_); rintro e w' ⟨rfl, ⟨nd, rfl⟩⟩; (try first | exact ⟨rfl, _, World.drewN_drewN _ _ _⟩ | exact ⟨rfl, _, Eq.trans (World.drewN_drewN _ _ _) (congrArg (World.drewN _) (Nat.add_assoc _ _ _))⟩)))
                     repeat (go_quiet (first | (go_at_call 22; (with_reducible refine (variorumref05_Blank.calls (bt a0 ((rd_T38 t307 x5_2).f2)) true _ A64.out).mono ?_); rintro e w' ⟨rfl, ⟨nd, rfl⟩⟩; (try first | exact ⟨rfl, _, World.drewN_drewN _ _ _⟩ | exact ⟨rfl, _, Eq.trans (World.drewN_drewN _ _ _) (congrArg (World.drewN _) (Nat.add_assoc _ _ _))⟩))); try go_wp2_with (first | (go_at_call 22; (with_reducible refine (variorumref05_Blank.calls (bt a0 ((rd_T38 t307 x5_2).f2)) true _ A64.out).mono ?_); rintro e w' ⟨rfl, ⟨nd, rfl⟩⟩; (try first | exact ⟨rfl, _, World.drewN_drewN _ _ _⟩ | exact ⟨rfl, _, Eq.trans (World.drewN_drewN _ _ _) (congrArg (World.drewN _) (Nat.add_assoc _ _ _))⟩))))
                     go_meet
                     case rel => exact ⟨_, (true), (by first | rfl | (simp; done) | (simp [*]; done)), H', ⟨by have := HJ2.out; have := HK2.out; have := HJ19.out; first | omega | exact Nat.le_refl _⟩, ⟨by (with_reducible repeat (first | apply Kd.R_alloc | apply Kd.R_drewN | apply Kd.R_drew)); exact HO_3.out⟩, ⟨by (with_reducible repeat (first | refine blk_drewN ?_ _ | refine blk_drew ?_ | refine blk_alloc ?_ _)); exact BK312.out⟩, ⟨by (with_reducible repeat (first | refine blk_drewN ?_ _ | refine blk_drew ?_ | refine blk_alloc ?_ _)); exact BK316.out⟩, ⟨by repeat (first | (with_reducible first | exact HB.out | apply below_alloc | apply pw_below_drewN | apply below_drew1 | refine below_set ?_ GE312.out | refine below_set ?_ GE316.out) | exact HB.out)⟩⟩
                    ·replace c65 := Bool.eq_false_iff.mpr c65
                     subst c65
                     have H1 : (variorumlaw05_LexerPlaces.j3 kj19 a0 t307 x5_2 true ((rd_T38 t307 x5_2).f0) ((rd_T38 t307 x5_2).f1) ((rd_T38 t307 x5_2).f2)) = some r := by rw [if_neg (show ¬ (false = true) by decide)] at H; exact H
                     clear H
                     have H := H1
                     clear H1
                     have H' := Aside0.mk H
                     clear H
                     have hnb68 := NB316_312.out
                     have hnc68 := NB312_316.out
                     have hcz69_0 : wc.cell? ⟨gb316, 0, none⟩ = some (.int .i64 ((rd_T38 t307 x5_2).f0)) := (blk_cell BK316.out 0).trans rfl
                     have hcz69_1 : wc.cell? ⟨gb316, 1, none⟩ = some (.string ((rd_T38 t307 x5_2).f1)) := (blk_cell BK316.out 1).trans rfl
                     have hcz69_2 : wc.cell? ⟨gb316, 2, none⟩ = some (.int .i64 ((rd_T38 t307 x5_2).f2)) := (blk_cell BK316.out 2).trans rfl
                     have hfz69_0 := blk_frozen BK316.out 0
                     have hfz69_1 := blk_frozen BK316.out 1
                     have hfz69_2 := blk_frozen BK316.out 2
                     go_wp2_with (first | (go_at_call 22; (with_reducible refine (variorumref05_Blank.calls (bt a0 ((rd_T38 t307 x5_2).f2)) false _ A64.out).mono ?_); rintro e w' ⟨rfl, ⟨nd, rfl⟩⟩; (try first | exact ⟨rfl, _, World.drewN_drewN _ _ _⟩ | exact ⟨rfl, _, Eq.trans (World.drewN_drewN _ _ _) (congrArg (World.drewN _) (Nat.add_assoc _ _ _))⟩)))
                     repeat (go_quiet (first | (go_at_call 22; (with_reducible refine (variorumref05_Blank.calls (bt a0 ((rd_T38 t307 x5_2).f2)) false _ A64.out).mono ?_); rintro e w' ⟨rfl, ⟨nd, rfl⟩⟩; (try first | exact ⟨rfl, _, World.drewN_drewN _ _ _⟩ | exact ⟨rfl, _, Eq.trans (World.drewN_drewN _ _ _) (congrArg (World.drewN _) (Nat.add_assoc _ _ _))⟩))); try go_wp2_with (first | (go_at_call 22; (with_reducible refine (variorumref05_Blank.calls (bt a0 ((rd_T38 t307 x5_2).f2)) false _ A64.out).mono ?_); rintro e w' ⟨rfl, ⟨nd, rfl⟩⟩; (try first | exact ⟨rfl, _, World.drewN_drewN _ _ _⟩ | exact ⟨rfl, _, Eq.trans (World.drewN_drewN _ _ _) (congrArg (World.drewN _) (Nat.add_assoc _ _ _))⟩))))
                     go_meet
                     case rel => exact ⟨_, (true), (by first | rfl | (simp; done) | (simp [*]; done)), H', ⟨by have := HJ2.out; have := HK2.out; have := HJ19.out; first | omega | exact Nat.le_refl _⟩, ⟨by (with_reducible repeat (first | apply Kd.R_alloc | apply Kd.R_drewN | apply Kd.R_drew)); exact HO_3.out⟩, ⟨by (with_reducible repeat (first | refine blk_drewN ?_ _ | refine blk_drew ?_ | refine blk_alloc ?_ _)); exact BK312.out⟩, ⟨by (with_reducible repeat (first | refine blk_drewN ?_ _ | refine blk_drew ?_ | refine blk_alloc ?_ _)); exact BK316.out⟩, ⟨by repeat (first | (with_reducible first | exact HB.out | apply below_alloc | apply pw_below_drewN | apply below_drew1 | refine below_set ?_ GE312.out | refine below_set ?_ GE316.out) | exact HB.out)⟩⟩
                   ·rw [if_neg c63] at H
                    have c63b0 : (((rd_T38 t307 x5_2).f0) == 0) = false := beq_eq_false_iff_ne.mpr c63
                    have c63b1 : (((rd_T38 t307 x5_2).f0) != 0) = true := bne_iff_ne.mpr c63
                    have H' := Aside0.mk H
                    clear H
                    have hnb70 := NB316_312.out
                    have hnc70 := NB312_316.out
                    have hcz71_0 : wc.cell? ⟨gb316, 0, none⟩ = some (.int .i64 ((rd_T38 t307 x5_2).f0)) := (blk_cell BK316.out 0).trans rfl
                    have hcz71_1 : wc.cell? ⟨gb316, 1, none⟩ = some (.string ((rd_T38 t307 x5_2).f1)) := (blk_cell BK316.out 1).trans rfl
                    have hcz71_2 : wc.cell? ⟨gb316, 2, none⟩ = some (.int .i64 ((rd_T38 t307 x5_2).f2)) := (blk_cell BK316.out 2).trans rfl
                    have hfz71_0 := blk_frozen BK316.out 0
                    have hfz71_1 := blk_frozen BK316.out 1
                    have hfz71_2 := blk_frozen BK316.out 2
                    go_wp2
                    repeat (go_quiet (fail); try go_wp2)
                    go_meet
                    case rel => exact ⟨_, (false), (by first | rfl | (simp; done) | (simp [*]; done)), H', ⟨by have := HJ2.out; have := HK2.out; have := HJ19.out; first | omega | exact Nat.le_refl _⟩, ⟨by (with_reducible repeat (first | apply Kd.R_alloc | apply Kd.R_drewN | apply Kd.R_drew)); exact HO_3.out⟩, ⟨by (with_reducible repeat (first | refine blk_drewN ?_ _ | refine blk_drew ?_ | refine blk_alloc ?_ _)); exact BK312.out⟩, ⟨by (with_reducible repeat (first | refine blk_drewN ?_ _ | refine blk_drew ?_ | refine blk_alloc ?_ _)); exact BK316.out⟩, ⟨by repeat (first | (with_reducible first | exact HB.out | apply below_alloc | apply pw_below_drewN | apply below_drew1 | refine below_set ?_ GE312.out | refine below_set ?_ GE316.out) | exact HB.out)⟩⟩
                 ·rw [if_neg c49] at H
                  have c49b0 : ((bt a0 ((rd_T38 t307 x5_2).f2)) == 125) = false := beq_eq_false_iff_ne.mpr c49
                  have c49b1 : ((bt a0 ((rd_T38 t307 x5_2).f2)) != 125) = true := bne_iff_ne.mpr c49
                  have H' := Aside0.mk H
                  clear H
                  have hnb72 := NB316_312.out
                  have hnc72 := NB312_316.out
                  have hcz73_0 : wc.cell? ⟨gb316, 0, none⟩ = some (.int .i64 ((rd_T38 t307 x5_2).f0)) := (blk_cell BK316.out 0).trans rfl
                  have hcz73_1 : wc.cell? ⟨gb316, 1, none⟩ = some (.string ((rd_T38 t307 x5_2).f1)) := (blk_cell BK316.out 1).trans rfl
                  have hcz73_2 : wc.cell? ⟨gb316, 2, none⟩ = some (.int .i64 ((rd_T38 t307 x5_2).f2)) := (blk_cell BK316.out 2).trans rfl
                  have hfz73_0 := blk_frozen BK316.out 0
                  have hfz73_1 := blk_frozen BK316.out 1
                  have hfz73_2 := blk_frozen BK316.out 2
                  go_wp2
                  repeat (go_quiet (fail); try go_wp2)
                  go_meet
                  case rel => exact ⟨_, (true), (by first | rfl | (simp; done) | (simp [*]; done)), H', ⟨by have := HJ2.out; have := HK2.out; have := HJ19.out; first | omega | exact Nat.le_refl _⟩, ⟨by (with_reducible repeat (first | apply Kd.R_alloc | apply Kd.R_drewN | apply Kd.R_drew)); exact HO_3.out⟩, ⟨by (with_reducible repeat (first | refine blk_drewN ?_ _ | refine blk_drew ?_ | refine blk_alloc ?_ _)); exact BK312.out⟩, ⟨by (with_reducible repeat (first | refine blk_drewN ?_ _ | refine blk_drew ?_ | refine blk_alloc ?_ _)); exact BK316.out⟩, ⟨by repeat (first | (with_reducible first | exact HB.out | apply below_alloc | apply pw_below_drewN | apply below_drew1 | refine below_set ?_ GE312.out | refine below_set ?_ GE316.out) | exact HB.out)⟩⟩
                ·rw [if_neg c48] at H
                 have c48b0 : (((rd_T38 t307 x5_2).f0) == 3) = false := beq_eq_false_iff_ne.mpr c48
                 have c48b1 : (((rd_T38 t307 x5_2).f0) != 3) = true := bne_iff_ne.mpr c48
                 by_cases c74 : ((rd_T38 t307 x5_2).f0) = 1
                 ·rw [if_pos c74] at H
                  have c74b0 : (((rd_T38 t307 x5_2).f0) == 1) = true := beq_iff_eq.mpr c74
                  have c74b1 : (((rd_T38 t307 x5_2).f0) != 1) = false := bne_eq_false_iff_eq.mpr c74
                  clear c74
                  by_cases c75 : (bt a0 ((rd_T38 t307 x5_2).f2)) = 92
                  ·rw [if_pos c75] at H
                   have c75b0 : ((bt a0 ((rd_T38 t307 x5_2).f2)) == 92) = true := beq_iff_eq.mpr c75
                   have c75b1 : ((bt a0 ((rd_T38 t307 x5_2).f2)) != 92) = false := bne_eq_false_iff_eq.mpr c75
                   clear c75
                   by_cases c76 : ((rd_T38 t307 x5_2).f0) = 0
                   ·rw [if_pos c76] at H
                    have c76b0 : (((rd_T38 t307 x5_2).f0) == 0) = true := beq_iff_eq.mpr c76
                    have c76b1 : (((rd_T38 t307 x5_2).f0) != 0) = false := bne_eq_false_iff_eq.mpr c76
                    clear c76
                    replace H := Option.bind_eq_some_iff.mp H
                    obtain ⟨t320, A770, H⟩ := H
                    replace H : (if t320 = true then (variorumlaw05_LexerPlaces.j3 kj19 a0 t307 x5_2 true ((rd_T38 t307 x5_2).f0) ((rd_T38 t307 x5_2).f1) ((rd_T38 t307 x5_2).f2)) else (variorumlaw05_LexerPlaces.j3 kj19 a0 t307 x5_2 true ((rd_T38 t307 x5_2).f0) ((rd_T38 t307 x5_2).f1) ((rd_T38 t307 x5_2).f2))) = some r := H
                    have A77 := Aside0.mk A770
                    clear A770
                    by_cases c78 : t320 = true
                    ·subst c78
                     have H1 : (variorumlaw05_LexerPlaces.j3 kj19 a0 t307 x5_2 true ((rd_T38 t307 x5_2).f0) ((rd_T38 t307 x5_2).f1) ((rd_T38 t307 x5_2).f2)) = some r := by rw [if_pos rfl] at H; exact H
                     clear H
                     have H := H1
                     clear H1
                     have H' := Aside0.mk H
                     clear H
                     have hnb79 := NB316_312.out
                     have hnc79 := NB312_316.out
                     have hcz80_0 : wc.cell? ⟨gb316, 0, none⟩ = some (.int .i64 ((rd_T38 t307 x5_2).f0)) := (blk_cell BK316.out 0).trans rfl
                     have hcz80_1 : wc.cell? ⟨gb316, 1, none⟩ = some (.string ((rd_T38 t307 x5_2).f1)) := (blk_cell BK316.out 1).trans rfl
                     have hcz80_2 : wc.cell? ⟨gb316, 2, none⟩ = some (.int .i64 ((rd_T38 t307 x5_2).f2)) := (blk_cell BK316.out 2).trans rfl
                     have hfz80_0 := blk_frozen BK316.out 0
                     have hfz80_1 := blk_frozen BK316.out 1
                     have hfz80_2 := blk_frozen BK316.out 2
                     go_wp2_with (first | (go_at_call 22; (with_reducible refine (variorumref05_Blank.calls (bt a0 ((rd_T38 t307 x5_2).f2)) true _ A77.out).mono ?_); rintro e w' ⟨rfl, ⟨nd, rfl⟩⟩; (try first | exact ⟨rfl, _, World.drewN_drewN _ _ _⟩ | exact ⟨rfl, _, Eq.trans (World.drewN_drewN _ _ _) (congrArg (World.drewN _) (Nat.add_assoc _ _ _))⟩)))
                     repeat (go_quiet (first | (go_at_call 22; (with_reducible refine (variorumref05_Blank.calls (bt a0 ((rd_T38 t307 x5_2).f2)) true _ A77.out).mono ?_); rintro e w' ⟨rfl, ⟨nd, rfl⟩⟩; (try first | exact ⟨rfl, _, World.drewN_drewN _ _ _⟩ | exact ⟨rfl, _, Eq.trans (World.drewN_drewN _ _ _) (congrArg (World.drewN _) (Nat.add_assoc _ _ _))⟩))); try go_wp2_with (first | (go_at_call 22; (with_reducible refine (variorumref05_Blank.calls (bt a0 ((rd_T38 t307 x5_2).f2)) true _ A77.out).mono ?_); rintro e w' ⟨rfl, ⟨nd, rfl⟩⟩; (try first | exact ⟨rfl, _, World.drewN_drewN _ _ _⟩ | exact ⟨rfl, _, Eq.trans (World.drewN_drewN _ _ _) (congrArg (World.drewN _) (Nat.add_assoc _ _ _))⟩))))
                     go_meet
                     case rel => exact ⟨_, (true), (by first | rfl | (simp; done) | (simp [*]; done)), H', ⟨by have := HJ2.out; have := HK2.out; have := HJ19.out; first | omega | exact Nat.le_refl _⟩, ⟨by (with_reducible repeat (first | apply Kd.R_alloc | apply Kd.R_drewN | apply Kd.R_drew)); exact HO_3.out⟩, ⟨by (with_reducible repeat (first | refine blk_drewN ?_ _ | refine blk_drew ?_ | refine blk_alloc ?_ _)); exact BK312.out⟩, ⟨by (with_reducible repeat (first | refine blk_drewN ?_ _ | refine blk_drew ?_ | refine blk_alloc ?_ _)); exact BK316.out⟩, ⟨by repeat (first | (with_reducible first | exact HB.out | apply below_alloc | apply pw_below_drewN | apply below_drew1 | refine below_set ?_ GE312.out | refine below_set ?_ GE316.out) | exact HB.out)⟩⟩
                    ·replace c78 := Bool.eq_false_iff.mpr c78
                     subst c78
                     have H1 : (variorumlaw05_LexerPlaces.j3 kj19 a0 t307 x5_2 true ((rd_T38 t307 x5_2).f0) ((rd_T38 t307 x5_2).f1) ((rd_T38 t307 x5_2).f2)) = some r := by rw [if_neg (show ¬ (false = true) by decide)] at H; exact H
                     clear H
                     have H := H1
                     clear H1
                     have H' := Aside0.mk H
                     clear H
                     have hnb81 := NB316_312.out
                     have hnc81 := NB312_316.out
                     have hcz82_0 : wc.cell? ⟨gb316, 0, none⟩ = some (.int .i64 ((rd_T38 t307 x5_2).f0)) := (blk_cell BK316.out 0).trans rfl
                     have hcz82_1 : wc.cell? ⟨gb316, 1, none⟩ = some (.string ((rd_T38 t307 x5_2).f1)) := (blk_cell BK316.out 1).trans rfl
                     have hcz82_2 : wc.cell? ⟨gb316, 2, none⟩ = some (.int .i64 ((rd_T38 t307 x5_2).f2)) := (blk_cell BK316.out 2).trans rfl
                     have hfz82_0 := blk_frozen BK316.out 0
                     have hfz82_1 := blk_frozen BK316.out 1
                     have hfz82_2 := blk_frozen BK316.out 2
                     go_wp2_with (first | (go_at_call 22; (with_reducible refine (variorumref05_Blank.calls (bt a0 ((rd_T38 t307 x5_2).f2)) false _ A77.out).mono ?_); rintro e w' ⟨rfl, ⟨nd, rfl⟩⟩; (try first | exact ⟨rfl, _, World.drewN_drewN _ _ _⟩ | exact ⟨rfl, _, Eq.trans (World.drewN_drewN _ _ _) (congrArg (World.drewN _) (Nat.add_assoc _ _ _))⟩)))
                     repeat (go_quiet (first | (go_at_call 22; (with_reducible refine (variorumref05_Blank.calls (bt a0 ((rd_T38 t307 x5_2).f2)) false _ A77.out).mono ?_); rintro e w' ⟨rfl, ⟨nd, rfl⟩⟩; (try first | exact ⟨rfl, _, World.drewN_drewN _ _ _⟩ | exact ⟨rfl, _, Eq.trans (World.drewN_drewN _ _ _) (congrArg (World.drewN _) (Nat.add_assoc _ _ _))⟩))); try go_wp2_with (first | (go_at_call 22; (with_reducible refine (variorumref05_Blank.calls (bt a0 ((rd_T38 t307 x5_2).f2)) false _ A77.out).mono ?_); rintro e w' ⟨rfl, ⟨nd, rfl⟩⟩; (try first | exact ⟨rfl, _, World.drewN_drewN _ _ _⟩ | exact ⟨rfl, _, Eq.trans (World.drewN_drewN _ _ _) (congrArg (World.drewN _) (Nat.add_assoc _ _ _))⟩))))
                     go_meet
                     case rel => exact ⟨_, (true), (by first | rfl | (simp; done) | (simp [*]; done)), H', ⟨by have := HJ2.out; have := HK2.out; have := HJ19.out; first | omega | exact Nat.le_refl _⟩, ⟨by (with_reducible repeat (first | apply Kd.R_alloc | apply Kd.R_drewN | apply Kd.R_drew)); exact HO_3.out⟩, ⟨by (with_reducible repeat (first | refine blk_drewN ?_ _ | refine blk_drew ?_ | refine blk_alloc ?_ _)); exact BK312.out⟩, ⟨by (with_reducible repeat (first | refine blk_drewN ?_ _ | refine blk_drew ?_ | refine blk_alloc ?_ _)); exact BK316.out⟩, ⟨by repeat (first | (with_reducible first | exact HB.out | apply below_alloc | apply pw_below_drewN | apply below_drew1 | refine below_set ?_ GE312.out | refine below_set ?_ GE316.out) | exact HB.out)⟩⟩
                   ·rw [if_neg c76] at H
                    have c76b0 : (((rd_T38 t307 x5_2).f0) == 0) = false := beq_eq_false_iff_ne.mpr c76
                    have c76b1 : (((rd_T38 t307 x5_2).f0) != 0) = true := bne_iff_ne.mpr c76
                    have H' := Aside0.mk H
                    clear H
                    have hnb83 := NB316_312.out
                    have hnc83 := NB312_316.out
                    have hcz84_0 : wc.cell? ⟨gb316, 0, none⟩ = some (.int .i64 ((rd_T38 t307 x5_2).f0)) := (blk_cell BK316.out 0).trans rfl
                    have hcz84_1 : wc.cell? ⟨gb316, 1, none⟩ = some (.string ((rd_T38 t307 x5_2).f1)) := (blk_cell BK316.out 1).trans rfl
                    have hcz84_2 : wc.cell? ⟨gb316, 2, none⟩ = some (.int .i64 ((rd_T38 t307 x5_2).f2)) := (blk_cell BK316.out 2).trans rfl
                    have hfz84_0 := blk_frozen BK316.out 0
                    have hfz84_1 := blk_frozen BK316.out 1
                    have hfz84_2 := blk_frozen BK316.out 2
                    go_wp2
                    repeat (go_quiet (fail); try go_wp2)
                    go_meet
                    case rel => exact ⟨_, (false), (by first | rfl | (simp; done) | (simp [*]; done)), H', ⟨by have := HJ2.out; have := HK2.out; have := HJ19.out; first | omega | exact Nat.le_refl _⟩, ⟨by (with_reducible repeat (first | apply Kd.R_alloc | apply Kd.R_drewN | apply Kd.R_drew)); exact HO_3.out⟩, ⟨by (with_reducible repeat (first | refine blk_drewN ?_ _ | refine blk_drew ?_ | refine blk_alloc ?_ _)); exact BK312.out⟩, ⟨by (with_reducible repeat (first | refine blk_drewN ?_ _ | refine blk_drew ?_ | refine blk_alloc ?_ _)); exact BK316.out⟩, ⟨by repeat (first | (with_reducible first | exact HB.out | apply below_alloc | apply pw_below_drewN | apply below_drew1 | refine below_set ?_ GE312.out | refine below_set ?_ GE316.out) | exact HB.out)⟩⟩
                  ·rw [if_neg c75] at H
                   have c75b0 : ((bt a0 ((rd_T38 t307 x5_2).f2)) == 92) = false := beq_eq_false_iff_ne.mpr c75
                   have c75b1 : ((bt a0 ((rd_T38 t307 x5_2).f2)) != 92) = true := bne_iff_ne.mpr c75
                   have H' := Aside0.mk H
                   clear H
                   have hnb85 := NB316_312.out
                   have hnc85 := NB312_316.out
                   have hcz86_0 : wc.cell? ⟨gb316, 0, none⟩ = some (.int .i64 ((rd_T38 t307 x5_2).f0)) := (blk_cell BK316.out 0).trans rfl
                   have hcz86_1 : wc.cell? ⟨gb316, 1, none⟩ = some (.string ((rd_T38 t307 x5_2).f1)) := (blk_cell BK316.out 1).trans rfl
                   have hcz86_2 : wc.cell? ⟨gb316, 2, none⟩ = some (.int .i64 ((rd_T38 t307 x5_2).f2)) := (blk_cell BK316.out 2).trans rfl
                   have hfz86_0 := blk_frozen BK316.out 0
                   have hfz86_1 := blk_frozen BK316.out 1
                   have hfz86_2 := blk_frozen BK316.out 2
                   go_wp2
                   repeat (go_quiet (fail); try go_wp2)
                   go_meet
                   case rel => exact ⟨_, (true), (by first | rfl | (simp; done) | (simp [*]; done)), H', ⟨by have := HJ2.out; have := HK2.out; have := HJ19.out; first | omega | exact Nat.le_refl _⟩, ⟨by (with_reducible repeat (first | apply Kd.R_alloc | apply Kd.R_drewN | apply Kd.R_drew)); exact HO_3.out⟩, ⟨by (with_reducible repeat (first | refine blk_drewN ?_ _ | refine blk_drew ?_ | refine blk_alloc ?_ _)); exact BK312.out⟩, ⟨by (with_reducible repeat (first | refine blk_drewN ?_ _ | refine blk_drew ?_ | refine blk_alloc ?_ _)); exact BK316.out⟩, ⟨by repeat (first | (with_reducible first | exact HB.out | apply below_alloc | apply pw_below_drewN | apply below_drew1 | refine below_set ?_ GE312.out | refine below_set ?_ GE316.out) | exact HB.out)⟩⟩
                 ·rw [if_neg c74] at H
                  have c74b0 : (((rd_T38 t307 x5_2).f0) == 1) = false := beq_eq_false_iff_ne.mpr c74
                  have c74b1 : (((rd_T38 t307 x5_2).f0) != 1) = true := bne_iff_ne.mpr c74
                  by_cases c87 : ((rd_T38 t307 x5_2).f0) = 0
                  ·rw [if_pos c87] at H
                   have c87b0 : (((rd_T38 t307 x5_2).f0) == 0) = true := beq_iff_eq.mpr c87
                   have c87b1 : (((rd_T38 t307 x5_2).f0) != 0) = false := bne_eq_false_iff_eq.mpr c87
                   clear c87
                   replace H := Option.bind_eq_some_iff.mp H
                   obtain ⟨t321, A880, H⟩ := H
                   replace H : (if t321 = true then (variorumlaw05_LexerPlaces.j3 kj19 a0 t307 x5_2 true ((rd_T38 t307 x5_2).f0) ((rd_T38 t307 x5_2).f1) ((rd_T38 t307 x5_2).f2)) else (variorumlaw05_LexerPlaces.j3 kj19 a0 t307 x5_2 true ((rd_T38 t307 x5_2).f0) ((rd_T38 t307 x5_2).f1) ((rd_T38 t307 x5_2).f2))) = some r := H
                   have A88 := Aside0.mk A880
                   clear A880
                   by_cases c89 : t321 = true
                   ·subst c89
                    have H1 : (variorumlaw05_LexerPlaces.j3 kj19 a0 t307 x5_2 true ((rd_T38 t307 x5_2).f0) ((rd_T38 t307 x5_2).f1) ((rd_T38 t307 x5_2).f2)) = some r := by rw [if_pos rfl] at H; exact H
                    clear H
                    have H := H1
                    clear H1
                    have H' := Aside0.mk H
                    clear H
                    have hnb90 := NB316_312.out
                    have hnc90 := NB312_316.out
                    have hcz91_0 : wc.cell? ⟨gb316, 0, none⟩ = some (.int .i64 ((rd_T38 t307 x5_2).f0)) := (blk_cell BK316.out 0).trans rfl
                    have hcz91_1 : wc.cell? ⟨gb316, 1, none⟩ = some (.string ((rd_T38 t307 x5_2).f1)) := (blk_cell BK316.out 1).trans rfl
                    have hcz91_2 : wc.cell? ⟨gb316, 2, none⟩ = some (.int .i64 ((rd_T38 t307 x5_2).f2)) := (blk_cell BK316.out 2).trans rfl
                    have hfz91_0 := blk_frozen BK316.out 0
                    have hfz91_1 := blk_frozen BK316.out 1
                    have hfz91_2 := blk_frozen BK316.out 2
                    go_wp2_with (first | (go_at_call 22; (with_reducible refine (variorumref05_Blank.calls (bt a0 ((rd_T38 t307 x5_2).f2)) true _ A88.out).mono ?_); rintro e w' ⟨rfl, ⟨nd, rfl⟩⟩; (try first | exact ⟨rfl, _, World.drewN_drewN _ _ _⟩ | exact ⟨rfl, _, Eq.trans (World.drewN_drewN _ _ _) (congrArg (World.drewN _) (Nat.add_assoc _ _ _))⟩)))
                    repeat (go_quiet (first | (go_at_call 22; (with_reducible refine (variorumref05_Blank.calls (bt a0 ((rd_T38 t307 x5_2).f2)) true _ A88.out).mono ?_); rintro e w' ⟨rfl, ⟨nd, rfl⟩⟩; (try first | exact ⟨rfl, _, World.drewN_drewN _ _ _⟩ | exact ⟨rfl, _, Eq.trans (World.drewN_drewN _ _ _) (congrArg (World.drewN _) (Nat.add_assoc _ _ _))⟩))); try go_wp2_with (first | (go_at_call 22; (with_reducible refine (variorumref05_Blank.calls (bt a0 ((rd_T38 t307 x5_2).f2)) true _ A88.out).mono ?_); rintro e w' ⟨rfl, ⟨nd, rfl⟩⟩; (try first | exact ⟨rfl, _, World.drewN_drewN _ _ _⟩ | exact ⟨rfl, _, Eq.trans (World.drewN_drewN _ _ _) (congrArg (World.drewN _) (Nat.add_assoc _ _ _))⟩))))
                    go_meet
                    case rel => exact ⟨_, (true), (by first | rfl | (simp; done) | (simp [*]; done)), H', ⟨by have := HJ2.out; have := HK2.out; have := HJ19.out; first | omega | exact Nat.le_refl _⟩, ⟨by (with_reducible repeat (first | apply Kd.R_alloc | apply Kd.R_drewN | apply Kd.R_drew)); exact HO_3.out⟩, ⟨by (with_reducible repeat (first | refine blk_drewN ?_ _ | refine blk_drew ?_ | refine blk_alloc ?_ _)); exact BK312.out⟩, ⟨by (with_reducible repeat (first | refine blk_drewN ?_ _ | refine blk_drew ?_ | refine blk_alloc ?_ _)); exact BK316.out⟩, ⟨by repeat (first | (with_reducible first | exact HB.out | apply below_alloc | apply pw_below_drewN | apply below_drew1 | refine below_set ?_ GE312.out | refine below_set ?_ GE316.out) | exact HB.out)⟩⟩
                   ·replace c89 := Bool.eq_false_iff.mpr c89
                    subst c89
                    have H1 : (variorumlaw05_LexerPlaces.j3 kj19 a0 t307 x5_2 true ((rd_T38 t307 x5_2).f0) ((rd_T38 t307 x5_2).f1) ((rd_T38 t307 x5_2).f2)) = some r := by rw [if_neg (show ¬ (false = true) by decide)] at H; exact H
                    clear H
                    have H := H1
                    clear H1
                    have H' := Aside0.mk H
                    clear H
                    have hnb92 := NB316_312.out
                    have hnc92 := NB312_316.out
                    have hcz93_0 : wc.cell? ⟨gb316, 0, none⟩ = some (.int .i64 ((rd_T38 t307 x5_2).f0)) := (blk_cell BK316.out 0).trans rfl
                    have hcz93_1 : wc.cell? ⟨gb316, 1, none⟩ = some (.string ((rd_T38 t307 x5_2).f1)) := (blk_cell BK316.out 1).trans rfl
                    have hcz93_2 : wc.cell? ⟨gb316, 2, none⟩ = some (.int .i64 ((rd_T38 t307 x5_2).f2)) := (blk_cell BK316.out 2).trans rfl
                    have hfz93_0 := blk_frozen BK316.out 0
                    have hfz93_1 := blk_frozen BK316.out 1
                    have hfz93_2 := blk_frozen BK316.out 2
                    go_wp2_with (first | (go_at_call 22; (with_reducible refine (variorumref05_Blank.calls (bt a0 ((rd_T38 t307 x5_2).f2)) false _ A88.out).mono ?_); rintro e w' ⟨rfl, ⟨nd, rfl⟩⟩; (try first | exact ⟨rfl, _, World.drewN_drewN _ _ _⟩ | exact ⟨rfl, _, Eq.trans (World.drewN_drewN _ _ _) (congrArg (World.drewN _) (Nat.add_assoc _ _ _))⟩)))
                    repeat (go_quiet (first | (go_at_call 22; (with_reducible refine (variorumref05_Blank.calls (bt a0 ((rd_T38 t307 x5_2).f2)) false _ A88.out).mono ?_); rintro e w' ⟨rfl, ⟨nd, rfl⟩⟩; (try first | exact ⟨rfl, _, World.drewN_drewN _ _ _⟩ | exact ⟨rfl, _, Eq.trans (World.drewN_drewN _ _ _) (congrArg (World.drewN _) (Nat.add_assoc _ _ _))⟩))); try go_wp2_with (first | (go_at_call 22; (with_reducible refine (variorumref05_Blank.calls (bt a0 ((rd_T38 t307 x5_2).f2)) false _ A88.out).mono ?_); rintro e w' ⟨rfl, ⟨nd, rfl⟩⟩; (try first | exact ⟨rfl, _, World.drewN_drewN _ _ _⟩ | exact ⟨rfl, _, Eq.trans (World.drewN_drewN _ _ _) (congrArg (World.drewN _) (Nat.add_assoc _ _ _))⟩))))
                    go_meet
                    case rel => exact ⟨_, (true), (by first | rfl | (simp; done) | (simp [*]; done)), H', ⟨by have := HJ2.out; have := HK2.out; have := HJ19.out; first | omega | exact Nat.le_refl _⟩, ⟨by (with_reducible repeat (first | apply Kd.R_alloc | apply Kd.R_drewN | apply Kd.R_drew)); exact HO_3.out⟩, ⟨by (with_reducible repeat (first | refine blk_drewN ?_ _ | refine blk_drew ?_ | refine blk_alloc ?_ _)); exact BK312.out⟩, ⟨by (with_reducible repeat (first | refine blk_drewN ?_ _ | refine blk_drew ?_ | refine blk_alloc ?_ _)); exact BK316.out⟩, ⟨by repeat (first | (with_reducible first | exact HB.out | apply below_alloc | apply pw_below_drewN | apply below_drew1 | refine below_set ?_ GE312.out | refine below_set ?_ GE316.out) | exact HB.out)⟩⟩
                  ·rw [if_neg c87] at H
                   have c87b0 : (((rd_T38 t307 x5_2).f0) == 0) = false := beq_eq_false_iff_ne.mpr c87
                   have c87b1 : (((rd_T38 t307 x5_2).f0) != 0) = true := bne_iff_ne.mpr c87
                   have H' := Aside0.mk H
                   clear H
                   have hnb94 := NB316_312.out
                   have hnc94 := NB312_316.out
                   have hcz95_0 : wc.cell? ⟨gb316, 0, none⟩ = some (.int .i64 ((rd_T38 t307 x5_2).f0)) := (blk_cell BK316.out 0).trans rfl
                   have hcz95_1 : wc.cell? ⟨gb316, 1, none⟩ = some (.string ((rd_T38 t307 x5_2).f1)) := (blk_cell BK316.out 1).trans rfl
                   have hcz95_2 : wc.cell? ⟨gb316, 2, none⟩ = some (.int .i64 ((rd_T38 t307 x5_2).f2)) := (blk_cell BK316.out 2).trans rfl
                   have hfz95_0 := blk_frozen BK316.out 0
                   have hfz95_1 := blk_frozen BK316.out 1
                   have hfz95_2 := blk_frozen BK316.out 2
                   go_wp2
                   repeat (go_quiet (fail); try go_wp2)
                   go_meet
                   case rel => exact ⟨_, (false), (by first | rfl | (simp; done) | (simp [*]; done)), H', ⟨by have := HJ2.out; have := HK2.out; have := HJ19.out; first | omega | exact Nat.le_refl _⟩, ⟨by (with_reducible repeat (first | apply Kd.R_alloc | apply Kd.R_drewN | apply Kd.R_drew)); exact HO_3.out⟩, ⟨by (with_reducible repeat (first | refine blk_drewN ?_ _ | refine blk_drew ?_ | refine blk_alloc ?_ _)); exact BK312.out⟩, ⟨by (with_reducible repeat (first | refine blk_drewN ?_ _ | refine blk_drew ?_ | refine blk_alloc ?_ _)); exact BK316.out⟩, ⟨by repeat (first | (with_reducible first | exact HB.out | apply below_alloc | apply pw_below_drewN | apply below_drew1 | refine below_set ?_ GE312.out | refine below_set ?_ GE316.out) | exact HB.out)⟩⟩
               ·rw [if_neg c47] at H
                have c47b0 : ((bt a0 ((rd_T38 t307 x5_2).f2)) == 123) = false := beq_eq_false_iff_ne.mpr c47
                have c47b1 : ((bt a0 ((rd_T38 t307 x5_2).f2)) != 123) = true := bne_iff_ne.mpr c47
                have H' := Aside0.mk H
                clear H
                have hnb96 := NB316_312.out
                have hnc96 := NB312_316.out
                have hcz97_0 : wc.cell? ⟨gb316, 0, none⟩ = some (.int .i64 ((rd_T38 t307 x5_2).f0)) := (blk_cell BK316.out 0).trans rfl
                have hcz97_1 : wc.cell? ⟨gb316, 1, none⟩ = some (.string ((rd_T38 t307 x5_2).f1)) := (blk_cell BK316.out 1).trans rfl
                have hcz97_2 : wc.cell? ⟨gb316, 2, none⟩ = some (.int .i64 ((rd_T38 t307 x5_2).f2)) := (blk_cell BK316.out 2).trans rfl
                have hfz97_0 := blk_frozen BK316.out 0
                have hfz97_1 := blk_frozen BK316.out 1
                have hfz97_2 := blk_frozen BK316.out 2
                go_wp2
                repeat (go_quiet (fail); try go_wp2)
                go_meet
                case rel => exact ⟨_, (true), (by first | rfl | (simp; done) | (simp [*]; done)), H', ⟨by have := HJ2.out; have := HK2.out; have := HJ19.out; first | omega | exact Nat.le_refl _⟩, ⟨by (with_reducible repeat (first | apply Kd.R_alloc | apply Kd.R_drewN | apply Kd.R_drew)); exact HO_3.out⟩, ⟨by (with_reducible repeat (first | refine blk_drewN ?_ _ | refine blk_drew ?_ | refine blk_alloc ?_ _)); exact BK312.out⟩, ⟨by (with_reducible repeat (first | refine blk_drewN ?_ _ | refine blk_drew ?_ | refine blk_alloc ?_ _)); exact BK316.out⟩, ⟨by repeat (first | (with_reducible first | exact HB.out | apply below_alloc | apply pw_below_drewN | apply below_drew1 | refine below_set ?_ GE312.out | refine below_set ?_ GE316.out) | exact HB.out)⟩⟩
              ·rw [if_neg c46] at H
               have c46b0 : (((rd_T38 t307 x5_2).f0) == 2) = false := beq_eq_false_iff_ne.mpr c46
               have c46b1 : (((rd_T38 t307 x5_2).f0) != 2) = true := bne_iff_ne.mpr c46
               (first | rw [c46b0] | (simp only [i64_w, i32_w]; rw [c46b0]) | skip)
               by_cases c98 : ((rd_T38 t307 x5_2).f0) = 3
               ·rw [if_pos c98] at H
                have c98b0 : (((rd_T38 t307 x5_2).f0) == 3) = true := beq_iff_eq.mpr c98
                have c98b1 : (((rd_T38 t307 x5_2).f0) != 3) = false := bne_eq_false_iff_eq.mpr c98
                clear c98
                by_cases c99 : (bt a0 ((rd_T38 t307 x5_2).f2)) = 125
                ·rw [if_pos c99] at H
                 have c99b0 : ((bt a0 ((rd_T38 t307 x5_2).f2)) == 125) = true := beq_iff_eq.mpr c99
                 have c99b1 : ((bt a0 ((rd_T38 t307 x5_2).f2)) != 125) = false := bne_eq_false_iff_eq.mpr c99
                 clear c99
                 by_cases c100 : ((rd_T38 t307 x5_2).f0) = 1
                 ·rw [if_pos c100] at H
                  have c100b0 : (((rd_T38 t307 x5_2).f0) == 1) = true := beq_iff_eq.mpr c100
                  have c100b1 : (((rd_T38 t307 x5_2).f0) != 1) = false := bne_eq_false_iff_eq.mpr c100
                  clear c100
                  by_cases c101 : (bt a0 ((rd_T38 t307 x5_2).f2)) = 92
                  ·rw [if_pos c101] at H
                   have c101b0 : ((bt a0 ((rd_T38 t307 x5_2).f2)) == 92) = true := beq_iff_eq.mpr c101
                   have c101b1 : ((bt a0 ((rd_T38 t307 x5_2).f2)) != 92) = false := bne_eq_false_iff_eq.mpr c101
                   clear c101
                   by_cases c102 : ((rd_T38 t307 x5_2).f0) = 0
                   ·rw [if_pos c102] at H
                    have c102b0 : (((rd_T38 t307 x5_2).f0) == 0) = true := beq_iff_eq.mpr c102
                    have c102b1 : (((rd_T38 t307 x5_2).f0) != 0) = false := bne_eq_false_iff_eq.mpr c102
                    clear c102
                    replace H := Option.bind_eq_some_iff.mp H
                    obtain ⟨t322, A1030, H⟩ := H
                    replace H : (if t322 = true then (variorumlaw05_LexerPlaces.j3 kj19 a0 t307 x5_2 true ((rd_T38 t307 x5_2).f0) ((rd_T38 t307 x5_2).f1) ((rd_T38 t307 x5_2).f2)) else (if (bt a0 ((rd_T38 t307 x5_2).f2)) = 123 then (variorumlaw05_LexerPlaces.j3 kj19 a0 t307 x5_2 true ((rd_T38 t307 x5_2).f0) ((rd_T38 t307 x5_2).f1) ((rd_T38 t307 x5_2).f2)) else (variorumlaw05_LexerPlaces.j3 kj19 a0 t307 x5_2 true ((rd_T38 t307 x5_2).f0) ((rd_T38 t307 x5_2).f1) ((rd_T38 t307 x5_2).f2)))) = some r := H
                    have A103 := Aside0.mk A1030
                    clear A1030
                    by_cases c104 : t322 = true
                    ·subst c104
                     have H1 : (variorumlaw05_LexerPlaces.j3 kj19 a0 t307 x5_2 true ((rd_T38 t307 x5_2).f0) ((rd_T38 t307 x5_2).f1) ((rd_T38 t307 x5_2).f2)) = some r := by rw [if_pos rfl] at H; exact H
                     clear H
                     have H := H1
                     clear H1
                     have H' := Aside0.mk H
                     clear H
                     have hnb105 := NB316_312.out
                     have hnc105 := NB312_316.out
                     have hcz106_0 : wc.cell? ⟨gb316, 0, none⟩ = some (.int .i64 ((rd_T38 t307 x5_2).f0)) := (blk_cell BK316.out 0).trans rfl
                     have hcz106_1 : wc.cell? ⟨gb316, 1, none⟩ = some (.string ((rd_T38 t307 x5_2).f1)) := (blk_cell BK316.out 1).trans rfl
                     have hcz106_2 : wc.cell? ⟨gb316, 2, none⟩ = some (.int .i64 ((rd_T38 t307 x5_2).f2)) := (blk_cell BK316.out 2).trans rfl
                     have hfz106_0 := blk_frozen BK316.out 0
                     have hfz106_1 := blk_frozen BK316.out 1
                     have hfz106_2 := blk_frozen BK316.out 2
                     go_wp2_with (first | (go_at_call 22; (with_reducible refine (variorumref05_Blank.calls (bt a0 ((rd_T38 t307 x5_2).f2)) true _ A103.out).mono ?_); rintro e w' ⟨rfl, ⟨nd, rfl⟩⟩; (try first | exact ⟨rfl, _, World.drewN_drewN _ _ _⟩ | exact ⟨rfl, _, Eq.trans (World.drewN_drewN _ _ _) (congrArg (World.drewN _) (Nat.add_assoc _ _ _))⟩)))
                     repeat (go_quiet (first | (go_at_call 22; (with_reducible refine (variorumref05_Blank.calls (bt a0 ((rd_T38 t307 x5_2).f2)) true _ A103.out).mono ?_); rintro e w' ⟨rfl, ⟨nd, rfl⟩⟩; (try first | exact ⟨rfl, _, World.drewN_drewN _ _ _⟩ | exact ⟨rfl, _, Eq.trans (World.drewN_drewN _ _ _) (congrArg (World.drewN _) (Nat.add_assoc _ _ _))⟩))); try go_wp2_with (first | (go_at_call 22; (with_reducible refine (variorumref05_Blank.calls (bt a0 ((rd_T38 t307 x5_2).f2)) true _ A103.out).mono ?_); rintro e w' ⟨rfl, ⟨nd, rfl⟩⟩; (try first | exact ⟨rfl, _, World.drewN_drewN _ _ _⟩ | exact ⟨rfl, _, Eq.trans (World.drewN_drewN _ _ _) (congrArg (World.drewN _) (Nat.add_assoc _ _ _))⟩))))
                     go_meet
                     case rel => exact ⟨_, (true), (by first | rfl | (simp; done) | (simp [*]; done)), H', ⟨by have := HJ2.out; have := HK2.out; have := HJ19.out; first | omega | exact Nat.le_refl _⟩, ⟨by (with_reducible repeat (first | apply Kd.R_alloc | apply Kd.R_drewN | apply Kd.R_drew)); exact HO_3.out⟩, ⟨by (with_reducible repeat (first | refine blk_drewN ?_ _ | refine blk_drew ?_ | refine blk_alloc ?_ _)); exact BK312.out⟩, ⟨by (with_reducible repeat (first | refine blk_drewN ?_ _ | refine blk_drew ?_ | refine blk_alloc ?_ _)); exact BK316.out⟩, ⟨by repeat (first | (with_reducible first | exact HB.out | apply below_alloc | apply pw_below_drewN | apply below_drew1 | refine below_set ?_ GE312.out | refine below_set ?_ GE316.out) | exact HB.out)⟩⟩
                    ·replace c104 := Bool.eq_false_iff.mpr c104
                     subst c104
                     have H1 : (if (bt a0 ((rd_T38 t307 x5_2).f2)) = 123 then (variorumlaw05_LexerPlaces.j3 kj19 a0 t307 x5_2 true ((rd_T38 t307 x5_2).f0) ((rd_T38 t307 x5_2).f1) ((rd_T38 t307 x5_2).f2)) else (variorumlaw05_LexerPlaces.j3 kj19 a0 t307 x5_2 true ((rd_T38 t307 x5_2).f0) ((rd_T38 t307 x5_2).f1) ((rd_T38 t307 x5_2).f2))) = some r := by rw [if_neg (show ¬ (false = true) by decide)] at H; exact H
                     clear H
                     have H := H1
                     clear H1
                     by_cases c107 : (bt a0 ((rd_T38 t307 x5_2).f2)) = 123
                     ·rw [if_pos c107] at H
                      have c107b0 : ((bt a0 ((rd_T38 t307 x5_2).f2)) == 123) = true := beq_iff_eq.mpr c107
                      have c107b1 : ((bt a0 ((rd_T38 t307 x5_2).f2)) != 123) = false := bne_eq_false_iff_eq.mpr c107
                      clear c107
                      have H' := Aside0.mk H
                      clear H
                      have hnb108 := NB316_312.out
                      have hnc108 := NB312_316.out
                      have hcz109_0 : wc.cell? ⟨gb316, 0, none⟩ = some (.int .i64 ((rd_T38 t307 x5_2).f0)) := (blk_cell BK316.out 0).trans rfl
                      have hcz109_1 : wc.cell? ⟨gb316, 1, none⟩ = some (.string ((rd_T38 t307 x5_2).f1)) := (blk_cell BK316.out 1).trans rfl
                      have hcz109_2 : wc.cell? ⟨gb316, 2, none⟩ = some (.int .i64 ((rd_T38 t307 x5_2).f2)) := (blk_cell BK316.out 2).trans rfl
                      have hfz109_0 := blk_frozen BK316.out 0
                      have hfz109_1 := blk_frozen BK316.out 1
                      have hfz109_2 := blk_frozen BK316.out 2
                      go_wp2_with (first | (go_at_call 22; (with_reducible refine (variorumref05_Blank.calls (bt a0 ((rd_T38 t307 x5_2).f2)) false _ A103.out).mono ?_); rintro e w' ⟨rfl, ⟨nd, rfl⟩⟩; (try first | exact ⟨rfl, _, World.drewN_drewN _ _ _⟩ | exact ⟨rfl, _, Eq.trans (World.drewN_drewN _ _ _) (congrArg (World.drewN _) (Nat.add_assoc _ _ _))⟩)))
                      repeat (go_quiet (first | (go_at_call 22; (with_reducible refine (variorumref05_Blank.calls (bt a0 ((rd_T38 t307 x5_2).f2)) false _ A103.out).mono ?_); rintro e w' ⟨rfl, ⟨nd, rfl⟩⟩; (try first | exact ⟨rfl, _, World.drewN_drewN _ _ _⟩ | exact ⟨rfl, _, Eq.trans (World.drewN_drewN _ _ _) (congrArg (World.drewN _) (Nat.add_assoc _ _ _))⟩))); try go_wp2_with (first | (go_at_call 22; (with_reducible refine (variorumref05_Blank.calls (bt a0 ((rd_T38 t307 x5_2).f2)) false _ A103.out).mono ?_); rintro e w' ⟨rfl, ⟨nd, rfl⟩⟩; (try first | exact ⟨rfl, _, World.drewN_drewN _ _ _⟩ | exact ⟨rfl, _, Eq.trans (World.drewN_drewN _ _ _) (congrArg (World.drewN _) (Nat.add_assoc _ _ _))⟩))))
                      go_meet
                      case rel => exact ⟨_, (true), (by first | rfl | (simp; done) | (simp [*]; done)), H', ⟨by have := HJ2.out; have := HK2.out; have := HJ19.out; first | omega | exact Nat.le_refl _⟩, ⟨by (with_reducible repeat (first | apply Kd.R_alloc | apply Kd.R_drewN | apply Kd.R_drew)); exact HO_3.out⟩, ⟨by (with_reducible repeat (first | refine blk_drewN ?_ _ | refine blk_drew ?_ | refine blk_alloc ?_ _)); exact BK312.out⟩, ⟨by (with_reducible repeat (first | refine blk_drewN ?_ _ | refine blk_drew ?_ | refine blk_alloc ?_ _)); exact BK316.out⟩, ⟨by repeat (first | (with_reducible first | exact HB.out | apply below_alloc | apply pw_below_drewN | apply below_drew1 | refine below_set ?_ GE312.out | refine below_set ?_ GE316.out) | exact HB.out)⟩⟩
                     ·rw [if_neg c107] at H
                      have c107b0 : ((bt a0 ((rd_T38 t307 x5_2).f2)) == 123) = false := beq_eq_false_iff_ne.mpr c107
                      have c107b1 : ((bt a0 ((rd_T38 t307 x5_2).f2)) != 123) = true := bne_iff_ne.mpr c107
                      have H' := Aside0.mk H
                      clear H
                      have hnb110 := NB316_312.out
                      have hnc110 := NB312_316.out
                      have hcz111_0 : wc.cell? ⟨gb316, 0, none⟩ = some (.int .i64 ((rd_T38 t307 x5_2).f0)) := (blk_cell BK316.out 0).trans rfl
                      have hcz111_1 : wc.cell? ⟨gb316, 1, none⟩ = some (.string ((rd_T38 t307 x5_2).f1)) := (blk_cell BK316.out 1).trans rfl
                      have hcz111_2 : wc.cell? ⟨gb316, 2, none⟩ = some (.int .i64 ((rd_T38 t307 x5_2).f2)) := (blk_cell BK316.out 2).trans rfl
                      have hfz111_0 := blk_frozen BK316.out 0
                      have hfz111_1 := blk_frozen BK316.out 1
                      have hfz111_2 := blk_frozen BK316.out 2
                      go_wp2_with (first | (go_at_call 22; (with_reducible refine (variorumref05_Blank.calls (bt a0 ((rd_T38 t307 x5_2).f2)) false _ A103.out).mono ?_); rintro e w' ⟨rfl, ⟨nd, rfl⟩⟩; (try first | exact ⟨rfl, _, World.drewN_drewN _ _ _⟩ | exact ⟨rfl, _, Eq.trans (World.drewN_drewN _ _ _) (congrArg (World.drewN _) (Nat.add_assoc _ _ _))⟩)))
                      repeat (go_quiet (first | (go_at_call 22; (with_reducible refine (variorumref05_Blank.calls (bt a0 ((rd_T38 t307 x5_2).f2)) false _ A103.out).mono ?_); rintro e w' ⟨rfl, ⟨nd, rfl⟩⟩; (try first | exact ⟨rfl, _, World.drewN_drewN _ _ _⟩ | exact ⟨rfl, _, Eq.trans (World.drewN_drewN _ _ _) (congrArg (World.drewN _) (Nat.add_assoc _ _ _))⟩))); try go_wp2_with (first | (go_at_call 22; (with_reducible refine (variorumref05_Blank.calls (bt a0 ((rd_T38 t307 x5_2).f2)) false _ A103.out).mono ?_); rintro e w' ⟨rfl, ⟨nd, rfl⟩⟩; (try first | exact ⟨rfl, _, World.drewN_drewN _ _ _⟩ | exact ⟨rfl, _, Eq.trans (World.drewN_drewN _ _ _) (congrArg (World.drewN _) (Nat.add_assoc _ _ _))⟩))))
                      go_meet
                      case rel => exact ⟨_, (true), (by first | rfl | (simp; done) | (simp [*]; done)), H', ⟨by have := HJ2.out; have := HK2.out; have := HJ19.out; first | omega | exact Nat.le_refl _⟩, ⟨by (with_reducible repeat (first | apply Kd.R_alloc | apply Kd.R_drewN | apply Kd.R_drew)); exact HO_3.out⟩, ⟨by (with_reducible repeat (first | refine blk_drewN ?_ _ | refine blk_drew ?_ | refine blk_alloc ?_ _)); exact BK312.out⟩, ⟨by (with_reducible repeat (first | refine blk_drewN ?_ _ | refine blk_drew ?_ | refine blk_alloc ?_ _)); exact BK316.out⟩, ⟨by repeat (first | (with_reducible first | exact HB.out | apply below_alloc | apply pw_below_drewN | apply below_drew1 | refine below_set ?_ GE312.out | refine below_set ?_ GE316.out) | exact HB.out)⟩⟩
                   ·rw [if_neg c102] at H
                    have c102b0 : (((rd_T38 t307 x5_2).f0) == 0) = false := beq_eq_false_iff_ne.mpr c102
                    have c102b1 : (((rd_T38 t307 x5_2).f0) != 0) = true := bne_iff_ne.mpr c102
                    have H' := Aside0.mk H
                    clear H
                    have hnb112 := NB316_312.out
                    have hnc112 := NB312_316.out
                    have hcz113_0 : wc.cell? ⟨gb316, 0, none⟩ = some (.int .i64 ((rd_T38 t307 x5_2).f0)) := (blk_cell BK316.out 0).trans rfl
                    have hcz113_1 : wc.cell? ⟨gb316, 1, none⟩ = some (.string ((rd_T38 t307 x5_2).f1)) := (blk_cell BK316.out 1).trans rfl
                    have hcz113_2 : wc.cell? ⟨gb316, 2, none⟩ = some (.int .i64 ((rd_T38 t307 x5_2).f2)) := (blk_cell BK316.out 2).trans rfl
                    have hfz113_0 := blk_frozen BK316.out 0
                    have hfz113_1 := blk_frozen BK316.out 1
                    have hfz113_2 := blk_frozen BK316.out 2
                    go_wp2
                    repeat (go_quiet (fail); try go_wp2)
                    go_meet
                    case rel => exact ⟨_, (false), (by first | rfl | (simp; done) | (simp [*]; done)), H', ⟨by have := HJ2.out; have := HK2.out; have := HJ19.out; first | omega | exact Nat.le_refl _⟩, ⟨by (with_reducible repeat (first | apply Kd.R_alloc | apply Kd.R_drewN | apply Kd.R_drew)); exact HO_3.out⟩, ⟨by (with_reducible repeat (first | refine blk_drewN ?_ _ | refine blk_drew ?_ | refine blk_alloc ?_ _)); exact BK312.out⟩, ⟨by (with_reducible repeat (first | refine blk_drewN ?_ _ | refine blk_drew ?_ | refine blk_alloc ?_ _)); exact BK316.out⟩, ⟨by repeat (first | (with_reducible first | exact HB.out | apply below_alloc | apply pw_below_drewN | apply below_drew1 | refine below_set ?_ GE312.out | refine below_set ?_ GE316.out) | exact HB.out)⟩⟩
                  ·rw [if_neg c101] at H
                   have c101b0 : ((bt a0 ((rd_T38 t307 x5_2).f2)) == 92) = false := beq_eq_false_iff_ne.mpr c101
                   have c101b1 : ((bt a0 ((rd_T38 t307 x5_2).f2)) != 92) = true := bne_iff_ne.mpr c101
                   have H' := Aside0.mk H
                   clear H
                   have hnb114 := NB316_312.out
                   have hnc114 := NB312_316.out
                   have hcz115_0 : wc.cell? ⟨gb316, 0, none⟩ = some (.int .i64 ((rd_T38 t307 x5_2).f0)) := (blk_cell BK316.out 0).trans rfl
                   have hcz115_1 : wc.cell? ⟨gb316, 1, none⟩ = some (.string ((rd_T38 t307 x5_2).f1)) := (blk_cell BK316.out 1).trans rfl
                   have hcz115_2 : wc.cell? ⟨gb316, 2, none⟩ = some (.int .i64 ((rd_T38 t307 x5_2).f2)) := (blk_cell BK316.out 2).trans rfl
                   have hfz115_0 := blk_frozen BK316.out 0
                   have hfz115_1 := blk_frozen BK316.out 1
                   have hfz115_2 := blk_frozen BK316.out 2
                   go_wp2
                   repeat (go_quiet (fail); try go_wp2)
                   go_meet
                   case rel => exact ⟨_, (true), (by first | rfl | (simp; done) | (simp [*]; done)), H', ⟨by have := HJ2.out; have := HK2.out; have := HJ19.out; first | omega | exact Nat.le_refl _⟩, ⟨by (with_reducible repeat (first | apply Kd.R_alloc | apply Kd.R_drewN | apply Kd.R_drew)); exact HO_3.out⟩, ⟨by (with_reducible repeat (first | refine blk_drewN ?_ _ | refine blk_drew ?_ | refine blk_alloc ?_ _)); exact BK312.out⟩, ⟨by (with_reducible repeat (first | refine blk_drewN ?_ _ | refine blk_drew ?_ | refine blk_alloc ?_ _)); exact BK316.out⟩, ⟨by repeat (first | (with_reducible first | exact HB.out | apply below_alloc | apply pw_below_drewN | apply below_drew1 | refine below_set ?_ GE312.out | refine below_set ?_ GE316.out) | exact HB.out)⟩⟩
                 ·rw [if_neg c100] at H
                  have c100b0 : (((rd_T38 t307 x5_2).f0) == 1) = false := beq_eq_false_iff_ne.mpr c100
                  have c100b1 : (((rd_T38 t307 x5_2).f0) != 1) = true := bne_iff_ne.mpr c100
                  by_cases c116 : ((rd_T38 t307 x5_2).f0) = 0
                  ·rw [if_pos c116] at H
                   have c116b0 : (((rd_T38 t307 x5_2).f0) == 0) = true := beq_iff_eq.mpr c116
                   have c116b1 : (((rd_T38 t307 x5_2).f0) != 0) = false := bne_eq_false_iff_eq.mpr c116
                   clear c116
                   replace H := Option.bind_eq_some_iff.mp H
                   obtain ⟨t323, A1170, H⟩ := H
                   replace H : (if t323 = true then (variorumlaw05_LexerPlaces.j3 kj19 a0 t307 x5_2 true ((rd_T38 t307 x5_2).f0) ((rd_T38 t307 x5_2).f1) ((rd_T38 t307 x5_2).f2)) else (if (bt a0 ((rd_T38 t307 x5_2).f2)) = 123 then (variorumlaw05_LexerPlaces.j3 kj19 a0 t307 x5_2 true ((rd_T38 t307 x5_2).f0) ((rd_T38 t307 x5_2).f1) ((rd_T38 t307 x5_2).f2)) else (variorumlaw05_LexerPlaces.j3 kj19 a0 t307 x5_2 true ((rd_T38 t307 x5_2).f0) ((rd_T38 t307 x5_2).f1) ((rd_T38 t307 x5_2).f2)))) = some r := H
                   have A117 := Aside0.mk A1170
                   clear A1170
                   by_cases c118 : t323 = true
                   ·subst c118
                    have H1 : (variorumlaw05_LexerPlaces.j3 kj19 a0 t307 x5_2 true ((rd_T38 t307 x5_2).f0) ((rd_T38 t307 x5_2).f1) ((rd_T38 t307 x5_2).f2)) = some r := by rw [if_pos rfl] at H; exact H
                    clear H
                    have H := H1
                    clear H1
                    have H' := Aside0.mk H
                    clear H
                    have hnb119 := NB316_312.out
                    have hnc119 := NB312_316.out
                    have hcz120_0 : wc.cell? ⟨gb316, 0, none⟩ = some (.int .i64 ((rd_T38 t307 x5_2).f0)) := (blk_cell BK316.out 0).trans rfl
                    have hcz120_1 : wc.cell? ⟨gb316, 1, none⟩ = some (.string ((rd_T38 t307 x5_2).f1)) := (blk_cell BK316.out 1).trans rfl
                    have hcz120_2 : wc.cell? ⟨gb316, 2, none⟩ = some (.int .i64 ((rd_T38 t307 x5_2).f2)) := (blk_cell BK316.out 2).trans rfl
                    have hfz120_0 := blk_frozen BK316.out 0
                    have hfz120_1 := blk_frozen BK316.out 1
                    have hfz120_2 := blk_frozen BK316.out 2
                    go_wp2_with (first | (go_at_call 22; (with_reducible refine (variorumref05_Blank.calls (bt a0 ((rd_T38 t307 x5_2).f2)) true _ A117.out).mono ?_); rintro e w' ⟨rfl, ⟨nd, rfl⟩⟩; (try first | exact ⟨rfl, _, World.drewN_drewN _ _ _⟩ | exact ⟨rfl, _, Eq.trans (World.drewN_drewN _ _ _) (congrArg (World.drewN _) (Nat.add_assoc _ _ _))⟩)))
                    repeat (go_quiet (first | (go_at_call 22; (with_reducible refine (variorumref05_Blank.calls (bt a0 ((rd_T38 t307 x5_2).f2)) true _ A117.out).mono ?_); rintro e w' ⟨rfl, ⟨nd, rfl⟩⟩; (try first | exact ⟨rfl, _, World.drewN_drewN _ _ _⟩ | exact ⟨rfl, _, Eq.trans (World.drewN_drewN _ _ _) (congrArg (World.drewN _) (Nat.add_assoc _ _ _))⟩))); try go_wp2_with (first | (go_at_call 22; (with_reducible refine (variorumref05_Blank.calls (bt a0 ((rd_T38 t307 x5_2).f2)) true _ A117.out).mono ?_); rintro e w' ⟨rfl, ⟨nd, rfl⟩⟩; (try first | exact ⟨rfl, _, World.drewN_drewN _ _ _⟩ | exact ⟨rfl, _, Eq.trans (World.drewN_drewN _ _ _) (congrArg (World.drewN _) (Nat.add_assoc _ _ _))⟩))))
                    go_meet
                    case rel => exact ⟨_, (true), (by first | rfl | (simp; done) | (simp [*]; done)), H', ⟨by have := HJ2.out; have := HK2.out; have := HJ19.out; first | omega | exact Nat.le_refl _⟩, ⟨by (with_reducible repeat (first | apply Kd.R_alloc | apply Kd.R_drewN | apply Kd.R_drew)); exact HO_3.out⟩, ⟨by (with_reducible repeat (first | refine blk_drewN ?_ _ | refine blk_drew ?_ | refine blk_alloc ?_ _)); exact BK312.out⟩, ⟨by (with_reducible repeat (first | refine blk_drewN ?_ _ | refine blk_drew ?_ | refine blk_alloc ?_ _)); exact BK316.out⟩, ⟨by repeat (first | (with_reducible first | exact HB.out | apply below_alloc | apply pw_below_drewN | apply below_drew1 | refine below_set ?_ GE312.out | refine below_set ?_ GE316.out) | exact HB.out)⟩⟩
                   ·replace c118 := Bool.eq_false_iff.mpr c118
                    subst c118
                    have H1 : (if (bt a0 ((rd_T38 t307 x5_2).f2)) = 123 then (variorumlaw05_LexerPlaces.j3 kj19 a0 t307 x5_2 true ((rd_T38 t307 x5_2).f0) ((rd_T38 t307 x5_2).f1) ((rd_T38 t307 x5_2).f2)) else (variorumlaw05_LexerPlaces.j3 kj19 a0 t307 x5_2 true ((rd_T38 t307 x5_2).f0) ((rd_T38 t307 x5_2).f1) ((rd_T38 t307 x5_2).f2))) = some r := by rw [if_neg (show ¬ (false = true) by decide)] at H; exact H
                    clear H
                    have H := H1
                    clear H1
                    by_cases c121 : (bt a0 ((rd_T38 t307 x5_2).f2)) = 123
                    ·rw [if_pos c121] at H
                     have c121b0 : ((bt a0 ((rd_T38 t307 x5_2).f2)) == 123) = true := beq_iff_eq.mpr c121
                     have c121b1 : ((bt a0 ((rd_T38 t307 x5_2).f2)) != 123) = false := bne_eq_false_iff_eq.mpr c121
                     clear c121
                     have H' := Aside0.mk H
                     clear H
                     have hnb122 := NB316_312.out
                     have hnc122 := NB312_316.out
                     have hcz123_0 : wc.cell? ⟨gb316, 0, none⟩ = some (.int .i64 ((rd_T38 t307 x5_2).f0)) := (blk_cell BK316.out 0).trans rfl
                     have hcz123_1 : wc.cell? ⟨gb316, 1, none⟩ = some (.string ((rd_T38 t307 x5_2).f1)) := (blk_cell BK316.out 1).trans rfl
                     have hcz123_2 : wc.cell? ⟨gb316, 2, none⟩ = some (.int .i64 ((rd_T38 t307 x5_2).f2)) := (blk_cell BK316.out 2).trans rfl
                     have hfz123_0 := blk_frozen BK316.out 0
                     have hfz123_1 := blk_frozen BK316.out 1
                     have hfz123_2 := blk_frozen BK316.out 2
                     go_wp2_with (first | (go_at_call 22; (with_reducible refine (variorumref05_Blank.calls (bt a0 ((rd_T38 t307 x5_2).f2)) false _ A117.out).mono ?_); rintro e w' ⟨rfl, ⟨nd, rfl⟩⟩; (try first | exact ⟨rfl, _, World.drewN_drewN _ _ _⟩ | exact ⟨rfl, _, Eq.trans (World.drewN_drewN _ _ _) (congrArg (World.drewN _) (Nat.add_assoc _ _ _))⟩)))
                     repeat (go_quiet (first | (go_at_call 22; (with_reducible refine (variorumref05_Blank.calls (bt a0 ((rd_T38 t307 x5_2).f2)) false _ A117.out).mono ?_); rintro e w' ⟨rfl, ⟨nd, rfl⟩⟩; (try first | exact ⟨rfl, _, World.drewN_drewN _ _ _⟩ | exact ⟨rfl, _, Eq.trans (World.drewN_drewN _ _ _) (congrArg (World.drewN _) (Nat.add_assoc _ _ _))⟩))); try go_wp2_with (first | (go_at_call 22; (with_reducible refine (variorumref05_Blank.calls (bt a0 ((rd_T38 t307 x5_2).f2)) false _ A117.out).mono ?_); rintro e w' ⟨rfl, ⟨nd, rfl⟩⟩; (try first | exact ⟨rfl, _, World.drewN_drewN _ _ _⟩ | exact ⟨rfl, _, Eq.trans (World.drewN_drewN _ _ _) (congrArg (World.drewN _) (Nat.add_assoc _ _ _))⟩))))
                     go_meet
                     case rel => exact ⟨_, (true), (by first | rfl | (simp; done) | (simp [*]; done)), H', ⟨by have := HJ2.out; have := HK2.out; have := HJ19.out; first | omega | exact Nat.le_refl _⟩, ⟨by (with_reducible repeat (first | apply Kd.R_alloc | apply Kd.R_drewN | apply Kd.R_drew)); exact HO_3.out⟩, ⟨by (with_reducible repeat (first | refine blk_drewN ?_ _ | refine blk_drew ?_ | refine blk_alloc ?_ _)); exact BK312.out⟩, ⟨by (with_reducible repeat (first | refine blk_drewN ?_ _ | refine blk_drew ?_ | refine blk_alloc ?_ _)); exact BK316.out⟩, ⟨by repeat (first | (with_reducible first | exact HB.out | apply below_alloc | apply pw_below_drewN | apply below_drew1 | refine below_set ?_ GE312.out | refine below_set ?_ GE316.out) | exact HB.out)⟩⟩
                    ·rw [if_neg c121] at H
                     have c121b0 : ((bt a0 ((rd_T38 t307 x5_2).f2)) == 123) = false := beq_eq_false_iff_ne.mpr c121
                     have c121b1 : ((bt a0 ((rd_T38 t307 x5_2).f2)) != 123) = true := bne_iff_ne.mpr c121
                     have H' := Aside0.mk H
                     clear H
                     have hnb124 := NB316_312.out
                     have hnc124 := NB312_316.out
                     have hcz125_0 : wc.cell? ⟨gb316, 0, none⟩ = some (.int .i64 ((rd_T38 t307 x5_2).f0)) := (blk_cell BK316.out 0).trans rfl
                     have hcz125_1 : wc.cell? ⟨gb316, 1, none⟩ = some (.string ((rd_T38 t307 x5_2).f1)) := (blk_cell BK316.out 1).trans rfl
                     have hcz125_2 : wc.cell? ⟨gb316, 2, none⟩ = some (.int .i64 ((rd_T38 t307 x5_2).f2)) := (blk_cell BK316.out 2).trans rfl
                     have hfz125_0 := blk_frozen BK316.out 0
                     have hfz125_1 := blk_frozen BK316.out 1
                     have hfz125_2 := blk_frozen BK316.out 2
                     go_wp2_with (first | (go_at_call 22; (with_reducible refine (variorumref05_Blank.calls (bt a0 ((rd_T38 t307 x5_2).f2)) false _ A117.out).mono ?_); rintro e w' ⟨rfl, ⟨nd, rfl⟩⟩; (try first | exact ⟨rfl, _, World.drewN_drewN _ _ _⟩ | exact ⟨rfl, _, Eq.trans (World.drewN_drewN _ _ _) (congrArg (World.drewN _) (Nat.add_assoc _ _ _))⟩)))
                     repeat (go_quiet (first | (go_at_call 22; (with_reducible refine (variorumref05_Blank.calls (bt a0 ((rd_T38 t307 x5_2).f2)) false _ A117.out).mono ?_); rintro e w' ⟨rfl, ⟨nd, rfl⟩⟩; (try first | exact ⟨rfl, _, World.drewN_drewN _ _ _⟩ | exact ⟨rfl, _, Eq.trans (World.drewN_drewN _ _ _) (congrArg (World.drewN _) (Nat.add_assoc _ _ _))⟩))); try go_wp2_with (first | (go_at_call 22; (with_reducible refine (variorumref05_Blank.calls (bt a0 ((rd_T38 t307 x5_2).f2)) false _ A117.out).mono ?_); rintro e w' ⟨rfl, ⟨nd, rfl⟩⟩; (try first | exact ⟨rfl, _, World.drewN_drewN _ _ _⟩ | exact ⟨rfl, _, Eq.trans (World.drewN_drewN _ _ _) (congrArg (World.drewN _) (Nat.add_assoc _ _ _))⟩))))
                     go_meet
                     case rel => exact ⟨_, (true), (by first | rfl | (simp; done) | (simp [*]; done)), H', ⟨by have := HJ2.out; have := HK2.out; have := HJ19.out; first | omega | exact Nat.le_refl _⟩, ⟨by (with_reducible repeat (first | apply Kd.R_alloc | apply Kd.R_drewN | apply Kd.R_drew)); exact HO_3.out⟩, ⟨by (with_reducible repeat (first | refine blk_drewN ?_ _ | refine blk_drew ?_ | refine blk_alloc ?_ _)); exact BK312.out⟩, ⟨by (with_reducible repeat (first | refine blk_drewN ?_ _ | refine blk_drew ?_ | refine blk_alloc ?_ _)); exact BK316.out⟩, ⟨by repeat (first | (with_reducible first | exact HB.out | apply below_alloc | apply pw_below_drewN | apply below_drew1 | refine below_set ?_ GE312.out | refine below_set ?_ GE316.out) | exact HB.out)⟩⟩
                  ·rw [if_neg c116] at H
                   have c116b0 : (((rd_T38 t307 x5_2).f0) == 0) = false := beq_eq_false_iff_ne.mpr c116
                   have c116b1 : (((rd_T38 t307 x5_2).f0) != 0) = true := bne_iff_ne.mpr c116
                   have H' := Aside0.mk H
                   clear H
                   have hnb126 := NB316_312.out
                   have hnc126 := NB312_316.out
                   have hcz127_0 : wc.cell? ⟨gb316, 0, none⟩ = some (.int .i64 ((rd_T38 t307 x5_2).f0)) := (blk_cell BK316.out 0).trans rfl
                   have hcz127_1 : wc.cell? ⟨gb316, 1, none⟩ = some (.string ((rd_T38 t307 x5_2).f1)) := (blk_cell BK316.out 1).trans rfl
                   have hcz127_2 : wc.cell? ⟨gb316, 2, none⟩ = some (.int .i64 ((rd_T38 t307 x5_2).f2)) := (blk_cell BK316.out 2).trans rfl
                   have hfz127_0 := blk_frozen BK316.out 0
                   have hfz127_1 := blk_frozen BK316.out 1
                   have hfz127_2 := blk_frozen BK316.out 2
                   go_wp2
                   repeat (go_quiet (fail); try go_wp2)
                   go_meet
                   case rel => exact ⟨_, (false), (by first | rfl | (simp; done) | (simp [*]; done)), H', ⟨by have := HJ2.out; have := HK2.out; have := HJ19.out; first | omega | exact Nat.le_refl _⟩, ⟨by (with_reducible repeat (first | apply Kd.R_alloc | apply Kd.R_drewN | apply Kd.R_drew)); exact HO_3.out⟩, ⟨by (with_reducible repeat (first | refine blk_drewN ?_ _ | refine blk_drew ?_ | refine blk_alloc ?_ _)); exact BK312.out⟩, ⟨by (with_reducible repeat (first | refine blk_drewN ?_ _ | refine blk_drew ?_ | refine blk_alloc ?_ _)); exact BK316.out⟩, ⟨by repeat (first | (with_reducible first | exact HB.out | apply below_alloc | apply pw_below_drewN | apply below_drew1 | refine below_set ?_ GE312.out | refine below_set ?_ GE316.out) | exact HB.out)⟩⟩
                ·rw [if_neg c99] at H
                 have c99b0 : ((bt a0 ((rd_T38 t307 x5_2).f2)) == 125) = false := beq_eq_false_iff_ne.mpr c99
                 have c99b1 : ((bt a0 ((rd_T38 t307 x5_2).f2)) != 125) = true := bne_iff_ne.mpr c99
                 have H' := Aside0.mk H
                 clear H
                 have hnb128 := NB316_312.out
                 have hnc128 := NB312_316.out
                 have hcz129_0 : wc.cell? ⟨gb316, 0, none⟩ = some (.int .i64 ((rd_T38 t307 x5_2).f0)) := (blk_cell BK316.out 0).trans rfl
                 have hcz129_1 : wc.cell? ⟨gb316, 1, none⟩ = some (.string ((rd_T38 t307 x5_2).f1)) := (blk_cell BK316.out 1).trans rfl
                 have hcz129_2 : wc.cell? ⟨gb316, 2, none⟩ = some (.int .i64 ((rd_T38 t307 x5_2).f2)) := (blk_cell BK316.out 2).trans rfl
                 have hfz129_0 := blk_frozen BK316.out 0
                 have hfz129_1 := blk_frozen BK316.out 1
                 have hfz129_2 := blk_frozen BK316.out 2
                 go_wp2
                 repeat (go_quiet (fail); try go_wp2)
                 go_meet
                 case rel => exact ⟨_, (true), (by first | rfl | (simp; done) | (simp [*]; done)), H', ⟨by have := HJ2.out; have := HK2.out; have := HJ19.out; first | omega | exact Nat.le_refl _⟩, ⟨by (with_reducible repeat (first | apply Kd.R_alloc | apply Kd.R_drewN | apply Kd.R_drew)); exact HO_3.out⟩, ⟨by (with_reducible repeat (first | refine blk_drewN ?_ _ | refine blk_drew ?_ | refine blk_alloc ?_ _)); exact BK312.out⟩, ⟨by (with_reducible repeat (first | refine blk_drewN ?_ _ | refine blk_drew ?_ | refine blk_alloc ?_ _)); exact BK316.out⟩, ⟨by repeat (first | (with_reducible first | exact HB.out | apply below_alloc | apply pw_below_drewN | apply below_drew1 | refine below_set ?_ GE312.out | refine below_set ?_ GE316.out) | exact HB.out)⟩⟩
               ·rw [if_neg c98] at H
                have c98b0 : (((rd_T38 t307 x5_2).f0) == 3) = false := beq_eq_false_iff_ne.mpr c98
                have c98b1 : (((rd_T38 t307 x5_2).f0) != 3) = true := bne_iff_ne.mpr c98
                by_cases c130 : ((rd_T38 t307 x5_2).f0) = 1
                ·rw [if_pos c130] at H
                 have c130b0 : (((rd_T38 t307 x5_2).f0) == 1) = true := beq_iff_eq.mpr c130
                 have c130b1 : (((rd_T38 t307 x5_2).f0) != 1) = false := bne_eq_false_iff_eq.mpr c130
                 clear c130
                 by_cases c131 : (bt a0 ((rd_T38 t307 x5_2).f2)) = 92
                 ·rw [if_pos c131] at H
                  have c131b0 : ((bt a0 ((rd_T38 t307 x5_2).f2)) == 92) = true := beq_iff_eq.mpr c131
                  have c131b1 : ((bt a0 ((rd_T38 t307 x5_2).f2)) != 92) = false := bne_eq_false_iff_eq.mpr c131
                  clear c131
                  by_cases c132 : ((rd_T38 t307 x5_2).f0) = 0
                  ·rw [if_pos c132] at H
                   have c132b0 : (((rd_T38 t307 x5_2).f0) == 0) = true := beq_iff_eq.mpr c132
                   have c132b1 : (((rd_T38 t307 x5_2).f0) != 0) = false := bne_eq_false_iff_eq.mpr c132
                   clear c132
                   replace H := Option.bind_eq_some_iff.mp H
                   obtain ⟨t324, A1330, H⟩ := H
                   replace H : (if t324 = true then (variorumlaw05_LexerPlaces.j3 kj19 a0 t307 x5_2 true ((rd_T38 t307 x5_2).f0) ((rd_T38 t307 x5_2).f1) ((rd_T38 t307 x5_2).f2)) else (if (bt a0 ((rd_T38 t307 x5_2).f2)) = 123 then (variorumlaw05_LexerPlaces.j3 kj19 a0 t307 x5_2 true ((rd_T38 t307 x5_2).f0) ((rd_T38 t307 x5_2).f1) ((rd_T38 t307 x5_2).f2)) else (if (bt a0 ((rd_T38 t307 x5_2).f2)) = 125 then (variorumlaw05_LexerPlaces.j3 kj19 a0 t307 x5_2 true ((rd_T38 t307 x5_2).f0) ((rd_T38 t307 x5_2).f1) ((rd_T38 t307 x5_2).f2)) else (variorumlaw05_LexerPlaces.j3 kj19 a0 t307 x5_2 ((bt a0 ((rd_T38 t307 x5_2).f2)) == 37) ((rd_T38 t307 x5_2).f0) ((rd_T38 t307 x5_2).f1) ((rd_T38 t307 x5_2).f2))))) = some r := H
                   have A133 := Aside0.mk A1330
                   clear A1330
                   by_cases c134 : t324 = true
                   ·subst c134
                    have H1 : (variorumlaw05_LexerPlaces.j3 kj19 a0 t307 x5_2 true ((rd_T38 t307 x5_2).f0) ((rd_T38 t307 x5_2).f1) ((rd_T38 t307 x5_2).f2)) = some r := by rw [if_pos rfl] at H; exact H
                    clear H
                    have H := H1
                    clear H1
                    have H' := Aside0.mk H
                    clear H
                    have hnb135 := NB316_312.out
                    have hnc135 := NB312_316.out
                    have hcz136_0 : wc.cell? ⟨gb316, 0, none⟩ = some (.int .i64 ((rd_T38 t307 x5_2).f0)) := (blk_cell BK316.out 0).trans rfl
                    have hcz136_1 : wc.cell? ⟨gb316, 1, none⟩ = some (.string ((rd_T38 t307 x5_2).f1)) := (blk_cell BK316.out 1).trans rfl
                    have hcz136_2 : wc.cell? ⟨gb316, 2, none⟩ = some (.int .i64 ((rd_T38 t307 x5_2).f2)) := (blk_cell BK316.out 2).trans rfl
                    have hfz136_0 := blk_frozen BK316.out 0
                    have hfz136_1 := blk_frozen BK316.out 1
                    have hfz136_2 := blk_frozen BK316.out 2
                    go_wp2_with (first | (go_at_call 22; (with_reducible refine (variorumref05_Blank.calls (bt a0 ((rd_T38 t307 x5_2).f2)) true _ A133.out).mono ?_); rintro e w' ⟨rfl, ⟨nd, rfl⟩⟩; (try first | exact ⟨rfl, _, World.drewN_drewN _ _ _⟩ | exact ⟨rfl, _, Eq.trans (World.drewN_drewN _ _ _) (congrArg (World.drewN _) (Nat.add_assoc _ _ _))⟩)))
                    repeat (go_quiet (first | (go_at_call 22; (with_reducible refine (variorumref05_Blank.calls (bt a0 ((rd_T38 t307 x5_2).f2)) true _ A133.out).mono ?_); rintro e w' ⟨rfl, ⟨nd, rfl⟩⟩; (try first | exact ⟨rfl, _, World.drewN_drewN _ _ _⟩ | exact ⟨rfl, _, Eq.trans (World.drewN_drewN _ _ _) (congrArg (World.drewN _) (Nat.add_assoc _ _ _))⟩))); try go_wp2_with (first | (go_at_call 22; (with_reducible refine (variorumref05_Blank.calls (bt a0 ((rd_T38 t307 x5_2).f2)) true _ A133.out).mono ?_); rintro e w' ⟨rfl, ⟨nd, rfl⟩⟩; (try first | exact ⟨rfl, _, World.drewN_drewN _ _ _⟩ | exact ⟨rfl, _, Eq.trans (World.drewN_drewN _ _ _) (congrArg (World.drewN _) (Nat.add_assoc _ _ _))⟩))))
                    go_meet
                    case rel => exact ⟨_, (true), (by first | rfl | (simp; done) | (simp [*]; done)), H', ⟨by have := HJ2.out; have := HK2.out; have := HJ19.out; first | omega | exact Nat.le_refl _⟩, ⟨by (with_reducible repeat (first | apply Kd.R_alloc | apply Kd.R_drewN | apply Kd.R_drew)); exact HO_3.out⟩, ⟨by (with_reducible repeat (first | refine blk_drewN ?_ _ | refine blk_drew ?_ | refine blk_alloc ?_ _)); exact BK312.out⟩, ⟨by (with_reducible repeat (first | refine blk_drewN ?_ _ | refine blk_drew ?_ | refine blk_alloc ?_ _)); exact BK316.out⟩, ⟨by repeat (first | (with_reducible first | exact HB.out | apply below_alloc | apply pw_below_drewN | apply below_drew1 | refine below_set ?_ GE312.out | refine below_set ?_ GE316.out) | exact HB.out)⟩⟩
                   ·replace c134 := Bool.eq_false_iff.mpr c134
                    subst c134
                    have H1 : (if (bt a0 ((rd_T38 t307 x5_2).f2)) = 123 then (variorumlaw05_LexerPlaces.j3 kj19 a0 t307 x5_2 true ((rd_T38 t307 x5_2).f0) ((rd_T38 t307 x5_2).f1) ((rd_T38 t307 x5_2).f2)) else (if (bt a0 ((rd_T38 t307 x5_2).f2)) = 125 then (variorumlaw05_LexerPlaces.j3 kj19 a0 t307 x5_2 true ((rd_T38 t307 x5_2).f0) ((rd_T38 t307 x5_2).f1) ((rd_T38 t307 x5_2).f2)) else (variorumlaw05_LexerPlaces.j3 kj19 a0 t307 x5_2 ((bt a0 ((rd_T38 t307 x5_2).f2)) == 37) ((rd_T38 t307 x5_2).f0) ((rd_T38 t307 x5_2).f1) ((rd_T38 t307 x5_2).f2)))) = some r := by rw [if_neg (show ¬ (false = true) by decide)] at H; exact H
                    clear H
                    have H := H1
                    clear H1
                    by_cases c137 : (bt a0 ((rd_T38 t307 x5_2).f2)) = 123
                    ·rw [if_pos c137] at H
                     have c137b0 : ((bt a0 ((rd_T38 t307 x5_2).f2)) == 123) = true := beq_iff_eq.mpr c137
                     have c137b1 : ((bt a0 ((rd_T38 t307 x5_2).f2)) != 123) = false := bne_eq_false_iff_eq.mpr c137
                     clear c137
                     have H' := Aside0.mk H
                     clear H
                     have hnb138 := NB316_312.out
                     have hnc138 := NB312_316.out
                     have hcz139_0 : wc.cell? ⟨gb316, 0, none⟩ = some (.int .i64 ((rd_T38 t307 x5_2).f0)) := (blk_cell BK316.out 0).trans rfl
                     have hcz139_1 : wc.cell? ⟨gb316, 1, none⟩ = some (.string ((rd_T38 t307 x5_2).f1)) := (blk_cell BK316.out 1).trans rfl
                     have hcz139_2 : wc.cell? ⟨gb316, 2, none⟩ = some (.int .i64 ((rd_T38 t307 x5_2).f2)) := (blk_cell BK316.out 2).trans rfl
                     have hfz139_0 := blk_frozen BK316.out 0
                     have hfz139_1 := blk_frozen BK316.out 1
                     have hfz139_2 := blk_frozen BK316.out 2
                     go_wp2_with (first | (go_at_call 22; (with_reducible refine (variorumref05_Blank.calls (bt a0 ((rd_T38 t307 x5_2).f2)) false _ A133.out).mono ?_); rintro e w' ⟨rfl, ⟨nd, rfl⟩⟩; (try first | exact ⟨rfl, _, World.drewN_drewN _ _ _⟩ | exact ⟨rfl, _, Eq.trans (World.drewN_drewN _ _ _) (congrArg (World.drewN _) (Nat.add_assoc _ _ _))⟩)))
                     repeat (go_quiet (first | (go_at_call 22; (with_reducible refine (variorumref05_Blank.calls (bt a0 ((rd_T38 t307 x5_2).f2)) false _ A133.out).mono ?_); rintro e w' ⟨rfl, ⟨nd, rfl⟩⟩; (try first | exact ⟨rfl, _, World.drewN_drewN _ _ _⟩ | exact ⟨rfl, _, Eq.trans (World.drewN_drewN _ _ _) (congrArg (World.drewN _) (Nat.add_assoc _ _ _))⟩))); try go_wp2_with (first | (go_at_call 22; (with_reducible refine (variorumref05_Blank.calls (bt a0 ((rd_T38 t307 x5_2).f2)) false _ A133.out).mono ?_); rintro e w' ⟨rfl, ⟨nd, rfl⟩⟩; (try first | exact ⟨rfl, _, World.drewN_drewN _ _ _⟩ | exact ⟨rfl, _, Eq.trans (World.drewN_drewN _ _ _) (congrArg (World.drewN _) (Nat.add_assoc _ _ _))⟩))))
                     go_meet
                     case rel => exact ⟨_, (true), (by first | rfl | (simp; done) | (simp [*]; done)), H', ⟨by have := HJ2.out; have := HK2.out; have := HJ19.out; first | omega | exact Nat.le_refl _⟩, ⟨by (with_reducible repeat (first | apply Kd.R_alloc | apply Kd.R_drewN | apply Kd.R_drew)); exact HO_3.out⟩, ⟨by (with_reducible repeat (first | refine blk_drewN ?_ _ | refine blk_drew ?_ | refine blk_alloc ?_ _)); exact BK312.out⟩, ⟨by (with_reducible repeat (first | refine blk_drewN ?_ _ | refine blk_drew ?_ | refine blk_alloc ?_ _)); exact BK316.out⟩, ⟨by repeat (first | (with_reducible first | exact HB.out | apply below_alloc | apply pw_below_drewN | apply below_drew1 | refine below_set ?_ GE312.out | refine below_set ?_ GE316.out) | exact HB.out)⟩⟩
                    ·rw [if_neg c137] at H
                     have c137b0 : ((bt a0 ((rd_T38 t307 x5_2).f2)) == 123) = false := beq_eq_false_iff_ne.mpr c137
                     have c137b1 : ((bt a0 ((rd_T38 t307 x5_2).f2)) != 123) = true := bne_iff_ne.mpr c137
                     by_cases c140 : (bt a0 ((rd_T38 t307 x5_2).f2)) = 125
                     ·rw [if_pos c140] at H
                      have c140b0 : ((bt a0 ((rd_T38 t307 x5_2).f2)) == 125) = true := beq_iff_eq.mpr c140
                      have c140b1 : ((bt a0 ((rd_T38 t307 x5_2).f2)) != 125) = false := bne_eq_false_iff_eq.mpr c140
                      clear c140
                      have H' := Aside0.mk H
                      clear H
                      have hnb141 := NB316_312.out
                      have hnc141 := NB312_316.out
                      have hcz142_0 : wc.cell? ⟨gb316, 0, none⟩ = some (.int .i64 ((rd_T38 t307 x5_2).f0)) := (blk_cell BK316.out 0).trans rfl
                      have hcz142_1 : wc.cell? ⟨gb316, 1, none⟩ = some (.string ((rd_T38 t307 x5_2).f1)) := (blk_cell BK316.out 1).trans rfl
                      have hcz142_2 : wc.cell? ⟨gb316, 2, none⟩ = some (.int .i64 ((rd_T38 t307 x5_2).f2)) := (blk_cell BK316.out 2).trans rfl
                      have hfz142_0 := blk_frozen BK316.out 0
                      have hfz142_1 := blk_frozen BK316.out 1
                      have hfz142_2 := blk_frozen BK316.out 2
                      go_wp2_with (first | (go_at_call 22; (with_reducible refine (variorumref05_Blank.calls (bt a0 ((rd_T38 t307 x5_2).f2)) false _ A133.out).mono ?_); rintro e w' ⟨rfl, ⟨nd, rfl⟩⟩; (try first | exact ⟨rfl, _, World.drewN_drewN _ _ _⟩ | exact ⟨rfl, _, Eq.trans (World.drewN_drewN _ _ _) (congrArg (World.drewN _) (Nat.add_assoc _ _ _))⟩)))
                      repeat (go_quiet (first | (go_at_call 22; (with_reducible refine (variorumref05_Blank.calls (bt a0 ((rd_T38 t307 x5_2).f2)) false _ A133.out).mono ?_); rintro e w' ⟨rfl, ⟨nd, rfl⟩⟩; (try first | exact ⟨rfl, _, World.drewN_drewN _ _ _⟩ | exact ⟨rfl, _, Eq.trans (World.drewN_drewN _ _ _) (congrArg (World.drewN _) (Nat.add_assoc _ _ _))⟩))); try go_wp2_with (first | (go_at_call 22; (with_reducible refine (variorumref05_Blank.calls (bt a0 ((rd_T38 t307 x5_2).f2)) false _ A133.out).mono ?_); rintro e w' ⟨rfl, ⟨nd, rfl⟩⟩; (try first | exact ⟨rfl, _, World.drewN_drewN _ _ _⟩ | exact ⟨rfl, _, Eq.trans (World.drewN_drewN _ _ _) (congrArg (World.drewN _) (Nat.add_assoc _ _ _))⟩))))
                      go_meet
                      case rel => exact ⟨_, (true), (by first | rfl | (simp; done) | (simp [*]; done)), H', ⟨by have := HJ2.out; have := HK2.out; have := HJ19.out; first | omega | exact Nat.le_refl _⟩, ⟨by (with_reducible repeat (first | apply Kd.R_alloc | apply Kd.R_drewN | apply Kd.R_drew)); exact HO_3.out⟩, ⟨by (with_reducible repeat (first | refine blk_drewN ?_ _ | refine blk_drew ?_ | refine blk_alloc ?_ _)); exact BK312.out⟩, ⟨by (with_reducible repeat (first | refine blk_drewN ?_ _ | refine blk_drew ?_ | refine blk_alloc ?_ _)); exact BK316.out⟩, ⟨by repeat (first | (with_reducible first | exact HB.out | apply below_alloc | apply pw_below_drewN | apply below_drew1 | refine below_set ?_ GE312.out | refine below_set ?_ GE316.out) | exact HB.out)⟩⟩
                     ·rw [if_neg c140] at H
                      have c140b0 : ((bt a0 ((rd_T38 t307 x5_2).f2)) == 125) = false := beq_eq_false_iff_ne.mpr c140
                      have c140b1 : ((bt a0 ((rd_T38 t307 x5_2).f2)) != 125) = true := bne_iff_ne.mpr c140
                      have H' := Aside0.mk H
                      clear H
                      have hnb143 := NB316_312.out
                      have hnc143 := NB312_316.out
                      have hcz144_0 : wc.cell? ⟨gb316, 0, none⟩ = some (.int .i64 ((rd_T38 t307 x5_2).f0)) := (blk_cell BK316.out 0).trans rfl
                      have hcz144_1 : wc.cell? ⟨gb316, 1, none⟩ = some (.string ((rd_T38 t307 x5_2).f1)) := (blk_cell BK316.out 1).trans rfl
                      have hcz144_2 : wc.cell? ⟨gb316, 2, none⟩ = some (.int .i64 ((rd_T38 t307 x5_2).f2)) := (blk_cell BK316.out 2).trans rfl
                      have hfz144_0 := blk_frozen BK316.out 0
                      have hfz144_1 := blk_frozen BK316.out 1
                      have hfz144_2 := blk_frozen BK316.out 2
                      go_wp2_with (first | (go_at_call 22; (with_reducible refine (variorumref05_Blank.calls (bt a0 ((rd_T38 t307 x5_2).f2)) false _ A133.out).mono ?_); rintro e w' ⟨rfl, ⟨nd, rfl⟩⟩; (try first | exact ⟨rfl, _, World.drewN_drewN _ _ _⟩ | exact ⟨rfl, _, Eq.trans (World.drewN_drewN _ _ _) (congrArg (World.drewN _) (Nat.add_assoc _ _ _))⟩)))
                      repeat (go_quiet (first | (go_at_call 22; (with_reducible refine (variorumref05_Blank.calls (bt a0 ((rd_T38 t307 x5_2).f2)) false _ A133.out).mono ?_); rintro e w' ⟨rfl, ⟨nd, rfl⟩⟩; (try first | exact ⟨rfl, _, World.drewN_drewN _ _ _⟩ | exact ⟨rfl, _, Eq.trans (World.drewN_drewN _ _ _) (congrArg (World.drewN _) (Nat.add_assoc _ _ _))⟩))); try go_wp2_with (first | (go_at_call 22; (with_reducible refine (variorumref05_Blank.calls (bt a0 ((rd_T38 t307 x5_2).f2)) false _ A133.out).mono ?_); rintro e w' ⟨rfl, ⟨nd, rfl⟩⟩; (try first | exact ⟨rfl, _, World.drewN_drewN _ _ _⟩ | exact ⟨rfl, _, Eq.trans (World.drewN_drewN _ _ _) (congrArg (World.drewN _) (Nat.add_assoc _ _ _))⟩))))
                      go_meet
                      case rel => exact ⟨_, (((bt a0 ((rd_T38 t307 x5_2).f2)) == 37)), (by first | rfl | (simp; done) | (simp [*]; done)), H', ⟨by have := HJ2.out; have := HK2.out; have := HJ19.out; first | omega | exact Nat.le_refl _⟩, ⟨by (with_reducible repeat (first | apply Kd.R_alloc | apply Kd.R_drewN | apply Kd.R_drew)); exact HO_3.out⟩, ⟨by (with_reducible repeat (first | refine blk_drewN ?_ _ | refine blk_drew ?_ | refine blk_alloc ?_ _)); exact BK312.out⟩, ⟨by (with_reducible repeat (first | refine blk_drewN ?_ _ | refine blk_drew ?_ | refine blk_alloc ?_ _)); exact BK316.out⟩, ⟨by repeat (first | (with_reducible first | exact HB.out | apply below_alloc | apply pw_below_drewN | apply below_drew1 | refine below_set ?_ GE312.out | refine below_set ?_ GE316.out) | exact HB.out)⟩⟩
                  ·rw [if_neg c132] at H
                   have c132b0 : (((rd_T38 t307 x5_2).f0) == 0) = false := beq_eq_false_iff_ne.mpr c132
                   have c132b1 : (((rd_T38 t307 x5_2).f0) != 0) = true := bne_iff_ne.mpr c132
                   have H' := Aside0.mk H
                   clear H
                   have hnb145 := NB316_312.out
                   have hnc145 := NB312_316.out
                   have hcz146_0 : wc.cell? ⟨gb316, 0, none⟩ = some (.int .i64 ((rd_T38 t307 x5_2).f0)) := (blk_cell BK316.out 0).trans rfl
                   have hcz146_1 : wc.cell? ⟨gb316, 1, none⟩ = some (.string ((rd_T38 t307 x5_2).f1)) := (blk_cell BK316.out 1).trans rfl
                   have hcz146_2 : wc.cell? ⟨gb316, 2, none⟩ = some (.int .i64 ((rd_T38 t307 x5_2).f2)) := (blk_cell BK316.out 2).trans rfl
                   have hfz146_0 := blk_frozen BK316.out 0
                   have hfz146_1 := blk_frozen BK316.out 1
                   have hfz146_2 := blk_frozen BK316.out 2
                   go_wp2
                   repeat (go_quiet (fail); try go_wp2)
                   go_meet
                   case rel => exact ⟨_, (false), (by first | rfl | (simp; done) | (simp [*]; done)), H', ⟨by have := HJ2.out; have := HK2.out; have := HJ19.out; first | omega | exact Nat.le_refl _⟩, ⟨by (with_reducible repeat (first | apply Kd.R_alloc | apply Kd.R_drewN | apply Kd.R_drew)); exact HO_3.out⟩, ⟨by (with_reducible repeat (first | refine blk_drewN ?_ _ | refine blk_drew ?_ | refine blk_alloc ?_ _)); exact BK312.out⟩, ⟨by (with_reducible repeat (first | refine blk_drewN ?_ _ | refine blk_drew ?_ | refine blk_alloc ?_ _)); exact BK316.out⟩, ⟨by repeat (first | (with_reducible first | exact HB.out | apply below_alloc | apply pw_below_drewN | apply below_drew1 | refine below_set ?_ GE312.out | refine below_set ?_ GE316.out) | exact HB.out)⟩⟩
                 ·rw [if_neg c131] at H
                  have c131b0 : ((bt a0 ((rd_T38 t307 x5_2).f2)) == 92) = false := beq_eq_false_iff_ne.mpr c131
                  have c131b1 : ((bt a0 ((rd_T38 t307 x5_2).f2)) != 92) = true := bne_iff_ne.mpr c131
                  have H' := Aside0.mk H
                  clear H
                  have hnb147 := NB316_312.out
                  have hnc147 := NB312_316.out
                  have hcz148_0 : wc.cell? ⟨gb316, 0, none⟩ = some (.int .i64 ((rd_T38 t307 x5_2).f0)) := (blk_cell BK316.out 0).trans rfl
                  have hcz148_1 : wc.cell? ⟨gb316, 1, none⟩ = some (.string ((rd_T38 t307 x5_2).f1)) := (blk_cell BK316.out 1).trans rfl
                  have hcz148_2 : wc.cell? ⟨gb316, 2, none⟩ = some (.int .i64 ((rd_T38 t307 x5_2).f2)) := (blk_cell BK316.out 2).trans rfl
                  have hfz148_0 := blk_frozen BK316.out 0
                  have hfz148_1 := blk_frozen BK316.out 1
                  have hfz148_2 := blk_frozen BK316.out 2
                  go_wp2
                  repeat (go_quiet (fail); try go_wp2)
                  go_meet
                  case rel => exact ⟨_, (true), (by first | rfl | (simp; done) | (simp [*]; done)), H', ⟨by have := HJ2.out; have := HK2.out; have := HJ19.out; first | omega | exact Nat.le_refl _⟩, ⟨by (with_reducible repeat (first | apply Kd.R_alloc | apply Kd.R_drewN | apply Kd.R_drew)); exact HO_3.out⟩, ⟨by (with_reducible repeat (first | refine blk_drewN ?_ _ | refine blk_drew ?_ | refine blk_alloc ?_ _)); exact BK312.out⟩, ⟨by (with_reducible repeat (first | refine blk_drewN ?_ _ | refine blk_drew ?_ | refine blk_alloc ?_ _)); exact BK316.out⟩, ⟨by repeat (first | (with_reducible first | exact HB.out | apply below_alloc | apply pw_below_drewN | apply below_drew1 | refine below_set ?_ GE312.out | refine below_set ?_ GE316.out) | exact HB.out)⟩⟩
                ·rw [if_neg c130] at H
                 have c130b0 : (((rd_T38 t307 x5_2).f0) == 1) = false := beq_eq_false_iff_ne.mpr c130
                 have c130b1 : (((rd_T38 t307 x5_2).f0) != 1) = true := bne_iff_ne.mpr c130
                 by_cases c149 : ((rd_T38 t307 x5_2).f0) = 0
                 ·rw [if_pos c149] at H
                  have c149b0 : (((rd_T38 t307 x5_2).f0) == 0) = true := beq_iff_eq.mpr c149
                  have c149b1 : (((rd_T38 t307 x5_2).f0) != 0) = false := bne_eq_false_iff_eq.mpr c149
                  clear c149
                  replace H := Option.bind_eq_some_iff.mp H
                  obtain ⟨t325, A1500, H⟩ := H
                  replace H : (if t325 = true then (variorumlaw05_LexerPlaces.j3 kj19 a0 t307 x5_2 true ((rd_T38 t307 x5_2).f0) ((rd_T38 t307 x5_2).f1) ((rd_T38 t307 x5_2).f2)) else (if (bt a0 ((rd_T38 t307 x5_2).f2)) = 123 then (variorumlaw05_LexerPlaces.j3 kj19 a0 t307 x5_2 true ((rd_T38 t307 x5_2).f0) ((rd_T38 t307 x5_2).f1) ((rd_T38 t307 x5_2).f2)) else (if (bt a0 ((rd_T38 t307 x5_2).f2)) = 125 then (variorumlaw05_LexerPlaces.j3 kj19 a0 t307 x5_2 true ((rd_T38 t307 x5_2).f0) ((rd_T38 t307 x5_2).f1) ((rd_T38 t307 x5_2).f2)) else (variorumlaw05_LexerPlaces.j3 kj19 a0 t307 x5_2 ((bt a0 ((rd_T38 t307 x5_2).f2)) == 37) ((rd_T38 t307 x5_2).f0) ((rd_T38 t307 x5_2).f1) ((rd_T38 t307 x5_2).f2))))) = some r := H
                  have A150 := Aside0.mk A1500
                  clear A1500
                  by_cases c151 : t325 = true
                  ·subst c151
                   have H1 : (variorumlaw05_LexerPlaces.j3 kj19 a0 t307 x5_2 true ((rd_T38 t307 x5_2).f0) ((rd_T38 t307 x5_2).f1) ((rd_T38 t307 x5_2).f2)) = some r := by rw [if_pos rfl] at H; exact H
                   clear H
                   have H := H1
                   clear H1
                   have H' := Aside0.mk H
                   clear H
                   have hnb152 := NB316_312.out
                   have hnc152 := NB312_316.out
                   have hcz153_0 : wc.cell? ⟨gb316, 0, none⟩ = some (.int .i64 ((rd_T38 t307 x5_2).f0)) := (blk_cell BK316.out 0).trans rfl
                   have hcz153_1 : wc.cell? ⟨gb316, 1, none⟩ = some (.string ((rd_T38 t307 x5_2).f1)) := (blk_cell BK316.out 1).trans rfl
                   have hcz153_2 : wc.cell? ⟨gb316, 2, none⟩ = some (.int .i64 ((rd_T38 t307 x5_2).f2)) := (blk_cell BK316.out 2).trans rfl
                   have hfz153_0 := blk_frozen BK316.out 0
                   have hfz153_1 := blk_frozen BK316.out 1
                   have hfz153_2 := blk_frozen BK316.out 2
                   go_wp2_with (first | (go_at_call 22; (with_reducible refine (variorumref05_Blank.calls (bt a0 ((rd_T38 t307 x5_2).f2)) true _ A150.out).mono ?_); rintro e w' ⟨rfl, ⟨nd, rfl⟩⟩; (try first | exact ⟨rfl, _, World.drewN_drewN _ _ _⟩ | exact ⟨rfl, _, Eq.trans (World.drewN_drewN _ _ _) (congrArg (World.drewN _) (Nat.add_assoc _ _ _))⟩)))
                   repeat (go_quiet (first | (go_at_call 22; (with_reducible refine (variorumref05_Blank.calls (bt a0 ((rd_T38 t307 x5_2).f2)) true _ A150.out).mono ?_); rintro e w' ⟨rfl, ⟨nd, rfl⟩⟩; (try first | exact ⟨rfl, _, World.drewN_drewN _ _ _⟩ | exact ⟨rfl, _, Eq.trans (World.drewN_drewN _ _ _) (congrArg (World.drewN _) (Nat.add_assoc _ _ _))⟩))); try go_wp2_with (first | (go_at_call 22; (with_reducible refine (variorumref05_Blank.calls (bt a0 ((rd_T38 t307 x5_2).f2)) true _ A150.out).mono ?_); rintro e w' ⟨rfl, ⟨nd, rfl⟩⟩; (try first | exact ⟨rfl, _, World.drewN_drewN _ _ _⟩ | exact ⟨rfl, _, Eq.trans (World.drewN_drewN _ _ _) (congrArg (World.drewN _) (Nat.add_assoc _ _ _))⟩))))
                   go_meet
                   case rel => exact ⟨_, (true), (by first | rfl | (simp; done) | (simp [*]; done)), H', ⟨by have := HJ2.out; have := HK2.out; have := HJ19.out; first | omega | exact Nat.le_refl _⟩, ⟨by (with_reducible repeat (first | apply Kd.R_alloc | apply Kd.R_drewN | apply Kd.R_drew)); exact HO_3.out⟩, ⟨by (with_reducible repeat (first | refine blk_drewN ?_ _ | refine blk_drew ?_ | refine blk_alloc ?_ _)); exact BK312.out⟩, ⟨by (with_reducible repeat (first | refine blk_drewN ?_ _ | refine blk_drew ?_ | refine blk_alloc ?_ _)); exact BK316.out⟩, ⟨by repeat (first | (with_reducible first | exact HB.out | apply below_alloc | apply pw_below_drewN | apply below_drew1 | refine below_set ?_ GE312.out | refine below_set ?_ GE316.out) | exact HB.out)⟩⟩
                  ·replace c151 := Bool.eq_false_iff.mpr c151
                   subst c151
                   have H1 : (if (bt a0 ((rd_T38 t307 x5_2).f2)) = 123 then (variorumlaw05_LexerPlaces.j3 kj19 a0 t307 x5_2 true ((rd_T38 t307 x5_2).f0) ((rd_T38 t307 x5_2).f1) ((rd_T38 t307 x5_2).f2)) else (if (bt a0 ((rd_T38 t307 x5_2).f2)) = 125 then (variorumlaw05_LexerPlaces.j3 kj19 a0 t307 x5_2 true ((rd_T38 t307 x5_2).f0) ((rd_T38 t307 x5_2).f1) ((rd_T38 t307 x5_2).f2)) else (variorumlaw05_LexerPlaces.j3 kj19 a0 t307 x5_2 ((bt a0 ((rd_T38 t307 x5_2).f2)) == 37) ((rd_T38 t307 x5_2).f0) ((rd_T38 t307 x5_2).f1) ((rd_T38 t307 x5_2).f2)))) = some r := by rw [if_neg (show ¬ (false = true) by decide)] at H; exact H
                   clear H
                   have H := H1
                   clear H1
                   by_cases c154 : (bt a0 ((rd_T38 t307 x5_2).f2)) = 123
                   ·rw [if_pos c154] at H
                    have c154b0 : ((bt a0 ((rd_T38 t307 x5_2).f2)) == 123) = true := beq_iff_eq.mpr c154
                    have c154b1 : ((bt a0 ((rd_T38 t307 x5_2).f2)) != 123) = false := bne_eq_false_iff_eq.mpr c154
                    clear c154
                    have H' := Aside0.mk H
                    clear H
                    have hnb155 := NB316_312.out
                    have hnc155 := NB312_316.out
                    have hcz156_0 : wc.cell? ⟨gb316, 0, none⟩ = some (.int .i64 ((rd_T38 t307 x5_2).f0)) := (blk_cell BK316.out 0).trans rfl
                    have hcz156_1 : wc.cell? ⟨gb316, 1, none⟩ = some (.string ((rd_T38 t307 x5_2).f1)) := (blk_cell BK316.out 1).trans rfl
                    have hcz156_2 : wc.cell? ⟨gb316, 2, none⟩ = some (.int .i64 ((rd_T38 t307 x5_2).f2)) := (blk_cell BK316.out 2).trans rfl
                    have hfz156_0 := blk_frozen BK316.out 0
                    have hfz156_1 := blk_frozen BK316.out 1
                    have hfz156_2 := blk_frozen BK316.out 2
                    go_wp2_with (first | (go_at_call 22; (with_reducible refine (variorumref05_Blank.calls (bt a0 ((rd_T38 t307 x5_2).f2)) false _ A150.out).mono ?_); rintro e w' ⟨rfl, ⟨nd, rfl⟩⟩; (try first | exact ⟨rfl, _, World.drewN_drewN _ _ _⟩ | exact ⟨rfl, _, Eq.trans (World.drewN_drewN _ _ _) (congrArg (World.drewN _) (Nat.add_assoc _ _ _))⟩)))
                    repeat (go_quiet (first | (go_at_call 22; (with_reducible refine (variorumref05_Blank.calls (bt a0 ((rd_T38 t307 x5_2).f2)) false _ A150.out).mono ?_); rintro e w' ⟨rfl, ⟨nd, rfl⟩⟩; (try first | exact ⟨rfl, _, World.drewN_drewN _ _ _⟩ | exact ⟨rfl, _, Eq.trans (World.drewN_drewN _ _ _) (congrArg (World.drewN _) (Nat.add_assoc _ _ _))⟩))); try go_wp2_with (first | (go_at_call 22; (with_reducible refine (variorumref05_Blank.calls (bt a0 ((rd_T38 t307 x5_2).f2)) false _ A150.out).mono ?_); rintro e w' ⟨rfl, ⟨nd, rfl⟩⟩; (try first | exact ⟨rfl, _, World.drewN_drewN _ _ _⟩ | exact ⟨rfl, _, Eq.trans (World.drewN_drewN _ _ _) (congrArg (World.drewN _) (Nat.add_assoc _ _ _))⟩))))
                    go_meet
                    case rel => exact ⟨_, (true), (by first | rfl | (simp; done) | (simp [*]; done)), H', ⟨by have := HJ2.out; have := HK2.out; have := HJ19.out; first | omega | exact Nat.le_refl _⟩, ⟨by (with_reducible repeat (first | apply Kd.R_alloc | apply Kd.R_drewN | apply Kd.R_drew)); exact HO_3.out⟩, ⟨by (with_reducible repeat (first | refine blk_drewN ?_ _ | refine blk_drew ?_ | refine blk_alloc ?_ _)); exact BK312.out⟩, ⟨by (with_reducible repeat (first | refine blk_drewN ?_ _ | refine blk_drew ?_ | refine blk_alloc ?_ _)); exact BK316.out⟩, ⟨by repeat (first | (with_reducible first | exact HB.out | apply below_alloc | apply pw_below_drewN | apply below_drew1 | refine below_set ?_ GE312.out | refine below_set ?_ GE316.out) | exact HB.out)⟩⟩
                   ·rw [if_neg c154] at H
                    have c154b0 : ((bt a0 ((rd_T38 t307 x5_2).f2)) == 123) = false := beq_eq_false_iff_ne.mpr c154
                    have c154b1 : ((bt a0 ((rd_T38 t307 x5_2).f2)) != 123) = true := bne_iff_ne.mpr c154
                    by_cases c157 : (bt a0 ((rd_T38 t307 x5_2).f2)) = 125
                    ·rw [if_pos c157] at H
                     have c157b0 : ((bt a0 ((rd_T38 t307 x5_2).f2)) == 125) = true := beq_iff_eq.mpr c157
                     have c157b1 : ((bt a0 ((rd_T38 t307 x5_2).f2)) != 125) = false := bne_eq_false_iff_eq.mpr c157
                     clear c157
                     have H' := Aside0.mk H
                     clear H
                     have hnb158 := NB316_312.out
                     have hnc158 := NB312_316.out
                     have hcz159_0 : wc.cell? ⟨gb316, 0, none⟩ = some (.int .i64 ((rd_T38 t307 x5_2).f0)) := (blk_cell BK316.out 0).trans rfl
                     have hcz159_1 : wc.cell? ⟨gb316, 1, none⟩ = some (.string ((rd_T38 t307 x5_2).f1)) := (blk_cell BK316.out 1).trans rfl
                     have hcz159_2 : wc.cell? ⟨gb316, 2, none⟩ = some (.int .i64 ((rd_T38 t307 x5_2).f2)) := (blk_cell BK316.out 2).trans rfl
                     have hfz159_0 := blk_frozen BK316.out 0
                     have hfz159_1 := blk_frozen BK316.out 1
                     have hfz159_2 := blk_frozen BK316.out 2
                     go_wp2_with (first | (go_at_call 22; (with_reducible refine (variorumref05_Blank.calls (bt a0 ((rd_T38 t307 x5_2).f2)) false _ A150.out).mono ?_); rintro e w' ⟨rfl, ⟨nd, rfl⟩⟩; (try first | exact ⟨rfl, _, World.drewN_drewN _ _ _⟩ | exact ⟨rfl, _, Eq.trans (World.drewN_drewN _ _ _) (congrArg (World.drewN _) (Nat.add_assoc _ _ _))⟩)))
                     repeat (go_quiet (first | (go_at_call 22; (with_reducible refine (variorumref05_Blank.calls (bt a0 ((rd_T38 t307 x5_2).f2)) false _ A150.out).mono ?_); rintro e w' ⟨rfl, ⟨nd, rfl⟩⟩; (try first | exact ⟨rfl, _, World.drewN_drewN _ _ _⟩ | exact ⟨rfl, _, Eq.trans (World.drewN_drewN _ _ _) (congrArg (World.drewN _) (Nat.add_assoc _ _ _))⟩))); try go_wp2_with (first | (go_at_call 22; (with_reducible refine (variorumref05_Blank.calls (bt a0 ((rd_T38 t307 x5_2).f2)) false _ A150.out).mono ?_); rintro e w' ⟨rfl, ⟨nd, rfl⟩⟩; (try first | exact ⟨rfl, _, World.drewN_drewN _ _ _⟩ | exact ⟨rfl, _, Eq.trans (World.drewN_drewN _ _ _) (congrArg (World.drewN _) (Nat.add_assoc _ _ _))⟩))))
                     go_meet
                     case rel => exact ⟨_, (true), (by first | rfl | (simp; done) | (simp [*]; done)), H', ⟨by have := HJ2.out; have := HK2.out; have := HJ19.out; first | omega | exact Nat.le_refl _⟩, ⟨by (with_reducible repeat (first | apply Kd.R_alloc | apply Kd.R_drewN | apply Kd.R_drew)); exact HO_3.out⟩, ⟨by (with_reducible repeat (first | refine blk_drewN ?_ _ | refine blk_drew ?_ | refine blk_alloc ?_ _)); exact BK312.out⟩, ⟨by (with_reducible repeat (first | refine blk_drewN ?_ _ | refine blk_drew ?_ | refine blk_alloc ?_ _)); exact BK316.out⟩, ⟨by repeat (first | (with_reducible first | exact HB.out | apply below_alloc | apply pw_below_drewN | apply below_drew1 | refine below_set ?_ GE312.out | refine below_set ?_ GE316.out) | exact HB.out)⟩⟩
                    ·rw [if_neg c157] at H
                     have c157b0 : ((bt a0 ((rd_T38 t307 x5_2).f2)) == 125) = false := beq_eq_false_iff_ne.mpr c157
                     have c157b1 : ((bt a0 ((rd_T38 t307 x5_2).f2)) != 125) = true := bne_iff_ne.mpr c157
                     have H' := Aside0.mk H
                     clear H
                     have hnb160 := NB316_312.out
                     have hnc160 := NB312_316.out
                     have hcz161_0 : wc.cell? ⟨gb316, 0, none⟩ = some (.int .i64 ((rd_T38 t307 x5_2).f0)) := (blk_cell BK316.out 0).trans rfl
                     have hcz161_1 : wc.cell? ⟨gb316, 1, none⟩ = some (.string ((rd_T38 t307 x5_2).f1)) := (blk_cell BK316.out 1).trans rfl
                     have hcz161_2 : wc.cell? ⟨gb316, 2, none⟩ = some (.int .i64 ((rd_T38 t307 x5_2).f2)) := (blk_cell BK316.out 2).trans rfl
                     have hfz161_0 := blk_frozen BK316.out 0
                     have hfz161_1 := blk_frozen BK316.out 1
                     have hfz161_2 := blk_frozen BK316.out 2
                     go_wp2_with (first | (go_at_call 22; (with_reducible refine (variorumref05_Blank.calls (bt a0 ((rd_T38 t307 x5_2).f2)) false _ A150.out).mono ?_); rintro e w' ⟨rfl, ⟨nd, rfl⟩⟩; (try first | exact ⟨rfl, _, World.drewN_drewN _ _ _⟩ | exact ⟨rfl, _, Eq.trans (World.drewN_drewN _ _ _) (congrArg (World.drewN _) (Nat.add_assoc _ _ _))⟩)))
                     repeat (go_quiet (first | (go_at_call 22; (with_reducible refine (variorumref05_Blank.calls (bt a0 ((rd_T38 t307 x5_2).f2)) false _ A150.out).mono ?_); rintro e w' ⟨rfl, ⟨nd, rfl⟩⟩; (try first | exact ⟨rfl, _, World.drewN_drewN _ _ _⟩ | exact ⟨rfl, _, Eq.trans (World.drewN_drewN _ _ _) (congrArg (World.drewN _) (Nat.add_assoc _ _ _))⟩))); try go_wp2_with (first | (go_at_call 22; (with_reducible refine (variorumref05_Blank.calls (bt a0 ((rd_T38 t307 x5_2).f2)) false _ A150.out).mono ?_); rintro e w' ⟨rfl, ⟨nd, rfl⟩⟩; (try first | exact ⟨rfl, _, World.drewN_drewN _ _ _⟩ | exact ⟨rfl, _, Eq.trans (World.drewN_drewN _ _ _) (congrArg (World.drewN _) (Nat.add_assoc _ _ _))⟩))))
                     go_meet
                     case rel => exact ⟨_, (((bt a0 ((rd_T38 t307 x5_2).f2)) == 37)), (by first | rfl | (simp; done) | (simp [*]; done)), H', ⟨by have := HJ2.out; have := HK2.out; have := HJ19.out; first | omega | exact Nat.le_refl _⟩, ⟨by (with_reducible repeat (first | apply Kd.R_alloc | apply Kd.R_drewN | apply Kd.R_drew)); exact HO_3.out⟩, ⟨by (with_reducible repeat (first | refine blk_drewN ?_ _ | refine blk_drew ?_ | refine blk_alloc ?_ _)); exact BK312.out⟩, ⟨by (with_reducible repeat (first | refine blk_drewN ?_ _ | refine blk_drew ?_ | refine blk_alloc ?_ _)); exact BK316.out⟩, ⟨by repeat (first | (with_reducible first | exact HB.out | apply below_alloc | apply pw_below_drewN | apply below_drew1 | refine below_set ?_ GE312.out | refine below_set ?_ GE316.out) | exact HB.out)⟩⟩
                 ·rw [if_neg c149] at H
                  have c149b0 : (((rd_T38 t307 x5_2).f0) == 0) = false := beq_eq_false_iff_ne.mpr c149
                  have c149b1 : (((rd_T38 t307 x5_2).f0) != 0) = true := bne_iff_ne.mpr c149
                  have H' := Aside0.mk H
                  clear H
                  have hnb162 := NB316_312.out
                  have hnc162 := NB312_316.out
                  have hcz163_0 : wc.cell? ⟨gb316, 0, none⟩ = some (.int .i64 ((rd_T38 t307 x5_2).f0)) := (blk_cell BK316.out 0).trans rfl
                  have hcz163_1 : wc.cell? ⟨gb316, 1, none⟩ = some (.string ((rd_T38 t307 x5_2).f1)) := (blk_cell BK316.out 1).trans rfl
                  have hcz163_2 : wc.cell? ⟨gb316, 2, none⟩ = some (.int .i64 ((rd_T38 t307 x5_2).f2)) := (blk_cell BK316.out 2).trans rfl
                  have hfz163_0 := blk_frozen BK316.out 0
                  have hfz163_1 := blk_frozen BK316.out 1
                  have hfz163_2 := blk_frozen BK316.out 2
                  go_wp2
                  repeat (go_quiet (fail); try go_wp2)
                  go_meet
                  case rel => exact ⟨_, (false), (by first | rfl | (simp; done) | (simp [*]; done)), H', ⟨by have := HJ2.out; have := HK2.out; have := HJ19.out; first | omega | exact Nat.le_refl _⟩, ⟨by (with_reducible repeat (first | apply Kd.R_alloc | apply Kd.R_drewN | apply Kd.R_drew)); exact HO_3.out⟩, ⟨by (with_reducible repeat (first | refine blk_drewN ?_ _ | refine blk_drew ?_ | refine blk_alloc ?_ _)); exact BK312.out⟩, ⟨by (with_reducible repeat (first | refine blk_drewN ?_ _ | refine blk_drew ?_ | refine blk_alloc ?_ _)); exact BK316.out⟩, ⟨by repeat (first | (with_reducible first | exact HB.out | apply below_alloc | apply pw_below_drewN | apply below_drew1 | refine below_set ?_ GE312.out | refine below_set ?_ GE316.out) | exact HB.out)⟩⟩
             case rest =>
              as_aux_lemma =>
              clear HC43
              try clear c1
              try clear p2
              try clear c4
              try clear c7
              try clear c8
              try clear c9
              try clear c10
              try clear c11
              try clear c12
              try clear c13
              try clear c14
              try clear c15
              try clear c16
              try clear c46
              try clear c46b0
              try clear c46b1
              try clear c47
              try clear c47b0
              try clear c47b1
              try clear c74
              try clear c74b0
              try clear c74b1
              try clear c75
              try clear c75b0
              try clear c75b1
              try clear c85
              try clear c87
              try clear c87b0
              try clear c87b1
              try clear c89
              try clear c90
              try clear c92
              try clear c94
              try clear c96
              try clear c98
              try clear c98b0
              try clear c98b1
              try clear c99
              try clear c99b0
              try clear c99b1
              try clear c100
              try clear c100b0
              try clear c100b1
              try clear c101
              try clear c101b0
              try clear c101b1
              try clear c102
              try clear c102b0
              try clear c102b1
              try clear c104
              try clear c105
              try clear c107
              try clear c107b0
              try clear c107b1
              try clear c108
              try clear c110
              try clear c112
              try clear c114
              try clear c116
              try clear c116b0
              try clear c116b1
              try clear c118
              try clear c119
              try clear c121
              try clear c121b0
              try clear c121b1
              try clear c122
              try clear c124
              try clear c126
              try clear c128
              try clear c130
              try clear c130b0
              try clear c130b1
              try clear c131
              try clear c131b0
              try clear c131b1
              try clear c132
              try clear c132b0
              try clear c132b1
              try clear c134
              try clear c135
              try clear c137
              try clear c137b0
              try clear c137b1
              try clear c138
              try clear c140
              try clear c140b0
              try clear c140b1
              try clear c141
              try clear c143
              try clear c145
              try clear c147
              try clear c149
              try clear c149b0
              try clear c149b1
              try clear c151
              try clear c152
              try clear c154
              try clear c154b0
              try clear c154b1
              try clear c155
              try clear c157
              try clear c157b0
              try clear c157b1
              try clear c158
              try clear c160
              try clear c162
              try clear hcz106_0
              try clear hcz106_1
              try clear hcz106_2
              try clear hcz109_0
              try clear hcz109_1
              try clear hcz109_2
              try clear hcz111_0
              try clear hcz111_1
              try clear hcz111_2
              try clear hcz113_0
              try clear hcz113_1
              try clear hcz113_2
              try clear hcz115_0
              try clear hcz115_1
              try clear hcz115_2
              try clear hcz120_0
              try clear hcz120_1
              try clear hcz120_2
              try clear hcz123_0
              try clear hcz123_1
              try clear hcz123_2
              try clear hcz125_0
              try clear hcz125_1
              try clear hcz125_2
              try clear hcz127_0
              try clear hcz127_1
              try clear hcz127_2
              try clear hcz129_0
              try clear hcz129_1
              try clear hcz129_2
              try clear hcz136_0
              try clear hcz136_1
              try clear hcz136_2
              try clear hcz139_0
              try clear hcz139_1
              try clear hcz139_2
              try clear hcz142_0
              try clear hcz142_1
              try clear hcz142_2
              try clear hcz144_0
              try clear hcz144_1
              try clear hcz144_2
              try clear hcz146_0
              try clear hcz146_1
              try clear hcz146_2
              try clear hcz148_0
              try clear hcz148_1
              try clear hcz148_2
              try clear hcz153_0
              try clear hcz153_1
              try clear hcz153_2
              try clear hcz156_0
              try clear hcz156_1
              try clear hcz156_2
              try clear hcz159_0
              try clear hcz159_1
              try clear hcz159_2
              try clear hcz161_0
              try clear hcz161_1
              try clear hcz161_2
              try clear hcz163_0
              try clear hcz163_1
              try clear hcz163_2
              try clear hcz86_0
              try clear hcz86_1
              try clear hcz86_2
              try clear hcz91_0
              try clear hcz91_1
              try clear hcz91_2
              try clear hcz93_0
              try clear hcz93_1
              try clear hcz93_2
              try clear hcz95_0
              try clear hcz95_1
              try clear hcz95_2
              try clear hcz97_0
              try clear hcz97_1
              try clear hcz97_2
              try clear hfz106_0
              try clear hfz106_1
              try clear hfz106_2
              try clear hfz109_0
              try clear hfz109_1
              try clear hfz109_2
              try clear hfz111_0
              try clear hfz111_1
              try clear hfz111_2
              try clear hfz113_0
              try clear hfz113_1
              try clear hfz113_2
              try clear hfz115_0
              try clear hfz115_1
              try clear hfz115_2
              try clear hfz120_0
              try clear hfz120_1
              try clear hfz120_2
              try clear hfz123_0
              try clear hfz123_1
              try clear hfz123_2
              try clear hfz125_0
              try clear hfz125_1
              try clear hfz125_2
              try clear hfz127_0
              try clear hfz127_1
              try clear hfz127_2
              try clear hfz129_0
              try clear hfz129_1
              try clear hfz129_2
              try clear hfz136_0
              try clear hfz136_1
              try clear hfz136_2
              try clear hfz139_0
              try clear hfz139_1
              try clear hfz139_2
              try clear hfz142_0
              try clear hfz142_1
              try clear hfz142_2
              try clear hfz144_0
              try clear hfz144_1
              try clear hfz144_2
              try clear hfz146_0
              try clear hfz146_1
              try clear hfz146_2
              try clear hfz148_0
              try clear hfz148_1
              try clear hfz148_2
              try clear hfz153_0
              try clear hfz153_1
              try clear hfz153_2
              try clear hfz156_0
              try clear hfz156_1
              try clear hfz156_2
              try clear hfz159_0
              try clear hfz159_1
              try clear hfz159_2
              try clear hfz161_0
              try clear hfz161_1
              try clear hfz161_2
              try clear hfz163_0
              try clear hfz163_1
              try clear hfz163_2
              try clear hfz86_0
              try clear hfz86_1
              try clear hfz86_2
              try clear hfz91_0
              try clear hfz91_1
              try clear hfz91_2
              try clear hfz93_0
              try clear hfz93_1
              try clear hfz93_2
              try clear hfz95_0
              try clear hfz95_1
              try clear hfz95_2
              try clear hfz97_0
              try clear hfz97_1
              try clear hfz97_2
              obtain ⟨kq, x119_42, rfl, HA, HJ42, HO_3, BK312, BK316, HB⟩ := hcut
              cases kq with
              | zero => exact absurd HA.out (by simp [variorumlaw05_LexerPlaces.j3])
              | succ kj42 =>
               have H := HA.out
               clear HA
               simp only [variorumlaw05_LexerPlaces.j3] at H
               by_cases c164 : x119_42 = true
               ·subst c164
                have H1 : (none) = some r := by rw [if_pos rfl] at H; exact H
                clear H
                have H := H1
                clear H1
                exact absurd H (by simp)
               ·replace c164 := Bool.eq_false_iff.mpr c164
                subst c164
                have H1 : (if 0 ≤ ((rd_T38 t307 x5_2).f2) then (if ((rd_T38 t307 x5_2).f2) ≤ (a0.size : Int) then ((lexer_Lex.f kj42 (a0.extract 0 (((rd_T38 t307 x5_2).f2) : Int).toNat)).bind fun bt326 => (if bt326.2.1 = 0 then (if 0 ≤ x5_2 then (if x5_2 ≤ (t307.length : Int) then ((variorumref05_Same.f kj42 bt326.1 (t307.take (x5_2 : Int).toNat)).bind fun t336 => (if t336 = true then (variorumlaw05_LexerPlaces.l0 kj42 a0 t307 (wrap64 (x5_2 + 1))) else (none))) else (none)) else (none)) else (none))) else (none)) else (none)) = some r := by rw [if_neg (show ¬ (false = true) by decide)] at H; exact H
                clear H
                have H := H1
                clear H1
                by_cases c165 : 0 ≤ ((rd_T38 t307 x5_2).f2)
                ·rw [if_pos c165] at H
                 have c165b0 := eq_true c165
                 have c165b1 : decide (0 ≤ ((rd_T38 t307 x5_2).f2)) = true := decide_eq_true c165
                 clear c165
                 by_cases c166 : ((rd_T38 t307 x5_2).f2) ≤ (a0.size : Int)
                 ·rw [if_pos c166] at H
                  have c166b0 := eq_true c166
                  have c166b1 : decide (((rd_T38 t307 x5_2).f2) ≤ (a0.size : Int)) = true := decide_eq_true c166
                  clear c166
                  replace H := Option.bind_eq_some_iff.mp H
                  obtain ⟨⟨t326, t329, t330⟩, A1670, H⟩ := H
                  replace H : (if t329 = 0 then (if 0 ≤ x5_2 then (if x5_2 ≤ (t307.length : Int) then ((variorumref05_Same.f kj42 t326 (t307.take (x5_2 : Int).toNat)).bind fun t336 => (if t336 = true then (variorumlaw05_LexerPlaces.l0 kj42 a0 t307 (wrap64 (x5_2 + 1))) else (none))) else (none)) else (none)) else (none)) = some r := H
                  have A167 := Aside0.mk A1670
                  clear A1670
                  by_cases c168 : t329 = 0
                  ·rw [if_pos c168] at H
                   have c168b0 : (t329 == 0) = true := beq_iff_eq.mpr c168
                   have c168b1 : (t329 != 0) = false := bne_eq_false_iff_eq.mpr c168
                   clear c168
                   by_cases c169 : 0 ≤ x5_2
                   ·rw [if_pos c169] at H
                    have c169b0 := eq_true c169
                    have c169b1 : decide (0 ≤ x5_2) = true := decide_eq_true c169
                    clear c169
                    by_cases c170 : x5_2 ≤ (t307.length : Int)
                    ·rw [if_pos c170] at H
                     have c170b0 := eq_true c170
                     have c170b1 : decide (x5_2 ≤ (t307.length : Int)) = true := decide_eq_true c170
                     clear c170
                     obtain ⟨y332, hy332⟩ : ∃ y_ : List (S38), y_ = (t307.take (x5_2 : Int).toNat) := ⟨_, rfl⟩
                     replace H : ((variorumref05_Same.f kj42 t326 y332).bind fun t336 => (if t336 = true then (variorumlaw05_LexerPlaces.l0 kj42 a0 t307 (wrap64 (x5_2 + 1))) else (none))) = some r := by first | (rw [hy332]; with_reducible exact H) | (have H2_ := (Option.bind_some _ _).symm.trans H; rw [hy332]; with_reducible exact H2_) | (have H2_ := (Option.bind_some _ _).symm.trans H; with_reducible exact H2_) | with_reducible exact H | (rw [hy332]; exact H) | exact H
                     have Ny332 := Aside0.mk hy332
                     clear hy332
                     replace H := Option.bind_eq_some_iff.mp H
                     obtain ⟨t336, A1710, H⟩ := H
                     replace H : (if t336 = true then (variorumlaw05_LexerPlaces.l0 kj42 a0 t307 (wrap64 (x5_2 + 1))) else (none)) = some r := H
                     have A171 := Aside0.mk A1710
                     clear A1710
                     by_cases c172 : t336 = true
                     ·subst c172
                      have H1 : (variorumlaw05_LexerPlaces.l0 kj42 a0 t307 (wrap64 (x5_2 + 1))) = some r := by rw [if_pos rfl] at H; exact H
                      clear H
                      have H := H1
                      clear H1
                      have H' := Aside0.mk H
                      clear H
                      have hnb173 := NB316_312.out
                      have hnc173 := NB312_316.out
                      have hcz174_0 : wc.cell? ⟨gb316, 0, none⟩ = some (.int .i64 ((rd_T38 t307 x5_2).f0)) := (blk_cell BK316.out 0).trans rfl
                      have hcz174_1 : wc.cell? ⟨gb316, 1, none⟩ = some (.string ((rd_T38 t307 x5_2).f1)) := (blk_cell BK316.out 1).trans rfl
                      have hcz174_2 : wc.cell? ⟨gb316, 2, none⟩ = some (.int .i64 ((rd_T38 t307 x5_2).f2)) := (blk_cell BK316.out 2).trans rfl
                      have hfz174_0 := blk_frozen BK316.out 0
                      have hfz174_1 := blk_frozen BK316.out 1
                      have hfz174_2 := blk_frozen BK316.out 2
                      go_wp2_with (first | (go_at_call 10; (with_reducible refine (lexer_Lex.calls kj42 (a0.extract 0 (((rd_T38 t307 x5_2).f2) : Int).toNat) t326 t329 t330 _ (by first | exact HT.out | exact Utf8Tabs_below HT.out (by repeat (first | (with_reducible first | exact HB.out | apply below_alloc | apply pw_below_drewN | apply below_drew1 | refine below_set ?_ GE312.out | refine below_set ?_ GE316.out | refine below_set ?_ GE331.out) | exact HB.out | exact Below.refl _ _))) A167.out).mono ?_); rintro e w175 ⟨v327, rfl, ho0, hb⟩; have n0_ := Aside0.mk (Kd.R_elder' (by (with_reducible repeat (first | apply Kd.R_alloc | apply Kd.R_drewN | apply Kd.R_drew)); exact HO_3.out) (Kd.R_base ho0) hb); have n1_ := Aside0.mk (Kd.R_lower (Kd.R_newB (Kd.R_new' ho0 (Kd.R_lt (by (with_reducible repeat (first | apply Kd.R_alloc | apply Kd.R_drewN | apply Kd.R_drew)); exact HO_3.out))) (g := gb316) (o := .cells #[.int .i64 ((rd_T38 t307 x5_2).f0), .string ((rd_T38 t307 x5_2).f1), .int .i64 ((rd_T38 t307 x5_2).f2)] 38 (0, 0)) (by (with_reducible repeat (first | refine blk_drewN ?_ _ | refine blk_drew ?_ | refine blk_alloc ?_ _)); exact BK316.out)) (below_size (by repeat (first | (with_reducible first | exact HB.out | apply below_alloc | apply pw_below_drewN | apply below_drew1 | refine below_set ?_ GE312.out | refine below_set ?_ GE316.out) | exact HB.out)))); have n2_ := Aside0.mk (blk_below (g := gb312) (o := .cells #[.int .i64 t310, .int .i64 t311] 25 (0, 0)) (by (with_reducible repeat (first | refine blk_drewN ?_ _ | refine blk_drew ?_ | refine blk_alloc ?_ _)); exact BK312.out) hb); have n3_ := Aside0.mk (blk_below (g := gb316) (o := .cells #[.int .i64 ((rd_T38 t307 x5_2).f0), .string ((rd_T38 t307 x5_2).f1), .int .i64 ((rd_T38 t307 x5_2).f2)] 38 (0, 0)) (by (with_reducible repeat (first | refine blk_drewN ?_ _ | refine blk_drew ?_ | refine blk_alloc ?_ _)); exact BK316.out) hb); have n4_ := Aside0.mk (below_step (by repeat (first | (with_reducible first | exact HB.out | apply below_alloc | apply pw_below_drewN | apply below_drew1 | refine below_set ?_ GE312.out | refine below_set ?_ GE316.out) | exact HB.out)) hb); clear HO_3; clear BK312; clear BK316; clear HB; have HO_3 := n0_; have HO328 := n1_; have BK312 := n2_; have BK316 := n3_; have HB := n4_; clear n0_ n1_ n2_ n3_ n4_; (try clear hb); (try clear hb2); (try clear hk); (try clear hi); (try clear ho0)) | ((with_reducible refine gate_dst (N := 9) rfl ?_); (try (refine gate_guard (by rfl) ?_; dsimp only)); refine box_event ?hg (N := 9) ?hd (cs := #[.int .i64 0, .int .i64 0]) (t := 25) ?hr ?_; (case hd => rfl); (case hg => rfl); (case hr => first | (go_simp; done) | (go_simp; rfl)); intro gb331 hg w176 hbox hb; have n0_ := Aside0.mk (Kd.R_below (by (with_reducible repeat (first | apply Kd.R_alloc | apply Kd.R_drewN | apply Kd.R_drew)); exact HO_3.out) hb); have n1_ := Aside0.mk (Kd.R_below (by (with_reducible repeat (first | apply Kd.R_alloc | apply Kd.R_drewN | apply Kd.R_drew)); exact HO328.out) hb); have n2_ := Aside0.mk (blk_below (g := gb312) (o := .cells #[.int .i64 t310, .int .i64 t311] 25 (0, 0)) (by (with_reducible repeat (first | refine blk_drewN ?_ _ | refine blk_drew ?_ | refine blk_alloc ?_ _)); exact BK312.out) hb); have n3_ := Aside0.mk (blk_below (g := gb316) (o := .cells #[.int .i64 ((rd_T38 t307 x5_2).f0), .string ((rd_T38 t307 x5_2).f1), .int .i64 ((rd_T38 t307 x5_2).f2)] 38 (0, 0)) (by (with_reducible repeat (first | refine blk_drewN ?_ _ | refine blk_drew ?_ | refine blk_alloc ?_ _)); exact BK316.out) hb); have n4_ := Aside0.mk (below_step (by repeat (first | (with_reducible first | exact HB.out | apply below_alloc | apply pw_below_drewN | apply below_drew1 | refine below_set ?_ GE312.out | refine below_set ?_ GE316.out) | exact HB.out)) hb); have n5_ := Aside0.mk (hbox); have n6_ := Aside0.mk ((by rw [hg]; exact (below_size (by repeat (first | (with_reducible first | exact HB.out | apply below_alloc | apply pw_below_drewN | apply below_drew1 | refine below_set ?_ GE312.out | refine below_set ?_ GE316.out) | exact HB.out))) : w.heap.size ≤ gb331)); have n7_ := Aside0.mk ((by rw [hg]; exact (below_size (by repeat (first | (with_reducible first | exact HB.out | apply below_alloc | apply pw_below_drewN | apply below_drew1 | refine below_set ?_ GE312.out | refine below_set ?_ GE316.out) | exact HB.out))) : w.heap.size ≤ gb331)); have n8_ := Aside0.mk ((by rw [hg]; exact Nat.ne_of_lt (blk_lt (g := gb312) (o := .cells #[.int .i64 t310, .int .i64 t311] 25 (0, 0)) (by (with_reducible repeat (first | refine blk_drewN ?_ _ | refine blk_drew ?_ | refine blk_alloc ?_ _)); exact BK312.out)) : gb312 ≠ gb331)); have n9_ := Aside0.mk ((by rw [hg]; exact Nat.ne_of_gt (blk_lt (g := gb312) (o := .cells #[.int .i64 t310, .int .i64 t311] 25 (0, 0)) (by (with_reducible repeat (first | refine blk_drewN ?_ _ | refine blk_drew ?_ | refine blk_alloc ?_ _)); exact BK312.out)) : gb331 ≠ gb312)); have n10_ := Aside0.mk ((by rw [hg]; exact Nat.ne_of_lt (blk_lt (g := gb316) (o := .cells #[.int .i64 ((rd_T38 t307 x5_2).f0), .string ((rd_T38 t307 x5_2).f1), .int .i64 ((rd_T38 t307 x5_2).f2)] 38 (0, 0)) (by (with_reducible repeat (first | refine blk_drewN ?_ _ | refine blk_drew ?_ | refine blk_alloc ?_ _)); exact BK316.out)) : gb316 ≠ gb331)); have n11_ := Aside0.mk ((by rw [hg]; exact Nat.ne_of_gt (blk_lt (g := gb316) (o := .cells #[.int .i64 ((rd_T38 t307 x5_2).f0), .string ((rd_T38 t307 x5_2).f1), .int .i64 ((rd_T38 t307 x5_2).f2)] 38 (0, 0)) (by (with_reducible repeat (first | refine blk_drewN ?_ _ | refine blk_drew ?_ | refine blk_alloc ?_ _)); exact BK316.out)) : gb331 ≠ gb316)); clear HO_3; clear HO328; clear BK312; clear BK316; clear HB; have HO_3 := n0_; have HO328 := n1_; have BK312 := n2_; have BK316 := n3_; have HB := n4_; have BK331 := n5_; have GW331 := n6_; have GE331 := n7_; have NB312_331 := n8_; have NB331_312 := n9_; have NB316_331 := n10_; have NB331_316 := n11_; clear n0_ n1_ n2_ n3_ n4_ n5_ n6_ n7_ n8_ n9_ n10_ n11_; clear hb hbox hg; have hnb177 := NB331_312.out; have hnc177 := NB312_331.out; have hnb178 := NB331_316.out; have hnc178 := NB316_331.out; have hcz179_0 : w176.cell? ⟨gb331, 0, none⟩ = some (.int .i64 0) := (blk_cell BK331.out 0).trans rfl; have hcz179_1 : w176.cell? ⟨gb331, 1, none⟩ = some (.int .i64 0) := (blk_cell BK331.out 1).trans rfl; have hfz179_0 := blk_frozen BK331.out 0; have hfz179_1 := blk_frozen BK331.out 1) | ((with_reducible refine gate_store (t := 25) (p := 9) rfl ?_); (try (rw [drewN_self w176]; generalize hq_ : World.drewN w176 _ = w176; have n0_ := Aside0.mk (Kd.R_at hq_ HO_3.out); have n1_ := Aside0.mk (Kd.R_at hq_ HO328.out); have n2_ := Aside0.mk (blk_at hq_ BK312.out); have n3_ := Aside0.mk (blk_at hq_ BK316.out); have n4_ := Aside0.mk (blk_at hq_ BK331.out); have n5_ := Aside0.mk (below_at hq_ HB.out); clear hq_ HO_3 HO328 BK312 BK316 BK331 HB; have HO_3 := n0_; have HO328 := n1_; have BK312 := n2_; have BK316 := n3_; have BK331 := n4_; have HB := n5_; clear n0_ n1_ n2_ n3_ n4_ n5_)); refine store_event (t := 25) (p := 9) (v := ?vo_w180) (w1 := ((w176.setCell ⟨gb331, 0, none⟩ (.int .i64 t329)).setCell ⟨gb331, 1, none⟩ (.int .i64 t330))) ?hg ?ho ?hn ?hr ?_; (case ho => rfl); (case hg => rfl); (case hn => rfl); (case hr => first | (go_simp; done) | (go_simp; rfl)); intro w180 hw; have n0_ : Aside0 (Kd.R k38 38 w180 w.heap.size (fun k_ => some k_ ≠ (v327 : Value).ownBlock ∧ k_ ≠ gb316) (.slice (some ad315) t307.length co21) t307) := ⟨(by rw [hw]; exact (by (with_reducible repeat (first | apply Kd.R_alloc | apply Kd.R_drewN | apply Kd.R_drew)); exact Kd.R_mono (Kd.R_far (p := ⟨gb331, 1, none⟩) (Kd.R_far (p := ⟨gb331, 0, none⟩) (Kd.R_types HO_3.out BK331.out (by decide)) (fun _ hk => hk.2) (.int .i64 t329)) (fun _ hk => hk.2) (.int .i64 t330)) (fun _ hk => ⟨hk.1.2, hk.1.1⟩)))⟩; have n1_ : Aside0 (Kd.R k38 38 w180 w.heap.size (fun k_ => some k_ ≠ (.slice (some ad315) t307.length co21 : Value).ownBlock ∧ k_ ≠ gb316) v327 t326) := ⟨(by rw [hw]; exact (by (with_reducible repeat (first | apply Kd.R_alloc | apply Kd.R_drewN | apply Kd.R_drew)); exact Kd.R_mono (Kd.R_far (p := ⟨gb331, 1, none⟩) (Kd.R_far (p := ⟨gb331, 0, none⟩) (Kd.R_types HO328.out BK331.out (by decide)) (fun _ hk => hk.2) (.int .i64 t329)) (fun _ hk => hk.2) (.int .i64 t330)) (fun _ hk => ⟨hk.1.1.2, hk.1.2⟩)))⟩; have n2_ : Aside0 (w180.heap[gb312]? = some (.cells #[.int .i64 t310, .int .i64 t311] 25 (0, 0))) := ⟨(by rw [hw]; exact (by (with_reducible repeat (first | refine blk_drewN ?_ _ | refine blk_drew ?_ | refine blk_alloc ?_ _)); refine blk_far ?_ NB312_331.out _; (with_reducible repeat (first | refine blk_drewN ?_ _ | refine blk_drew ?_ | refine blk_alloc ?_ _)); refine blk_far ?_ NB312_331.out _; (with_reducible repeat (first | refine blk_drewN ?_ _ | refine blk_drew ?_ | refine blk_alloc ?_ _)); exact BK312.out))⟩; have n3_ : Aside0 (w180.heap[gb316]? = some (.cells #[.int .i64 ((rd_T38 t307 x5_2).f0), .string ((rd_T38 t307 x5_2).f1), .int .i64 ((rd_T38 t307 x5_2).f2)] 38 (0, 0))) := ⟨(by rw [hw]; exact (by (with_reducible repeat (first | refine blk_drewN ?_ _ | refine blk_drew ?_ | refine blk_alloc ?_ _)); refine blk_far ?_ NB316_331.out _; (with_reducible repeat (first | refine blk_drewN ?_ _ | refine blk_drew ?_ | refine blk_alloc ?_ _)); refine blk_far ?_ NB316_331.out _; (with_reducible repeat (first | refine blk_drewN ?_ _ | refine blk_drew ?_ | refine blk_alloc ?_ _)); exact BK316.out))⟩; have n4_ : Aside0 (w180.heap[gb331]? = some (.cells #[.int .i64 t329, .int .i64 t330] 25 (0, 0))) := ⟨(by rw [hw]; exact (by (with_reducible repeat (first | refine blk_drewN ?_ _ | refine blk_drew ?_ | refine blk_alloc ?_ _)); refine blk_put (cs := #[.int .i64 t329, .int .i64 0]) ?_ 1 _ rfl; (with_reducible repeat (first | refine blk_drewN ?_ _ | refine blk_drew ?_ | refine blk_alloc ?_ _)); refine blk_put (cs := #[.int .i64 0, .int .i64 0]) ?_ 0 _ rfl; (with_reducible repeat (first | refine blk_drewN ?_ _ | refine blk_drew ?_ | refine blk_alloc ?_ _)); exact BK331.out))⟩; have n5_ : Aside0 (Below w.heap.size w w180) := ⟨(by rw [hw]; exact (by repeat (first | (with_reducible first | exact HB.out | apply below_alloc | apply pw_below_drewN | apply below_drew1 | refine below_set ?_ GE312.out | refine below_set ?_ GE316.out | refine below_set ?_ GE331.out) | exact HB.out)))⟩; clear hw; clear HO_3; clear HO328; clear BK312; clear BK316; clear BK331; clear HB; have HO_3 := n0_; have HO328 := n1_; have BK312 := n2_; have BK316 := n3_; have BK331 := n4_; have HB := n5_; clear n0_ n1_ n2_ n3_ n4_ n5_; have hcz181_0 : w180.cell? ⟨gb331, 0, none⟩ = some (.int .i64 t329) := (blk_cell BK331.out 0).trans rfl; have hcz181_1 : w180.cell? ⟨gb331, 1, none⟩ = some (.int .i64 t330) := (blk_cell BK331.out 1).trans rfl; have hfz181_0 := blk_frozen BK331.out 0; have hfz181_1 := blk_frozen BK331.out 1; have q182 : (x5_2 : Int) ≤ ((t307.length : Int) : Int) := of_decide_eq_true (by first | (with_reducible assumption) | assumption); obtain ⟨i0182, hi0182, _, hsz182, _⟩ := info_parts info38; have hroom182 : t307.length ≤ co21 := (Kd.R_reads' HO_3.out).2.1; have hC182 : Kd.C k38 _ (some ad315) t307.length t307 := (Kd.R_reads' HO_3.out).2.2; have hcut182 := cut_to (P := Tryz.prog) 22 38 .i64 Tryz.underlying22 hi0182 (some ad315) t307.length co21 x5_2 (of_decide_eq_true (by first | (with_reducible assumption) | assumption)) q182 hroom182; have hr182 := Kd.C_take (m := (x5_2 : Int).toNat) hC182 (by omega); have hy182 : y332.length = (x5_2 : Int).toNat := (by rw [Ny332.out, List.length_take]; omega); rw [← Ny332.out] at hr182; rw [← hy182] at hcut182; have HR335 := Aside0.mk hr182; have HC335 := Aside0.mk (show y332.length ≤ co21 from by omega); clear hr182 hC182 hroom182 hi0182 hsz182; have KY182 := Aside0.mk hy182; clear hy182; have KL182 := Aside0.mk (show (x5_2 : Int).toNat ≤ t307.length from by omega); replace q182 := eq_true q182; obtain ⟨Ao183, co183, eo183⟩ := Kd.R_slice HO328.out; subst eo183) | (go_at_call 13; (with_reducible refine (variorumref05_Same.calls kj42 _ _ t326 _ _ y332 true _ ?side1 ?side2 ?side3 ?side4 A171.out).mono ?_); (case side1 => repeat (first | exact (Kd.R_reads' HO328.out).2.2 | (with_reducible refine Kd.C_alloc ?_ _) | (with_reducible refine Kd.C_drewN ?_ _) | (with_reducible refine Kd.C_drew ?_))); (case side2 => exact (Kd.R_reads' HO328.out).2.1); (case side3 => repeat (first | exact (by repeat (first | (with_reducible exact HR335.out) | (with_reducible refine Kd.C_alloc ?_ _) | (with_reducible refine Kd.C_drewN ?_ _) | (with_reducible refine Kd.C_drew ?_) | exact HR335.out)) | (with_reducible refine Kd.C_alloc ?_ _) | (with_reducible refine Kd.C_drewN ?_ _) | (with_reducible refine Kd.C_drew ?_))); (case side4 => exact HC335.out); rintro e w' ⟨rfl, ⟨nd, rfl⟩⟩; (try first | exact ⟨rfl, _, World.drewN_drewN _ _ _⟩ | exact ⟨rfl, _, Eq.trans (World.drewN_drewN _ _ _) (congrArg (World.drewN _) (Nat.add_assoc _ _ _))⟩)))
                      repeat (go_quiet (first | (go_at_call 10; (with_reducible refine (lexer_Lex.calls kj42 (a0.extract 0 (((rd_T38 t307 x5_2).f2) : Int).toNat) t326 t329 t330 _ (by first | exact HT.out | exact Utf8Tabs_below HT.out (by repeat (first | (with_reducible first | exact HB.out | apply below_alloc | apply pw_below_drewN | apply below_drew1 | refine below_set ?_ GE312.out | refine below_set ?_ GE316.out | refine below_set ?_ GE331.out) | exact HB.out | exact Below.refl _ _))) A167.out).mono ?_); rintro e w175 ⟨v327, rfl, ho0, hb⟩; have n0_ := Aside0.mk (Kd.R_elder' (by (with_reducible repeat (first | apply Kd.R_alloc | apply Kd.R_drewN | apply Kd.R_drew)); exact HO_3.out) (Kd.R_base ho0) hb); have n1_ := Aside0.mk (Kd.R_lower (Kd.R_newB (Kd.R_new' ho0 (Kd.R_lt (by (with_reducible repeat (first | apply Kd.R_alloc | apply Kd.R_drewN | apply Kd.R_drew)); exact HO_3.out))) (g := gb316) (o := .cells #[.int .i64 ((rd_T38 t307 x5_2).f0), .string ((rd_T38 t307 x5_2).f1), .int .i64 ((rd_T38 t307 x5_2).f2)] 38 (0, 0)) (by (with_reducible repeat (first | refine blk_drewN ?_ _ | refine blk_drew ?_ | refine blk_alloc ?_ _)); exact BK316.out)) (below_size (by repeat (first | (with_reducible first | exact HB.out | apply below_alloc | apply pw_below_drewN | apply below_drew1 | refine below_set ?_ GE312.out | refine below_set ?_ GE316.out) | exact HB.out)))); have n2_ := Aside0.mk (blk_below (g := gb312) (o := .cells #[.int .i64 t310, .int .i64 t311] 25 (0, 0)) (by (with_reducible repeat (first | refine blk_drewN ?_ _ | refine blk_drew ?_ | refine blk_alloc ?_ _)); exact BK312.out) hb); have n3_ := Aside0.mk (blk_below (g := gb316) (o := .cells #[.int .i64 ((rd_T38 t307 x5_2).f0), .string ((rd_T38 t307 x5_2).f1), .int .i64 ((rd_T38 t307 x5_2).f2)] 38 (0, 0)) (by (with_reducible repeat (first | refine blk_drewN ?_ _ | refine blk_drew ?_ | refine blk_alloc ?_ _)); exact BK316.out) hb); have n4_ := Aside0.mk (below_step (by repeat (first | (with_reducible first | exact HB.out | apply below_alloc | apply pw_below_drewN | apply below_drew1 | refine below_set ?_ GE312.out | refine below_set ?_ GE316.out) | exact HB.out)) hb); clear HO_3; clear BK312; clear BK316; clear HB; have HO_3 := n0_; have HO328 := n1_; have BK312 := n2_; have BK316 := n3_; have HB := n4_; clear n0_ n1_ n2_ n3_ n4_; (try clear hb); (try clear hb2); (try clear hk); (try clear hi); (try clear ho0)) | ((with_reducible refine gate_dst (N := 9) rfl ?_); (try (refine gate_guard (by rfl) ?_; dsimp only)); refine box_event ?hg (N := 9) ?hd (cs := #[.int .i64 0, .int .i64 0]) (t := 25) ?hr ?_; (case hd => rfl); (case hg => rfl); (case hr => first | (go_simp; done) | (go_simp; rfl)); intro gb331 hg w176 hbox hb; have n0_ := Aside0.mk (Kd.R_below (by (with_reducible repeat (first | apply Kd.R_alloc | apply Kd.R_drewN | apply Kd.R_drew)); exact HO_3.out) hb); have n1_ := Aside0.mk (Kd.R_below (by (with_reducible repeat (first | apply Kd.R_alloc | apply Kd.R_drewN | apply Kd.R_drew)); exact HO328.out) hb); have n2_ := Aside0.mk (blk_below (g := gb312) (o := .cells #[.int .i64 t310, .int .i64 t311] 25 (0, 0)) (by (with_reducible repeat (first | refine blk_drewN ?_ _ | refine blk_drew ?_ | refine blk_alloc ?_ _)); exact BK312.out) hb); have n3_ := Aside0.mk (blk_below (g := gb316) (o := .cells #[.int .i64 ((rd_T38 t307 x5_2).f0), .string ((rd_T38 t307 x5_2).f1), .int .i64 ((rd_T38 t307 x5_2).f2)] 38 (0, 0)) (by (with_reducible repeat (first | refine blk_drewN ?_ _ | refine blk_drew ?_ | refine blk_alloc ?_ _)); exact BK316.out) hb); have n4_ := Aside0.mk (below_step (by repeat (first | (with_reducible first | exact HB.out | apply below_alloc | apply pw_below_drewN | apply below_drew1 | refine below_set ?_ GE312.out | refine below_set ?_ GE316.out) | exact HB.out)) hb); have n5_ := Aside0.mk (hbox); have n6_ := Aside0.mk ((by rw [hg]; exact (below_size (by repeat (first | (with_reducible first | exact HB.out | apply below_alloc | apply pw_below_drewN | apply below_drew1 | refine below_set ?_ GE312.out | refine below_set ?_ GE316.out) | exact HB.out))) : w.heap.size ≤ gb331)); have n7_ := Aside0.mk ((by rw [hg]; exact (below_size (by repeat (first | (with_reducible first | exact HB.out | apply below_alloc | apply pw_below_drewN | apply below_drew1 | refine below_set ?_ GE312.out | refine below_set ?_ GE316.out) | exact HB.out))) : w.heap.size ≤ gb331)); have n8_ := Aside0.mk ((by rw [hg]; exact Nat.ne_of_lt (blk_lt (g := gb312) (o := .cells #[.int .i64 t310, .int .i64 t311] 25 (0, 0)) (by (with_reducible repeat (first | refine blk_drewN ?_ _ | refine blk_drew ?_ | refine blk_alloc ?_ _)); exact BK312.out)) : gb312 ≠ gb331)); have n9_ := Aside0.mk ((by rw [hg]; exact Nat.ne_of_gt (blk_lt (g := gb312) (o := .cells #[.int .i64 t310, .int .i64 t311] 25 (0, 0)) (by (with_reducible repeat (first | refine blk_drewN ?_ _ | refine blk_drew ?_ | refine blk_alloc ?_ _)); exact BK312.out)) : gb331 ≠ gb312)); have n10_ := Aside0.mk ((by rw [hg]; exact Nat.ne_of_lt (blk_lt (g := gb316) (o := .cells #[.int .i64 ((rd_T38 t307 x5_2).f0), .string ((rd_T38 t307 x5_2).f1), .int .i64 ((rd_T38 t307 x5_2).f2)] 38 (0, 0)) (by (with_reducible repeat (first | refine blk_drewN ?_ _ | refine blk_drew ?_ | refine blk_alloc ?_ _)); exact BK316.out)) : gb316 ≠ gb331)); have n11_ := Aside0.mk ((by rw [hg]; exact Nat.ne_of_gt (blk_lt (g := gb316) (o := .cells #[.int .i64 ((rd_T38 t307 x5_2).f0), .string ((rd_T38 t307 x5_2).f1), .int .i64 ((rd_T38 t307 x5_2).f2)] 38 (0, 0)) (by (with_reducible repeat (first | refine blk_drewN ?_ _ | refine blk_drew ?_ | refine blk_alloc ?_ _)); exact BK316.out)) : gb331 ≠ gb316)); clear HO_3; clear HO328; clear BK312; clear BK316; clear HB; have HO_3 := n0_; have HO328 := n1_; have BK312 := n2_; have BK316 := n3_; have HB := n4_; have BK331 := n5_; have GW331 := n6_; have GE331 := n7_; have NB312_331 := n8_; have NB331_312 := n9_; have NB316_331 := n10_; have NB331_316 := n11_; clear n0_ n1_ n2_ n3_ n4_ n5_ n6_ n7_ n8_ n9_ n10_ n11_; clear hb hbox hg; have hnb177 := NB331_312.out; have hnc177 := NB312_331.out; have hnb178 := NB331_316.out; have hnc178 := NB316_331.out; have hcz179_0 : w176.cell? ⟨gb331, 0, none⟩ = some (.int .i64 0) := (blk_cell BK331.out 0).trans rfl; have hcz179_1 : w176.cell? ⟨gb331, 1, none⟩ = some (.int .i64 0) := (blk_cell BK331.out 1).trans rfl; have hfz179_0 := blk_frozen BK331.out 0; have hfz179_1 := blk_frozen BK331.out 1) | ((with_reducible refine gate_store (t := 25) (p := 9) rfl ?_); (try (rw [drewN_self w176]; generalize hq_ : World.drewN w176 _ = w176; have n0_ := Aside0.mk (Kd.R_at hq_ HO_3.out); have n1_ := Aside0.mk (Kd.R_at hq_ HO328.out); have n2_ := Aside0.mk (blk_at hq_ BK312.out); have n3_ := Aside0.mk (blk_at hq_ BK316.out); have n4_ := Aside0.mk (blk_at hq_ BK331.out); have n5_ := Aside0.mk (below_at hq_ HB.out); clear hq_ HO_3 HO328 BK312 BK316 BK331 HB; have HO_3 := n0_; have HO328 := n1_; have BK312 := n2_; have BK316 := n3_; have BK331 := n4_; have HB := n5_; clear n0_ n1_ n2_ n3_ n4_ n5_)); refine store_event (t := 25) (p := 9) (v := ?vo_w180) (w1 := ((w176.setCell ⟨gb331, 0, none⟩ (.int .i64 t329)).setCell ⟨gb331, 1, none⟩ (.int .i64 t330))) ?hg ?ho ?hn ?hr ?_; (case ho => rfl); (case hg => rfl); (case hn => rfl); (case hr => first | (go_simp; done) | (go_simp; rfl)); intro w180 hw; have n0_ : Aside0 (Kd.R k38 38 w180 w.heap.size (fun k_ => some k_ ≠ (v327 : Value).ownBlock ∧ k_ ≠ gb316) (.slice (some ad315) t307.length co21) t307) := ⟨(by rw [hw]; exact (by (with_reducible repeat (first | apply Kd.R_alloc | apply Kd.R_drewN | apply Kd.R_drew)); exact Kd.R_mono (Kd.R_far (p := ⟨gb331, 1, none⟩) (Kd.R_far (p := ⟨gb331, 0, none⟩) (Kd.R_types HO_3.out BK331.out (by decide)) (fun _ hk => hk.2) (.int .i64 t329)) (fun _ hk => hk.2) (.int .i64 t330)) (fun _ hk => ⟨hk.1.2, hk.1.1⟩)))⟩; have n1_ : Aside0 (Kd.R k38 38 w180 w.heap.size (fun k_ => some k_ ≠ (.slice (some ad315) t307.length co21 : Value).ownBlock ∧ k_ ≠ gb316) v327 t326) := ⟨(by rw [hw]; exact (by (with_reducible repeat (first | apply Kd.R_alloc | apply Kd.R_drewN | apply Kd.R_drew)); exact Kd.R_mono (Kd.R_far (p := ⟨gb331, 1, none⟩) (Kd.R_far (p := ⟨gb331, 0, none⟩) (Kd.R_types HO328.out BK331.out (by decide)) (fun _ hk => hk.2) (.int .i64 t329)) (fun _ hk => hk.2) (.int .i64 t330)) (fun _ hk => ⟨hk.1.1.2, hk.1.2⟩)))⟩; have n2_ : Aside0 (w180.heap[gb312]? = some (.cells #[.int .i64 t310, .int .i64 t311] 25 (0, 0))) := ⟨(by rw [hw]; exact (by (with_reducible repeat (first | refine blk_drewN ?_ _ | refine blk_drew ?_ | refine blk_alloc ?_ _)); refine blk_far ?_ NB312_331.out _; (with_reducible repeat (first | refine blk_drewN ?_ _ | refine blk_drew ?_ | refine blk_alloc ?_ _)); refine blk_far ?_ NB312_331.out _; (with_reducible repeat (first | refine blk_drewN ?_ _ | refine blk_drew ?_ | refine blk_alloc ?_ _)); exact BK312.out))⟩; have n3_ : Aside0 (w180.heap[gb316]? = some (.cells #[.int .i64 ((rd_T38 t307 x5_2).f0), .string ((rd_T38 t307 x5_2).f1), .int .i64 ((rd_T38 t307 x5_2).f2)] 38 (0, 0))) := ⟨(by rw [hw]; exact (by (with_reducible repeat (first | refine blk_drewN ?_ _ | refine blk_drew ?_ | refine blk_alloc ?_ _)); refine blk_far ?_ NB316_331.out _; (with_reducible repeat (first | refine blk_drewN ?_ _ | refine blk_drew ?_ | refine blk_alloc ?_ _)); refine blk_far ?_ NB316_331.out _; (with_reducible repeat (first | refine blk_drewN ?_ _ | refine blk_drew ?_ | refine blk_alloc ?_ _)); exact BK316.out))⟩; have n4_ : Aside0 (w180.heap[gb331]? = some (.cells #[.int .i64 t329, .int .i64 t330] 25 (0, 0))) := ⟨(by rw [hw]; exact (by (with_reducible repeat (first | refine blk_drewN ?_ _ | refine blk_drew ?_ | refine blk_alloc ?_ _)); refine blk_put (cs := #[.int .i64 t329, .int .i64 0]) ?_ 1 _ rfl; (with_reducible repeat (first | refine blk_drewN ?_ _ | refine blk_drew ?_ | refine blk_alloc ?_ _)); refine blk_put (cs := #[.int .i64 0, .int .i64 0]) ?_ 0 _ rfl; (with_reducible repeat (first | refine blk_drewN ?_ _ | refine blk_drew ?_ | refine blk_alloc ?_ _)); exact BK331.out))⟩; have n5_ : Aside0 (Below w.heap.size w w180) := ⟨(by rw [hw]; exact (by repeat (first | (with_reducible first | exact HB.out | apply below_alloc | apply pw_below_drewN | apply below_drew1 | refine below_set ?_ GE312.out | refine below_set ?_ GE316.out | refine below_set ?_ GE331.out) | exact HB.out)))⟩; clear hw; clear HO_3; clear HO328; clear BK312; clear BK316; clear BK331; clear HB; have HO_3 := n0_; have HO328 := n1_; have BK312 := n2_; have BK316 := n3_; have BK331 := n4_; have HB := n5_; clear n0_ n1_ n2_ n3_ n4_ n5_; have hcz181_0 : w180.cell? ⟨gb331, 0, none⟩ = some (.int .i64 t329) := (blk_cell BK331.out 0).trans rfl; have hcz181_1 : w180.cell? ⟨gb331, 1, none⟩ = some (.int .i64 t330) := (blk_cell BK331.out 1).trans rfl; have hfz181_0 := blk_frozen BK331.out 0; have hfz181_1 := blk_frozen BK331.out 1; have q182 : (x5_2 : Int) ≤ ((t307.length : Int) : Int) := of_decide_eq_true (by first | (with_reducible assumption) | assumption); obtain ⟨i0182, hi0182, _, hsz182, _⟩ := info_parts info38; have hroom182 : t307.length ≤ co21 := (Kd.R_reads' HO_3.out).2.1; have hC182 : Kd.C k38 _ (some ad315) t307.length t307 := (Kd.R_reads' HO_3.out).2.2; have hcut182 := cut_to (P := Tryz.prog) 22 38 .i64 Tryz.underlying22 hi0182 (some ad315) t307.length co21 x5_2 (of_decide_eq_true (by first | (with_reducible assumption) | assumption)) q182 hroom182; have hr182 := Kd.C_take (m := (x5_2 : Int).toNat) hC182 (by omega); have hy182 : y332.length = (x5_2 : Int).toNat := (by rw [Ny332.out, List.length_take]; omega); rw [← Ny332.out] at hr182; rw [← hy182] at hcut182; have HR335 := Aside0.mk hr182; have HC335 := Aside0.mk (show y332.length ≤ co21 from by omega); clear hr182 hC182 hroom182 hi0182 hsz182; have KY182 := Aside0.mk hy182; clear hy182; have KL182 := Aside0.mk (show (x5_2 : Int).toNat ≤ t307.length from by omega); replace q182 := eq_true q182; obtain ⟨Ao183, co183, eo183⟩ := Kd.R_slice HO328.out; subst eo183) | (go_at_call 13; (with_reducible refine (variorumref05_Same.calls kj42 _ _ t326 _ _ y332 true _ ?side1 ?side2 ?side3 ?side4 A171.out).mono ?_); (case side1 => repeat (first | exact (Kd.R_reads' HO328.out).2.2 | (with_reducible refine Kd.C_alloc ?_ _) | (with_reducible refine Kd.C_drewN ?_ _) | (with_reducible refine Kd.C_drew ?_))); (case side2 => exact (Kd.R_reads' HO328.out).2.1); (case side3 => repeat (first | exact (by repeat (first | (with_reducible exact HR335.out) | (with_reducible refine Kd.C_alloc ?_ _) | (with_reducible refine Kd.C_drewN ?_ _) | (with_reducible refine Kd.C_drew ?_) | exact HR335.out)) | (with_reducible refine Kd.C_alloc ?_ _) | (with_reducible refine Kd.C_drewN ?_ _) | (with_reducible refine Kd.C_drew ?_))); (case side4 => exact HC335.out); rintro e w' ⟨rfl, ⟨nd, rfl⟩⟩; (try first | exact ⟨rfl, _, World.drewN_drewN _ _ _⟩ | exact ⟨rfl, _, Eq.trans (World.drewN_drewN _ _ _) (congrArg (World.drewN _) (Nat.add_assoc _ _ _))⟩))); try go_wp2_with (first | (go_at_call 10; (with_reducible refine (lexer_Lex.calls kj42 (a0.extract 0 (((rd_T38 t307 x5_2).f2) : Int).toNat) t326 t329 t330 _ (by first | exact HT.out | exact Utf8Tabs_below HT.out (by repeat (first | (with_reducible first | exact HB.out | apply below_alloc | apply pw_below_drewN | apply below_drew1 | refine below_set ?_ GE312.out | refine below_set ?_ GE316.out | refine below_set ?_ GE331.out) | exact HB.out | exact Below.refl _ _))) A167.out).mono ?_); rintro e w175 ⟨v327, rfl, ho0, hb⟩; have n0_ := Aside0.mk (Kd.R_elder' (by (with_reducible repeat (first | apply Kd.R_alloc | apply Kd.R_drewN | apply Kd.R_drew)); exact HO_3.out) (Kd.R_base ho0) hb); have n1_ := Aside0.mk (Kd.R_lower (Kd.R_newB (Kd.R_new' ho0 (Kd.R_lt (by (with_reducible repeat (first | apply Kd.R_alloc | apply Kd.R_drewN | apply Kd.R_drew)); exact HO_3.out))) (g := gb316) (o := .cells #[.int .i64 ((rd_T38 t307 x5_2).f0), .string ((rd_T38 t307 x5_2).f1), .int .i64 ((rd_T38 t307 x5_2).f2)] 38 (0, 0)) (by (with_reducible repeat (first | refine blk_drewN ?_ _ | refine blk_drew ?_ | refine blk_alloc ?_ _)); exact BK316.out)) (below_size (by repeat (first | (with_reducible first | exact HB.out | apply below_alloc | apply pw_below_drewN | apply below_drew1 | refine below_set ?_ GE312.out | refine below_set ?_ GE316.out) | exact HB.out)))); have n2_ := Aside0.mk (blk_below (g := gb312) (o := .cells #[.int .i64 t310, .int .i64 t311] 25 (0, 0)) (by (with_reducible repeat (first | refine blk_drewN ?_ _ | refine blk_drew ?_ | refine blk_alloc ?_ _)); exact BK312.out) hb); have n3_ := Aside0.mk (blk_below (g := gb316) (o := .cells #[.int .i64 ((rd_T38 t307 x5_2).f0), .string ((rd_T38 t307 x5_2).f1), .int .i64 ((rd_T38 t307 x5_2).f2)] 38 (0, 0)) (by (with_reducible repeat (first | refine blk_drewN ?_ _ | refine blk_drew ?_ | refine blk_alloc ?_ _)); exact BK316.out) hb); have n4_ := Aside0.mk (below_step (by repeat (first | (with_reducible first | exact HB.out | apply below_alloc | apply pw_below_drewN | apply below_drew1 | refine below_set ?_ GE312.out | refine below_set ?_ GE316.out) | exact HB.out)) hb); clear HO_3; clear BK312; clear BK316; clear HB; have HO_3 := n0_; have HO328 := n1_; have BK312 := n2_; have BK316 := n3_; have HB := n4_; clear n0_ n1_ n2_ n3_ n4_; (try clear hb); (try clear hb2); (try clear hk); (try clear hi); (try clear ho0)) | ((with_reducible refine gate_dst (N := 9) rfl ?_); (try (refine gate_guard (by rfl) ?_; dsimp only)); refine box_event ?hg (N := 9) ?hd (cs := #[.int .i64 0, .int .i64 0]) (t := 25) ?hr ?_; (case hd => rfl); (case hg => rfl); (case hr => first | (go_simp; done) | (go_simp; rfl)); intro gb331 hg w176 hbox hb; have n0_ := Aside0.mk (Kd.R_below (by (with_reducible repeat (first | apply Kd.R_alloc | apply Kd.R_drewN | apply Kd.R_drew)); exact HO_3.out) hb); have n1_ := Aside0.mk (Kd.R_below (by (with_reducible repeat (first | apply Kd.R_alloc | apply Kd.R_drewN | apply Kd.R_drew)); exact HO328.out) hb); have n2_ := Aside0.mk (blk_below (g := gb312) (o := .cells #[.int .i64 t310, .int .i64 t311] 25 (0, 0)) (by (with_reducible repeat (first | refine blk_drewN ?_ _ | refine blk_drew ?_ | refine blk_alloc ?_ _)); exact BK312.out) hb); have n3_ := Aside0.mk (blk_below (g := gb316) (o := .cells #[.int .i64 ((rd_T38 t307 x5_2).f0), .string ((rd_T38 t307 x5_2).f1), .int .i64 ((rd_T38 t307 x5_2).f2)] 38 (0, 0)) (by (with_reducible repeat (first | refine blk_drewN ?_ _ | refine blk_drew ?_ | refine blk_alloc ?_ _)); exact BK316.out) hb); have n4_ := Aside0.mk (below_step (by repeat (first | (with_reducible first | exact HB.out | apply below_alloc | apply pw_below_drewN | apply below_drew1 | refine below_set ?_ GE312.out | refine below_set ?_ GE316.out) | exact HB.out)) hb); have n5_ := Aside0.mk (hbox); have n6_ := Aside0.mk ((by rw [hg]; exact (below_size (by repeat (first | (with_reducible first | exact HB.out | apply below_alloc | apply pw_below_drewN | apply below_drew1 | refine below_set ?_ GE312.out | refine below_set ?_ GE316.out) | exact HB.out))) : w.heap.size ≤ gb331)); have n7_ := Aside0.mk ((by rw [hg]; exact (below_size (by repeat (first | (with_reducible first | exact HB.out | apply below_alloc | apply pw_below_drewN | apply below_drew1 | refine below_set ?_ GE312.out | refine below_set ?_ GE316.out) | exact HB.out))) : w.heap.size ≤ gb331)); have n8_ := Aside0.mk ((by rw [hg]; exact Nat.ne_of_lt (blk_lt (g := gb312) (o := .cells #[.int .i64 t310, .int .i64 t311] 25 (0, 0)) (by (with_reducible repeat (first | refine blk_drewN ?_ _ | refine blk_drew ?_ | refine blk_alloc ?_ _)); exact BK312.out)) : gb312 ≠ gb331)); have n9_ := Aside0.mk ((by rw [hg]; exact Nat.ne_of_gt (blk_lt (g := gb312) (o := .cells #[.int .i64 t310, .int .i64 t311] 25 (0, 0)) (by (with_reducible repeat (first | refine blk_drewN ?_ _ | refine blk_drew ?_ | refine blk_alloc ?_ _)); exact BK312.out)) : gb331 ≠ gb312)); have n10_ := Aside0.mk ((by rw [hg]; exact Nat.ne_of_lt (blk_lt (g := gb316) (o := .cells #[.int .i64 ((rd_T38 t307 x5_2).f0), .string ((rd_T38 t307 x5_2).f1), .int .i64 ((rd_T38 t307 x5_2).f2)] 38 (0, 0)) (by (with_reducible repeat (first | refine blk_drewN ?_ _ | refine blk_drew ?_ | refine blk_alloc ?_ _)); exact BK316.out)) : gb316 ≠ gb331)); have n11_ := Aside0.mk ((by rw [hg]; exact Nat.ne_of_gt (blk_lt (g := gb316) (o := .cells #[.int .i64 ((rd_T38 t307 x5_2).f0), .string ((rd_T38 t307 x5_2).f1), .int .i64 ((rd_T38 t307 x5_2).f2)] 38 (0, 0)) (by (with_reducible repeat (first | refine blk_drewN ?_ _ | refine blk_drew ?_ | refine blk_alloc ?_ _)); exact BK316.out)) : gb331 ≠ gb316)); clear HO_3; clear HO328; clear BK312; clear BK316; clear HB; have HO_3 := n0_; have HO328 := n1_; have BK312 := n2_; have BK316 := n3_; have HB := n4_; have BK331 := n5_; have GW331 := n6_; have GE331 := n7_; have NB312_331 := n8_; have NB331_312 := n9_; have NB316_331 := n10_; have NB331_316 := n11_; clear n0_ n1_ n2_ n3_ n4_ n5_ n6_ n7_ n8_ n9_ n10_ n11_; clear hb hbox hg; have hnb177 := NB331_312.out; have hnc177 := NB312_331.out; have hnb178 := NB331_316.out; have hnc178 := NB316_331.out; have hcz179_0 : w176.cell? ⟨gb331, 0, none⟩ = some (.int .i64 0) := (blk_cell BK331.out 0).trans rfl; have hcz179_1 : w176.cell? ⟨gb331, 1, none⟩ = some (.int .i64 0) := (blk_cell BK331.out 1).trans rfl; have hfz179_0 := blk_frozen BK331.out 0; have hfz179_1 := blk_frozen BK331.out 1) | ((with_reducible refine gate_store (t := 25) (p := 9) rfl ?_); (try (rw [drewN_self w176]; generalize hq_ : World.drewN w176 _ = w176; have n0_ := Aside0.mk (Kd.R_at hq_ HO_3.out); have n1_ := Aside0.mk (Kd.R_at hq_ HO328.out); have n2_ := Aside0.mk (blk_at hq_ BK312.out); have n3_ := Aside0.mk (blk_at hq_ BK316.out); have n4_ := Aside0.mk (blk_at hq_ BK331.out); have n5_ := Aside0.mk (below_at hq_ HB.out); clear hq_ HO_3 HO328 BK312 BK316 BK331 HB; have HO_3 := n0_; have HO328 := n1_; have BK312 := n2_; have BK316 := n3_; have BK331 := n4_; have HB := n5_; clear n0_ n1_ n2_ n3_ n4_ n5_)); refine store_event (t := 25) (p := 9) (v := ?vo_w180) (w1 := ((w176.setCell ⟨gb331, 0, none⟩ (.int .i64 t329)).setCell ⟨gb331, 1, none⟩ (.int .i64 t330))) ?hg ?ho ?hn ?hr ?_; (case ho => rfl); (case hg => rfl); (case hn => rfl); (case hr => first | (go_simp; done) | (go_simp; rfl)); intro w180 hw; have n0_ : Aside0 (Kd.R k38 38 w180 w.heap.size (fun k_ => some k_ ≠ (v327 : Value).ownBlock ∧ k_ ≠ gb316) (.slice (some ad315) t307.length co21) t307) := ⟨(by rw [hw]; exact (by (with_reducible repeat (first | apply Kd.R_alloc | apply Kd.R_drewN | apply Kd.R_drew)); exact Kd.R_mono (Kd.R_far (p := ⟨gb331, 1, none⟩) (Kd.R_far (p := ⟨gb331, 0, none⟩) (Kd.R_types HO_3.out BK331.out (by decide)) (fun _ hk => hk.2) (.int .i64 t329)) (fun _ hk => hk.2) (.int .i64 t330)) (fun _ hk => ⟨hk.1.2, hk.1.1⟩)))⟩; have n1_ : Aside0 (Kd.R k38 38 w180 w.heap.size (fun k_ => some k_ ≠ (.slice (some ad315) t307.length co21 : Value).ownBlock ∧ k_ ≠ gb316) v327 t326) := ⟨(by rw [hw]; exact (by (with_reducible repeat (first | apply Kd.R_alloc | apply Kd.R_drewN | apply Kd.R_drew)); exact Kd.R_mono (Kd.R_far (p := ⟨gb331, 1, none⟩) (Kd.R_far (p := ⟨gb331, 0, none⟩) (Kd.R_types HO328.out BK331.out (by decide)) (fun _ hk => hk.2) (.int .i64 t329)) (fun _ hk => hk.2) (.int .i64 t330)) (fun _ hk => ⟨hk.1.1.2, hk.1.2⟩)))⟩; have n2_ : Aside0 (w180.heap[gb312]? = some (.cells #[.int .i64 t310, .int .i64 t311] 25 (0, 0))) := ⟨(by rw [hw]; exact (by (with_reducible repeat (first | refine blk_drewN ?_ _ | refine blk_drew ?_ | refine blk_alloc ?_ _)); refine blk_far ?_ NB312_331.out _; (with_reducible repeat (first | refine blk_drewN ?_ _ | refine blk_drew ?_ | refine blk_alloc ?_ _)); refine blk_far ?_ NB312_331.out _; (with_reducible repeat (first | refine blk_drewN ?_ _ | refine blk_drew ?_ | refine blk_alloc ?_ _)); exact BK312.out))⟩; have n3_ : Aside0 (w180.heap[gb316]? = some (.cells #[.int .i64 ((rd_T38 t307 x5_2).f0), .string ((rd_T38 t307 x5_2).f1), .int .i64 ((rd_T38 t307 x5_2).f2)] 38 (0, 0))) := ⟨(by rw [hw]; exact (by (with_reducible repeat (first | refine blk_drewN ?_ _ | refine blk_drew ?_ | refine blk_alloc ?_ _)); refine blk_far ?_ NB316_331.out _; (with_reducible repeat (first | refine blk_drewN ?_ _ | refine blk_drew ?_ | refine blk_alloc ?_ _)); refine blk_far ?_ NB316_331.out _; (with_reducible repeat (first | refine blk_drewN ?_ _ | refine blk_drew ?_ | refine blk_alloc ?_ _)); exact BK316.out))⟩; have n4_ : Aside0 (w180.heap[gb331]? = some (.cells #[.int .i64 t329, .int .i64 t330] 25 (0, 0))) := ⟨(by rw [hw]; exact (by (with_reducible repeat (first | refine blk_drewN ?_ _ | refine blk_drew ?_ | refine blk_alloc ?_ _)); refine blk_put (cs := #[.int .i64 t329, .int .i64 0]) ?_ 1 _ rfl; (with_reducible repeat (first | refine blk_drewN ?_ _ | refine blk_drew ?_ | refine blk_alloc ?_ _)); refine blk_put (cs := #[.int .i64 0, .int .i64 0]) ?_ 0 _ rfl; (with_reducible repeat (first | refine blk_drewN ?_ _ | refine blk_drew ?_ | refine blk_alloc ?_ _)); exact BK331.out))⟩; have n5_ : Aside0 (Below w.heap.size w w180) := ⟨(by rw [hw]; exact (by repeat (first | (with_reducible first | exact HB.out | apply below_alloc | apply pw_below_drewN | apply below_drew1 | refine below_set ?_ GE312.out | refine below_set ?_ GE316.out | refine below_set ?_ GE331.out) | exact HB.out)))⟩; clear hw; clear HO_3; clear HO328; clear BK312; clear BK316; clear BK331; clear HB; have HO_3 := n0_; have HO328 := n1_; have BK312 := n2_; have BK316 := n3_; have BK331 := n4_; have HB := n5_; clear n0_ n1_ n2_ n3_ n4_ n5_; have hcz181_0 : w180.cell? ⟨gb331, 0, none⟩ = some (.int .i64 t329) := (blk_cell BK331.out 0).trans rfl; have hcz181_1 : w180.cell? ⟨gb331, 1, none⟩ = some (.int .i64 t330) := (blk_cell BK331.out 1).trans rfl; have hfz181_0 := blk_frozen BK331.out 0; have hfz181_1 := blk_frozen BK331.out 1; have q182 : (x5_2 : Int) ≤ ((t307.length : Int) : Int) := of_decide_eq_true (by first | (with_reducible assumption) | assumption); obtain ⟨i0182, hi0182, _, hsz182, _⟩ := info_parts info38; have hroom182 : t307.length ≤ co21 := (Kd.R_reads' HO_3.out).2.1; have hC182 : Kd.C k38 _ (some ad315) t307.length t307 := (Kd.R_reads' HO_3.out).2.2; have hcut182 := cut_to (P := Tryz.prog) 22 38 .i64 Tryz.underlying22 hi0182 (some ad315) t307.length co21 x5_2 (of_decide_eq_true (by first | (with_reducible assumption) | assumption)) q182 hroom182; have hr182 := Kd.C_take (m := (x5_2 : Int).toNat) hC182 (by omega); have hy182 : y332.length = (x5_2 : Int).toNat := (by rw [Ny332.out, List.length_take]; omega); rw [← Ny332.out] at hr182; rw [← hy182] at hcut182; have HR335 := Aside0.mk hr182; have HC335 := Aside0.mk (show y332.length ≤ co21 from by omega); clear hr182 hC182 hroom182 hi0182 hsz182; have KY182 := Aside0.mk hy182; clear hy182; have KL182 := Aside0.mk (show (x5_2 : Int).toNat ≤ t307.length from by omega); replace q182 := eq_true q182; obtain ⟨Ao183, co183, eo183⟩ := Kd.R_slice HO328.out; subst eo183) | (go_at_call 13; (with_reducible refine (variorumref05_Same.calls kj42 _ _ t326 _ _ y332 true _ ?side1 ?side2 ?side3 ?side4 A171.out).mono ?_); (case side1 => repeat (first | exact (Kd.R_reads' HO328.out).2.2 | (with_reducible refine Kd.C_alloc ?_ _) | (with_reducible refine Kd.C_drewN ?_ _) | (with_reducible refine Kd.C_drew ?_))); (case side2 => exact (Kd.R_reads' HO328.out).2.1); (case side3 => repeat (first | exact (by repeat (first | (with_reducible exact HR335.out) | (with_reducible refine Kd.C_alloc ?_ _) | (with_reducible refine Kd.C_drewN ?_ _) | (with_reducible refine Kd.C_drew ?_) | exact HR335.out)) | (with_reducible refine Kd.C_alloc ?_ _) | (with_reducible refine Kd.C_drewN ?_ _) | (with_reducible refine Kd.C_drew ?_))); (case side4 => exact HC335.out); rintro e w' ⟨rfl, ⟨nd, rfl⟩⟩; (try first | exact ⟨rfl, _, World.drewN_drewN _ _ _⟩ | exact ⟨rfl, _, Eq.trans (World.drewN_drewN _ _ _) (congrArg (World.drewN _) (Nat.add_assoc _ _ _))⟩))))
                      go_roundg kj42
                      case measure => have := HJ2.out; have := HK2.out; have := HJ19.out; have := HJ42.out; omega
                      case rel => exact ⟨(wrap64 (x5_2 + 1)), (by first | rfl | (simp; done) | (simp [*]; done)), H', ⟨by have := HJ2.out; have := HK2.out; have := HJ19.out; have := HJ42.out; omega⟩, ⟨by (with_reducible repeat (first | apply Kd.R_alloc | apply Kd.R_drewN | apply Kd.R_drew)); exact Kd.R_mono HO_3.out (fun _ hk => trivial)⟩, ⟨by (with_reducible repeat (first | refine blk_drewN ?_ _ | refine blk_drew ?_ | refine blk_alloc ?_ _)); exact BK312.out⟩, ⟨by repeat (first | (with_reducible first | exact HB.out | apply below_alloc | apply pw_below_drewN | apply below_drew1 | refine below_set ?_ GE312.out | refine below_set ?_ GE316.out | refine below_set ?_ GE331.out) | exact HB.out)⟩⟩
                     ·replace c172 := Bool.eq_false_iff.mpr c172
                      subst c172
                      have H1 : (none) = some r := by rw [if_neg (show ¬ (false = true) by decide)] at H; exact H
                      clear H
                      have H := H1
                      clear H1
                      exact absurd H (by simp)
                    ·rw [if_neg c170] at H
                     exact absurd H (by simp)
                   ·rw [if_neg c169] at H
                    exact absurd H (by simp)
                  ·rw [if_neg c168] at H
                   exact absurd H (by simp)
                 ·rw [if_neg c166] at H
                  exact absurd H (by simp)
                ·rw [if_neg c165] at H
                 exact absurd H (by simp)
            ·rw [if_neg c41] at H
             exact absurd H (by simp)
           ·rw [if_neg c40] at H
            exact absurd H (by simp)
       ·rw [if_neg c19] at H
        exact absurd H (by simp)
      ·rw [if_neg c18] at H
       have c18b0 : decide (x5_2 < (t307.length : Int)) = false := decide_eq_false c18
       clear c18
       obtain rfl := Option.some.inj H
       obtain ⟨Ao184, co184, eo184⟩ := Kd.R_slice HO_3.out
       subst eo184
       go_wp2
       repeat (go_quiet (fail); try go_wp2)
       go_ret
       exact ⟨by first | rfl | (simp [errW_none, errW_some] <;> rfl) | (simp [*, errW_none, errW_some] <;> rfl), by repeat (first | (with_reducible first | exact HB.out | apply below_alloc | apply pw_below_drewN | apply below_drew1 | refine below_set ?_ GE312.out) | exact HB.out)⟩

/-- The one statement about numbers and lists that is left of the law. -/
def variorumlaw05_LexerPlaces.Pure : Prop := ∀ (x0 : ByteArray), x0.size ≤ 140737488351232 → x0.size + 1 ≤ 1048576 → ∃ k, variorumlaw05_LexerPlaces.f k x0 = some true

end Go.Proofs.YtjiljpddkfcdbaaGreatDoor.PLx

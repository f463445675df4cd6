/- Written by a program of this session: functions of the given program as plain Lean functions, the walks that show it, and the row of each law, for every input that its statement speaks of. -/
import Derived.Test.YtjppjlhhdfkloaaPTpx0
import Derived.Test.YtjppjlhhdfkloaaPTpx1
import Derived.Test.YtjppjlhhdfkloaaPTpx3
import Derived.Test.YtjppjlhhdfkloaaPTpx6
import Derived.Test.YtjppjlhhdfkloaaPTpx7
namespace Go.Proofs.Ytjppjlhhdfkloaa.PTp
open Go.RowKit Go.Proofs.YtjppjlhhdfkloaaW.PrintWords Go.Proofs.YtjppjlhhdfkloaaW.PrintLast Go.Proofs.YtjppjlhhdfkloaaW.PrintMore
attribute [local go_sem] max2_int min2_int max_two min_two max_three min_three max_four min_four   -- for this text's walks alone
set_option linter.unusedVariables false
set_option linter.unusedSimpArgs false

attribute [local go_sem high] eqA26
/-! ### variorumlaw06_fixed: function 9 -/
def variorumlaw06_fixed.f (k : Nat)  : Option (Bool) := (variorumlaw06_command.f (⟨#[101, 100]⟩ : ByteArray)).bind fun bt168 => ((variorumlaw06_word.f (⟨#[97]⟩ : ByteArray)).bind fun bt171 => ((variorumlaw06_word.f (⟨#[98]⟩ : ByteArray)).bind fun bt174 => ((variorumlaw06_command.f (⟨#[65]⟩ : ByteArray)).bind fun bt177 => ((variorumlaw06_word.f (⟨#[99]⟩ : ByteArray)).bind fun bt180 => ((variorumlaw06_word.f (⟨#[100]⟩ : ByteArray)).bind fun bt183 => ((tree_Parse.f k (([(⟨bt168.1, bt168.2.1, bt168.2.2⟩ : S44), (⟨2, (⟨#[]⟩ : ByteArray), 0⟩ : S44), (⟨bt171.1, bt171.2.1, bt171.2.2⟩ : S44), (⟨bt174.1, bt174.2.1, bt174.2.2⟩ : S44), (⟨3, (⟨#[]⟩ : ByteArray), 0⟩ : S44), (⟨2, (⟨#[]⟩ : ByteArray), 0⟩ : S44), (⟨bt177.1, bt177.2.1, bt177.2.2⟩ : S44), (⟨2, (⟨#[]⟩ : ByteArray), 0⟩ : S44), (⟨bt180.1, bt180.2.1, bt180.2.2⟩ : S44), (⟨3, (⟨#[]⟩ : ByteArray), 0⟩ : S44), (⟨3, (⟨#[]⟩ : ByteArray), 0⟩ : S44), (⟨bt183.1, bt183.2.1, bt183.2.2⟩ : S44)] : List (S44)))).bind fun bt189 => ((tree_Parse.f k (([(⟨2, (⟨#[]⟩ : ByteArray), 3⟩ : S44)] : List (S44)))).bind fun bt198 => ((variorumlaw06_command.f (⟨#[112]⟩ : ByteArray)).bind fun bt204 => ((tree_Parse.f k (([(⟨bt204.1, bt204.2.1, bt204.2.2⟩ : S44), (⟨2, (⟨#[]⟩ : ByteArray), 2⟩ : S44)] : List (S44)))).bind fun bt210 => ((tree_Parse.f k (([(⟨3, (⟨#[]⟩ : ByteArray), 4⟩ : S44)] : List (S44)))).bind fun bt219 => (if bt189.2.1 = 0 then (if (bt189.1.length : Int) = 2 then (if 0 < (bt189.1.length : Int) then (if (((rd_T38 bt189.1 0).f2).length : Int) = 2 then (if 1 < (bt189.1.length : Int) then (if ((rd_T38 bt189.1 1).f1).toList = ([100] : List UInt8) then (if (bt198.2.1 == 60 && (bt198.2.2 == 3)) = true then (if (bt210.2.1 == 62 && (bt210.2.2 == 2)) = true then (if (bt219.2.1 == 61 && (bt219.2.2 == 4)) = true then ((tree_Depth.f k bt189.1).bind fun t227 => (if t227 = 2 then ((tree_Words.f k bt189.1).bind fun t228 => ((variorumref06_Texts.f k t228 (([(⟨#[97]⟩ : ByteArray), (⟨#[98]⟩ : ByteArray), (⟨#[99]⟩ : ByteArray), (⟨#[100]⟩ : ByteArray)] : List ByteArray))).bind fun t234 => (some t234))) else (none))) else (none)) else (none)) else (none)) else (none)) else (none)) else (none)) else (none)) else (none)) else (none))))))))))))
theorem variorumlaw06_fixed.mono : ∀ k, LeO (variorumlaw06_fixed.f k ) (variorumlaw06_fixed.f (k + 1) ) := by
 intro  k
 unfold variorumlaw06_fixed.f
 repeat' first
   | (with_reducible exact tree_Depth.mono _ _)
   | (with_reducible exact tree_Parse.mono _ _)
   | (with_reducible exact tree_Words.mono _ _)
   | (with_reducible exact variorumref06_Texts.mono _ _ _)
   | (with_reducible exact LeO.refl _)
   | (with_reducible exact LeO.none _)
   | (with_reducible refine LeO.ite ?_ ?_)
   | (with_reducible refine LeO.bind ?_ (fun _ => ?_))
   | exact tree_Depth.mono _ _
   | exact tree_Parse.mono _ _
   | exact tree_Words.mono _ _
   | exact variorumref06_Texts.mono _ _ _
   | exact LeO.none _
   | refine LeO.ite ?_ ?_
   | refine LeO.bind ?_ (fun _ => ?_)
def variorumlaw06_fixed.T2 : Bool × List (List Nat × List Nat) := (true, [([], []), ([], []), ([0], []), ([2], []), ([], []), ([], []), ([3], []), ([], []), ([6], []), ([], []), ([], []), ([8], []), ([0, 1, 2, 3, 4, 5, 6, 7, 8, 9, 10, 11], [0, 1, 2, 3, 4, 5, 6, 7, 8, 9, 10, 11]), ([12, 11], [12]), ([13], [13]), ([14], [14]), ([14], [14]), ([], []), ([15, 13, 0, 1, 2, 3, 4, 5, 6, 7, 8, 9, 10, 11, 12, 13, 14, 15, 17], [15]), ([17, 16, 18, 0, 1, 2, 3, 4, 5, 6, 7, 8, 9, 10, 11, 12, 13, 14, 15, 16, 17, 18], [16, 17])])
def variorumlaw06_fixed.B2 : List Nat := [0, 0, 1, 5, 0, 0, 13, 0, 77, 0, 0, 333, 4095, 8191, 16383, 32767, 32767, 0, 196607, 524287]
theorem variorumlaw06_fixed.tab2 : rtab .any (opsOf Try.f9 2) = variorumlaw06_fixed.T2 := by kernel_rfl
theorem variorumlaw06_fixed.bits2 : waitsOk variorumlaw06_fixed.T2.2 variorumlaw06_fixed.B2 = true := by kernel_rfl
set_option maxHeartbeats 8000000 in
set_option maxRecDepth 100000 in
theorem variorumlaw06_fixed.calls (k : Nat)  (r : Bool) (w : World) (h : variorumlaw06_fixed.f k  = some r) :
  Calls Try.prog 9 #[] w fun e w' => e = .returned (.bool r) ∧ Below w.heap.size w w' := by
 have hu44 := Try.underlying44
 have hu26 := Try.underlying26
 have HB := a_ (Below.refl w.heap.size w)
 have H : ((variorumlaw06_command.f (⟨#[101, 100]⟩ : ByteArray)).bind fun bt168 => ((variorumlaw06_word.f (⟨#[97]⟩ : ByteArray)).bind fun bt171 => ((variorumlaw06_word.f (⟨#[98]⟩ : ByteArray)).bind fun bt174 => ((variorumlaw06_command.f (⟨#[65]⟩ : ByteArray)).bind fun bt177 => ((variorumlaw06_word.f (⟨#[99]⟩ : ByteArray)).bind fun bt180 => ((variorumlaw06_word.f (⟨#[100]⟩ : ByteArray)).bind fun bt183 => ((tree_Parse.f k (([(⟨bt168.1, bt168.2.1, bt168.2.2⟩ : S44), (⟨2, (⟨#[]⟩ : ByteArray), 0⟩ : S44), (⟨bt171.1, bt171.2.1, bt171.2.2⟩ : S44), (⟨bt174.1, bt174.2.1, bt174.2.2⟩ : S44), (⟨3, (⟨#[]⟩ : ByteArray), 0⟩ : S44), (⟨2, (⟨#[]⟩ : ByteArray), 0⟩ : S44), (⟨bt177.1, bt177.2.1, bt177.2.2⟩ : S44), (⟨2, (⟨#[]⟩ : ByteArray), 0⟩ : S44), (⟨bt180.1, bt180.2.1, bt180.2.2⟩ : S44), (⟨3, (⟨#[]⟩ : ByteArray), 0⟩ : S44), (⟨3, (⟨#[]⟩ : ByteArray), 0⟩ : S44), (⟨bt183.1, bt183.2.1, bt183.2.2⟩ : S44)] : List (S44)))).bind fun bt189 => ((tree_Parse.f k (([(⟨2, (⟨#[]⟩ : ByteArray), 3⟩ : S44)] : List (S44)))).bind fun bt198 => ((variorumlaw06_command.f (⟨#[112]⟩ : ByteArray)).bind fun bt204 => ((tree_Parse.f k (([(⟨bt204.1, bt204.2.1, bt204.2.2⟩ : S44), (⟨2, (⟨#[]⟩ : ByteArray), 2⟩ : S44)] : List (S44)))).bind fun bt210 => ((tree_Parse.f k (([(⟨3, (⟨#[]⟩ : ByteArray), 4⟩ : S44)] : List (S44)))).bind fun bt219 => (if bt189.2.1 = 0 then (if (bt189.1.length : Int) = 2 then (if 0 < (bt189.1.length : Int) then (if (((rd_T38 bt189.1 0).f2).length : Int) = 2 then (if 1 < (bt189.1.length : Int) then (if ((rd_T38 bt189.1 1).f1).toList = ([100] : List UInt8) then (if (bt198.2.1 == 60 && (bt198.2.2 == 3)) = true then (if (bt210.2.1 == 62 && (bt210.2.2 == 2)) = true then (if (bt219.2.1 == 61 && (bt219.2.2 == 4)) = true then ((tree_Depth.f k bt189.1).bind fun t227 => (if t227 = 2 then ((tree_Words.f k bt189.1).bind fun t228 => ((variorumref06_Texts.f k t228 (([(⟨#[97]⟩ : ByteArray), (⟨#[98]⟩ : ByteArray), (⟨#[99]⟩ : ByteArray), (⟨#[100]⟩ : ByteArray)] : List ByteArray))).bind fun t234 => (some t234))) else (none))) else (none)) else (none)) else (none)) else (none)) else (none)) else (none)) else (none)) else (none)) else (none))))))))))))) = some r := h
 clear h
 replace H := Option.bind_eq_some_iff.mp H
 obtain ⟨⟨t168, t169, t170⟩, A10, H⟩ := H
 replace H : ((variorumlaw06_word.f (⟨#[97]⟩ : ByteArray)).bind fun bt171 => ((variorumlaw06_word.f (⟨#[98]⟩ : ByteArray)).bind fun bt174 => ((variorumlaw06_command.f (⟨#[65]⟩ : ByteArray)).bind fun bt177 => ((variorumlaw06_word.f (⟨#[99]⟩ : ByteArray)).bind fun bt180 => ((variorumlaw06_word.f (⟨#[100]⟩ : ByteArray)).bind fun bt183 => ((tree_Parse.f k (([(⟨t168, t169, t170⟩ : S44), (⟨2, (⟨#[]⟩ : ByteArray), 0⟩ : S44), (⟨bt171.1, bt171.2.1, bt171.2.2⟩ : S44), (⟨bt174.1, bt174.2.1, bt174.2.2⟩ : S44), (⟨3, (⟨#[]⟩ : ByteArray), 0⟩ : S44), (⟨2, (⟨#[]⟩ : ByteArray), 0⟩ : S44), (⟨bt177.1, bt177.2.1, bt177.2.2⟩ : S44), (⟨2, (⟨#[]⟩ : ByteArray), 0⟩ : S44), (⟨bt180.1, bt180.2.1, bt180.2.2⟩ : S44), (⟨3, (⟨#[]⟩ : ByteArray), 0⟩ : S44), (⟨3, (⟨#[]⟩ : ByteArray), 0⟩ : S44), (⟨bt183.1, bt183.2.1, bt183.2.2⟩ : S44)] : List (S44)))).bind fun bt189 => ((tree_Parse.f k (([(⟨2, (⟨#[]⟩ : ByteArray), 3⟩ : S44)] : List (S44)))).bind fun bt198 => ((variorumlaw06_command.f (⟨#[112]⟩ : ByteArray)).bind fun bt204 => ((tree_Parse.f k (([(⟨bt204.1, bt204.2.1, bt204.2.2⟩ : S44), (⟨2, (⟨#[]⟩ : ByteArray), 2⟩ : S44)] : List (S44)))).bind fun bt210 => ((tree_Parse.f k (([(⟨3, (⟨#[]⟩ : ByteArray), 4⟩ : S44)] : List (S44)))).bind fun bt219 => (if bt189.2.1 = 0 then (if (bt189.1.length : Int) = 2 then (if 0 < (bt189.1.length : Int) then (if (((rd_T38 bt189.1 0).f2).length : Int) = 2 then (if 1 < (bt189.1.length : Int) then (if ((rd_T38 bt189.1 1).f1).toList = ([100] : List UInt8) then (if (bt198.2.1 == 60 && (bt198.2.2 == 3)) = true then (if (bt210.2.1 == 62 && (bt210.2.2 == 2)) = true then (if (bt219.2.1 == 61 && (bt219.2.2 == 4)) = true then ((tree_Depth.f k bt189.1).bind fun t227 => (if t227 = 2 then ((tree_Words.f k bt189.1).bind fun t228 => ((variorumref06_Texts.f k t228 (([(⟨#[97]⟩ : ByteArray), (⟨#[98]⟩ : ByteArray), (⟨#[99]⟩ : ByteArray), (⟨#[100]⟩ : ByteArray)] : List ByteArray))).bind fun t234 => (some t234))) else (none))) else (none)) else (none)) else (none)) else (none)) else (none)) else (none)) else (none)) else (none)) else (none)))))))))))) = some r := H
 have A1 := a_ A10
 clear A10
 replace H := Option.bind_eq_some_iff.mp H
 obtain ⟨⟨t171, t172, t173⟩, A20, H⟩ := H
 replace H : ((variorumlaw06_word.f (⟨#[98]⟩ : ByteArray)).bind fun bt174 => ((variorumlaw06_command.f (⟨#[65]⟩ : ByteArray)).bind fun bt177 => ((variorumlaw06_word.f (⟨#[99]⟩ : ByteArray)).bind fun bt180 => ((variorumlaw06_word.f (⟨#[100]⟩ : ByteArray)).bind fun bt183 => ((tree_Parse.f k (([(⟨t168, t169, t170⟩ : S44), (⟨2, (⟨#[]⟩ : ByteArray), 0⟩ : S44), (⟨t171, t172, t173⟩ : S44), (⟨bt174.1, bt174.2.1, bt174.2.2⟩ : S44), (⟨3, (⟨#[]⟩ : ByteArray), 0⟩ : S44), (⟨2, (⟨#[]⟩ : ByteArray), 0⟩ : S44), (⟨bt177.1, bt177.2.1, bt177.2.2⟩ : S44), (⟨2, (⟨#[]⟩ : ByteArray), 0⟩ : S44), (⟨bt180.1, bt180.2.1, bt180.2.2⟩ : S44), (⟨3, (⟨#[]⟩ : ByteArray), 0⟩ : S44), (⟨3, (⟨#[]⟩ : ByteArray), 0⟩ : S44), (⟨bt183.1, bt183.2.1, bt183.2.2⟩ : S44)] : List (S44)))).bind fun bt189 => ((tree_Parse.f k (([(⟨2, (⟨#[]⟩ : ByteArray), 3⟩ : S44)] : List (S44)))).bind fun bt198 => ((variorumlaw06_command.f (⟨#[112]⟩ : ByteArray)).bind fun bt204 => ((tree_Parse.f k (([(⟨bt204.1, bt204.2.1, bt204.2.2⟩ : S44), (⟨2, (⟨#[]⟩ : ByteArray), 2⟩ : S44)] : List (S44)))).bind fun bt210 => ((tree_Parse.f k (([(⟨3, (⟨#[]⟩ : ByteArray), 4⟩ : S44)] : List (S44)))).bind fun bt219 => (if bt189.2.1 = 0 then (if (bt189.1.length : Int) = 2 then (if 0 < (bt189.1.length : Int) then (if (((rd_T38 bt189.1 0).f2).length : Int) = 2 then (if 1 < (bt189.1.length : Int) then (if ((rd_T38 bt189.1 1).f1).toList = ([100] : List UInt8) then (if (bt198.2.1 == 60 && (bt198.2.2 == 3)) = true then (if (bt210.2.1 == 62 && (bt210.2.2 == 2)) = true then (if (bt219.2.1 == 61 && (bt219.2.2 == 4)) = true then ((tree_Depth.f k bt189.1).bind fun t227 => (if t227 = 2 then ((tree_Words.f k bt189.1).bind fun t228 => ((variorumref06_Texts.f k t228 (([(⟨#[97]⟩ : ByteArray), (⟨#[98]⟩ : ByteArray), (⟨#[99]⟩ : ByteArray), (⟨#[100]⟩ : ByteArray)] : List ByteArray))).bind fun t234 => (some t234))) else (none))) else (none)) else (none)) else (none)) else (none)) else (none)) else (none)) else (none)) else (none)) else (none))))))))))) = some r := H
 have A2 := a_ A20
 clear A20
 replace H := Option.bind_eq_some_iff.mp H
 obtain ⟨⟨t174, t175, t176⟩, A30, H⟩ := H
 replace H : ((variorumlaw06_command.f (⟨#[65]⟩ : ByteArray)).bind fun bt177 => ((variorumlaw06_word.f (⟨#[99]⟩ : ByteArray)).bind fun bt180 => ((variorumlaw06_word.f (⟨#[100]⟩ : ByteArray)).bind fun bt183 => ((tree_Parse.f k (([(⟨t168, t169, t170⟩ : S44), (⟨2, (⟨#[]⟩ : ByteArray), 0⟩ : S44), (⟨t171, t172, t173⟩ : S44), (⟨t174, t175, t176⟩ : S44), (⟨3, (⟨#[]⟩ : ByteArray), 0⟩ : S44), (⟨2, (⟨#[]⟩ : ByteArray), 0⟩ : S44), (⟨bt177.1, bt177.2.1, bt177.2.2⟩ : S44), (⟨2, (⟨#[]⟩ : ByteArray), 0⟩ : S44), (⟨bt180.1, bt180.2.1, bt180.2.2⟩ : S44), (⟨3, (⟨#[]⟩ : ByteArray), 0⟩ : S44), (⟨3, (⟨#[]⟩ : ByteArray), 0⟩ : S44), (⟨bt183.1, bt183.2.1, bt183.2.2⟩ : S44)] : List (S44)))).bind fun bt189 => ((tree_Parse.f k (([(⟨2, (⟨#[]⟩ : ByteArray), 3⟩ : S44)] : List (S44)))).bind fun bt198 => ((variorumlaw06_command.f (⟨#[112]⟩ : ByteArray)).bind fun bt204 => ((tree_Parse.f k (([(⟨bt204.1, bt204.2.1, bt204.2.2⟩ : S44), (⟨2, (⟨#[]⟩ : ByteArray), 2⟩ : S44)] : List (S44)))).bind fun bt210 => ((tree_Parse.f k (([(⟨3, (⟨#[]⟩ : ByteArray), 4⟩ : S44)] : List (S44)))).bind fun bt219 => (if bt189.2.1 = 0 then (if (bt189.1.length : Int) = 2 then (if 0 < (bt189.1.length : Int) then (if (((rd_T38 bt189.1 0).f2).length : Int) = 2 then (if 1 < (bt189.1.length : Int) then (if ((rd_T38 bt189.1 1).f1).toList = ([100] : List UInt8) then (if (bt198.2.1 == 60 && (bt198.2.2 == 3)) = true then (if (bt210.2.1 == 62 && (bt210.2.2 == 2)) = true then (if (bt219.2.1 == 61 && (bt219.2.2 == 4)) = true then ((tree_Depth.f k bt189.1).bind fun t227 => (if t227 = 2 then ((tree_Words.f k bt189.1).bind fun t228 => ((variorumref06_Texts.f k t228 (([(⟨#[97]⟩ : ByteArray), (⟨#[98]⟩ : ByteArray), (⟨#[99]⟩ : ByteArray), (⟨#[100]⟩ : ByteArray)] : List ByteArray))).bind fun t234 => (some t234))) else (none))) else (none)) else (none)) else (none)) else (none)) else (none)) else (none)) else (none)) else (none)) else (none)))))))))) = some r := H
 have A3 := a_ A30
 clear A30
 replace H := Option.bind_eq_some_iff.mp H
 obtain ⟨⟨t177, t178, t179⟩, A40, H⟩ := H
 replace H : ((variorumlaw06_word.f (⟨#[99]⟩ : ByteArray)).bind fun bt180 => ((variorumlaw06_word.f (⟨#[100]⟩ : ByteArray)).bind fun bt183 => ((tree_Parse.f k (([(⟨t168, t169, t170⟩ : S44), (⟨2, (⟨#[]⟩ : ByteArray), 0⟩ : S44), (⟨t171, t172, t173⟩ : S44), (⟨t174, t175, t176⟩ : S44), (⟨3, (⟨#[]⟩ : ByteArray), 0⟩ : S44), (⟨2, (⟨#[]⟩ : ByteArray), 0⟩ : S44), (⟨t177, t178, t179⟩ : S44), (⟨2, (⟨#[]⟩ : ByteArray), 0⟩ : S44), (⟨bt180.1, bt180.2.1, bt180.2.2⟩ : S44), (⟨3, (⟨#[]⟩ : ByteArray), 0⟩ : S44), (⟨3, (⟨#[]⟩ : ByteArray), 0⟩ : S44), (⟨bt183.1, bt183.2.1, bt183.2.2⟩ : S44)] : List (S44)))).bind fun bt189 => ((tree_Parse.f k (([(⟨2, (⟨#[]⟩ : ByteArray), 3⟩ : S44)] : List (S44)))).bind fun bt198 => ((variorumlaw06_command.f (⟨#[112]⟩ : ByteArray)).bind fun bt204 => ((tree_Parse.f k (([(⟨bt204.1, bt204.2.1, bt204.2.2⟩ : S44), (⟨2, (⟨#[]⟩ : ByteArray), 2⟩ : S44)] : List (S44)))).bind fun bt210 => ((tree_Parse.f k (([(⟨3, (⟨#[]⟩ : ByteArray), 4⟩ : S44)] : List (S44)))).bind fun bt219 => (if bt189.2.1 = 0 then (if (bt189.1.length : Int) = 2 then (if 0 < (bt189.1.length : Int) then (if (((rd_T38 bt189.1 0).f2).length : Int) = 2 then (if 1 < (bt189.1.length : Int) then (if ((rd_T38 bt189.1 1).f1).toList = ([100] : List UInt8) then (if (bt198.2.1 == 60 && (bt198.2.2 == 3)) = true then (if (bt210.2.1 == 62 && (bt210.2.2 == 2)) = true then (if (bt219.2.1 == 61 && (bt219.2.2 == 4)) = true then ((tree_Depth.f k bt189.1).bind fun t227 => (if t227 = 2 then ((tree_Words.f k bt189.1).bind fun t228 => ((variorumref06_Texts.f k t228 (([(⟨#[97]⟩ : ByteArray), (⟨#[98]⟩ : ByteArray), (⟨#[99]⟩ : ByteArray), (⟨#[100]⟩ : ByteArray)] : List ByteArray))).bind fun t234 => (some t234))) else (none))) else (none)) else (none)) else (none)) else (none)) else (none)) else (none)) else (none)) else (none)) else (none))))))))) = some r := H
 have A4 := a_ A40
 clear A40
 replace H := Option.bind_eq_some_iff.mp H
 obtain ⟨⟨t180, t181, t182⟩, A50, H⟩ := H
 replace H : ((variorumlaw06_word.f (⟨#[100]⟩ : ByteArray)).bind fun bt183 => ((tree_Parse.f k (([(⟨t168, t169, t170⟩ : S44), (⟨2, (⟨#[]⟩ : ByteArray), 0⟩ : S44), (⟨t171, t172, t173⟩ : S44), (⟨t174, t175, t176⟩ : S44), (⟨3, (⟨#[]⟩ : ByteArray), 0⟩ : S44), (⟨2, (⟨#[]⟩ : ByteArray), 0⟩ : S44), (⟨t177, t178, t179⟩ : S44), (⟨2, (⟨#[]⟩ : ByteArray), 0⟩ : S44), (⟨t180, t181, t182⟩ : S44), (⟨3, (⟨#[]⟩ : ByteArray), 0⟩ : S44), (⟨3, (⟨#[]⟩ : ByteArray), 0⟩ : S44), (⟨bt183.1, bt183.2.1, bt183.2.2⟩ : S44)] : List (S44)))).bind fun bt189 => ((tree_Parse.f k (([(⟨2, (⟨#[]⟩ : ByteArray), 3⟩ : S44)] : List (S44)))).bind fun bt198 => ((variorumlaw06_command.f (⟨#[112]⟩ : ByteArray)).bind fun bt204 => ((tree_Parse.f k (([(⟨bt204.1, bt204.2.1, bt204.2.2⟩ : S44), (⟨2, (⟨#[]⟩ : ByteArray), 2⟩ : S44)] : List (S44)))).bind fun bt210 => ((tree_Parse.f k (([(⟨3, (⟨#[]⟩ : ByteArray), 4⟩ : S44)] : List (S44)))).bind fun bt219 => (if bt189.2.1 = 0 then (if (bt189.1.length : Int) = 2 then (if 0 < (bt189.1.length : Int) then (if (((rd_T38 bt189.1 0).f2).length : Int) = 2 then (if 1 < (bt189.1.length : Int) then (if ((rd_T38 bt189.1 1).f1).toList = ([100] : List UInt8) then (if (bt198.2.1 == 60 && (bt198.2.2 == 3)) = true then (if (bt210.2.1 == 62 && (bt210.2.2 == 2)) = true then (if (bt219.2.1 == 61 && (bt219.2.2 == 4)) = true then ((tree_Depth.f k bt189.1).bind fun t227 => (if t227 = 2 then ((tree_Words.f k bt189.1).bind fun t228 => ((variorumref06_Texts.f k t228 (([(⟨#[97]⟩ : ByteArray), (⟨#[98]⟩ : ByteArray), (⟨#[99]⟩ : ByteArray), (⟨#[100]⟩ : ByteArray)] : List ByteArray))).bind fun t234 => (some t234))) else (none))) else (none)) else (none)) else (none)) else (none)) else (none)) else (none)) else (none)) else (none)) else (none)))))))) = some r := H
 have A5 := a_ A50
 clear A50
 replace H := Option.bind_eq_some_iff.mp H
 obtain ⟨⟨t183, t184, t185⟩, A60, H⟩ := H
 replace H : ((tree_Parse.f k (([(⟨t168, t169, t170⟩ : S44), (⟨2, (⟨#[]⟩ : ByteArray), 0⟩ : S44), (⟨t171, t172, t173⟩ : S44), (⟨t174, t175, t176⟩ : S44), (⟨3, (⟨#[]⟩ : ByteArray), 0⟩ : S44), (⟨2, (⟨#[]⟩ : ByteArray), 0⟩ : S44), (⟨t177, t178, t179⟩ : S44), (⟨2, (⟨#[]⟩ : ByteArray), 0⟩ : S44), (⟨t180, t181, t182⟩ : S44), (⟨3, (⟨#[]⟩ : ByteArray), 0⟩ : S44), (⟨3, (⟨#[]⟩ : ByteArray), 0⟩ : S44), (⟨t183, t184, t185⟩ : S44)] : List (S44)))).bind fun bt189 => ((tree_Parse.f k (([(⟨2, (⟨#[]⟩ : ByteArray), 3⟩ : S44)] : List (S44)))).bind fun bt198 => ((variorumlaw06_command.f (⟨#[112]⟩ : ByteArray)).bind fun bt204 => ((tree_Parse.f k (([(⟨bt204.1, bt204.2.1, bt204.2.2⟩ : S44), (⟨2, (⟨#[]⟩ : ByteArray), 2⟩ : S44)] : List (S44)))).bind fun bt210 => ((tree_Parse.f k (([(⟨3, (⟨#[]⟩ : ByteArray), 4⟩ : S44)] : List (S44)))).bind fun bt219 => (if bt189.2.1 = 0 then (if (bt189.1.length : Int) = 2 then (if 0 < (bt189.1.length : Int) then (if (((rd_T38 bt189.1 0).f2).length : Int) = 2 then (if 1 < (bt189.1.length : Int) then (if ((rd_T38 bt189.1 1).f1).toList = ([100] : List UInt8) then (if (bt198.2.1 == 60 && (bt198.2.2 == 3)) = true then (if (bt210.2.1 == 62 && (bt210.2.2 == 2)) = true then (if (bt219.2.1 == 61 && (bt219.2.2 == 4)) = true then ((tree_Depth.f k bt189.1).bind fun t227 => (if t227 = 2 then ((tree_Words.f k bt189.1).bind fun t228 => ((variorumref06_Texts.f k t228 (([(⟨#[97]⟩ : ByteArray), (⟨#[98]⟩ : ByteArray), (⟨#[99]⟩ : ByteArray), (⟨#[100]⟩ : ByteArray)] : List ByteArray))).bind fun t234 => (some t234))) else (none))) else (none)) else (none)) else (none)) else (none)) else (none)) else (none)) else (none)) else (none)) else (none))))))) = some r := H
 have A6 := a_ A60
 clear A60
 obtain ⟨y186, hy186⟩ : ∃ y_ : List (S44), y_ = (([(⟨t168, t169, t170⟩ : S44), (⟨2, (⟨#[]⟩ : ByteArray), 0⟩ : S44), (⟨t171, t172, t173⟩ : S44), (⟨t174, t175, t176⟩ : S44), (⟨3, (⟨#[]⟩ : ByteArray), 0⟩ : S44), (⟨2, (⟨#[]⟩ : ByteArray), 0⟩ : S44), (⟨t177, t178, t179⟩ : S44), (⟨2, (⟨#[]⟩ : ByteArray), 0⟩ : S44), (⟨t180, t181, t182⟩ : S44), (⟨3, (⟨#[]⟩ : ByteArray), 0⟩ : S44), (⟨3, (⟨#[]⟩ : ByteArray), 0⟩ : S44), (⟨t183, t184, t185⟩ : S44)] : List (S44))) := ⟨_, rfl⟩
 replace H : ((tree_Parse.f k y186).bind fun bt189 => ((tree_Parse.f k (([(⟨2, (⟨#[]⟩ : ByteArray), 3⟩ : S44)] : List (S44)))).bind fun bt198 => ((variorumlaw06_command.f (⟨#[112]⟩ : ByteArray)).bind fun bt204 => ((tree_Parse.f k (([(⟨bt204.1, bt204.2.1, bt204.2.2⟩ : S44), (⟨2, (⟨#[]⟩ : ByteArray), 2⟩ : S44)] : List (S44)))).bind fun bt210 => ((tree_Parse.f k (([(⟨3, (⟨#[]⟩ : ByteArray), 4⟩ : S44)] : List (S44)))).bind fun bt219 => (if bt189.2.1 = 0 then (if (bt189.1.length : Int) = 2 then (if 0 < (bt189.1.length : Int) then (if (((rd_T38 bt189.1 0).f2).length : Int) = 2 then (if 1 < (bt189.1.length : Int) then (if ((rd_T38 bt189.1 1).f1).toList = ([100] : List UInt8) then (if (bt198.2.1 == 60 && (bt198.2.2 == 3)) = true then (if (bt210.2.1 == 62 && (bt210.2.2 == 2)) = true then (if (bt219.2.1 == 61 && (bt219.2.2 == 4)) = true then ((tree_Depth.f k bt189.1).bind fun t227 => (if t227 = 2 then ((tree_Words.f k bt189.1).bind fun t228 => ((variorumref06_Texts.f k t228 (([(⟨#[97]⟩ : ByteArray), (⟨#[98]⟩ : ByteArray), (⟨#[99]⟩ : ByteArray), (⟨#[100]⟩ : ByteArray)] : List ByteArray))).bind fun t234 => (some t234))) else (none))) else (none)) else (none)) else (none)) else (none)) else (none)) else (none)) else (none)) else (none)) else (none))))))) = some r := by first | (rw [hy186]; with_reducible exact H) | (have H2_ := (Option.bind_some _ _).symm.trans H; rw [hy186]; with_reducible exact H2_) | (have H2_ := (Option.bind_some _ _).symm.trans H; with_reducible exact H2_) | with_reducible exact H | (rw [hy186]; exact H) | exact H
 have Ny186 := a_ hy186
 clear hy186
 replace H := Option.bind_eq_some_iff.mp H
 obtain ⟨⟨t189, t192, t193⟩, A70, H⟩ := H
 replace H : ((tree_Parse.f k (([(⟨2, (⟨#[]⟩ : ByteArray), 3⟩ : S44)] : List (S44)))).bind fun bt198 => ((variorumlaw06_command.f (⟨#[112]⟩ : ByteArray)).bind fun bt204 => ((tree_Parse.f k (([(⟨bt204.1, bt204.2.1, bt204.2.2⟩ : S44), (⟨2, (⟨#[]⟩ : ByteArray), 2⟩ : S44)] : List (S44)))).bind fun bt210 => ((tree_Parse.f k (([(⟨3, (⟨#[]⟩ : ByteArray), 4⟩ : S44)] : List (S44)))).bind fun bt219 => (if t192 = 0 then (if (t189.length : Int) = 2 then (if 0 < (t189.length : Int) then (if (((rd_T38 t189 0).f2).length : Int) = 2 then (if 1 < (t189.length : Int) then (if ((rd_T38 t189 1).f1).toList = ([100] : List UInt8) then (if (bt198.2.1 == 60 && (bt198.2.2 == 3)) = true then (if (bt210.2.1 == 62 && (bt210.2.2 == 2)) = true then (if (bt219.2.1 == 61 && (bt219.2.2 == 4)) = true then ((tree_Depth.f k t189).bind fun t227 => (if t227 = 2 then ((tree_Words.f k t189).bind fun t228 => ((variorumref06_Texts.f k t228 (([(⟨#[97]⟩ : ByteArray), (⟨#[98]⟩ : ByteArray), (⟨#[99]⟩ : ByteArray), (⟨#[100]⟩ : ByteArray)] : List ByteArray))).bind fun t234 => (some t234))) else (none))) else (none)) else (none)) else (none)) else (none)) else (none)) else (none)) else (none)) else (none)) else (none)))))) = some r := H
 have A7 := a_ A70
 clear A70
 obtain ⟨y195, hy195⟩ : ∃ y_ : List (S44), y_ = (([(⟨2, (⟨#[]⟩ : ByteArray), 3⟩ : S44)] : List (S44))) := ⟨_, rfl⟩
 replace H : ((tree_Parse.f k y195).bind fun bt198 => ((variorumlaw06_command.f (⟨#[112]⟩ : ByteArray)).bind fun bt204 => ((tree_Parse.f k (([(⟨bt204.1, bt204.2.1, bt204.2.2⟩ : S44), (⟨2, (⟨#[]⟩ : ByteArray), 2⟩ : S44)] : List (S44)))).bind fun bt210 => ((tree_Parse.f k (([(⟨3, (⟨#[]⟩ : ByteArray), 4⟩ : S44)] : List (S44)))).bind fun bt219 => (if t192 = 0 then (if (t189.length : Int) = 2 then (if 0 < (t189.length : Int) then (if (((rd_T38 t189 0).f2).length : Int) = 2 then (if 1 < (t189.length : Int) then (if ((rd_T38 t189 1).f1).toList = ([100] : List UInt8) then (if (bt198.2.1 == 60 && (bt198.2.2 == 3)) = true then (if (bt210.2.1 == 62 && (bt210.2.2 == 2)) = true then (if (bt219.2.1 == 61 && (bt219.2.2 == 4)) = true then ((tree_Depth.f k t189).bind fun t227 => (if t227 = 2 then ((tree_Words.f k t189).bind fun t228 => ((variorumref06_Texts.f k t228 (([(⟨#[97]⟩ : ByteArray), (⟨#[98]⟩ : ByteArray), (⟨#[99]⟩ : ByteArray), (⟨#[100]⟩ : ByteArray)] : List ByteArray))).bind fun t234 => (some t234))) else (none))) else (none)) else (none)) else (none)) else (none)) else (none)) else (none)) else (none)) else (none)) else (none)))))) = some r := by first | (rw [hy195]; with_reducible exact H) | (have H2_ := (Option.bind_some _ _).symm.trans H; rw [hy195]; with_reducible exact H2_) | (have H2_ := (Option.bind_some _ _).symm.trans H; with_reducible exact H2_) | with_reducible exact H | (rw [hy195]; exact H) | exact H
 have Ny195 := a_ hy195
 clear hy195
 replace H := Option.bind_eq_some_iff.mp H
 obtain ⟨⟨t198, t201, t202⟩, A80, H⟩ := H
 replace H : ((variorumlaw06_command.f (⟨#[112]⟩ : ByteArray)).bind fun bt204 => ((tree_Parse.f k (([(⟨bt204.1, bt204.2.1, bt204.2.2⟩ : S44), (⟨2, (⟨#[]⟩ : ByteArray), 2⟩ : S44)] : List (S44)))).bind fun bt210 => ((tree_Parse.f k (([(⟨3, (⟨#[]⟩ : ByteArray), 4⟩ : S44)] : List (S44)))).bind fun bt219 => (if t192 = 0 then (if (t189.length : Int) = 2 then (if 0 < (t189.length : Int) then (if (((rd_T38 t189 0).f2).length : Int) = 2 then (if 1 < (t189.length : Int) then (if ((rd_T38 t189 1).f1).toList = ([100] : List UInt8) then (if (t201 == 60 && (t202 == 3)) = true then (if (bt210.2.1 == 62 && (bt210.2.2 == 2)) = true then (if (bt219.2.1 == 61 && (bt219.2.2 == 4)) = true then ((tree_Depth.f k t189).bind fun t227 => (if t227 = 2 then ((tree_Words.f k t189).bind fun t228 => ((variorumref06_Texts.f k t228 (([(⟨#[97]⟩ : ByteArray), (⟨#[98]⟩ : ByteArray), (⟨#[99]⟩ : ByteArray), (⟨#[100]⟩ : ByteArray)] : List ByteArray))).bind fun t234 => (some t234))) else (none))) else (none)) else (none)) else (none)) else (none)) else (none)) else (none)) else (none)) else (none)) else (none))))) = some r := H
 have A8 := a_ A80
 clear A80
 replace H := Option.bind_eq_some_iff.mp H
 obtain ⟨⟨t204, t205, t206⟩, A90, H⟩ := H
 replace H : ((tree_Parse.f k (([(⟨t204, t205, t206⟩ : S44), (⟨2, (⟨#[]⟩ : ByteArray), 2⟩ : S44)] : List (S44)))).bind fun bt210 => ((tree_Parse.f k (([(⟨3, (⟨#[]⟩ : ByteArray), 4⟩ : S44)] : List (S44)))).bind fun bt219 => (if t192 = 0 then (if (t189.length : Int) = 2 then (if 0 < (t189.length : Int) then (if (((rd_T38 t189 0).f2).length : Int) = 2 then (if 1 < (t189.length : Int) then (if ((rd_T38 t189 1).f1).toList = ([100] : List UInt8) then (if (t201 == 60 && (t202 == 3)) = true then (if (bt210.2.1 == 62 && (bt210.2.2 == 2)) = true then (if (bt219.2.1 == 61 && (bt219.2.2 == 4)) = true then ((tree_Depth.f k t189).bind fun t227 => (if t227 = 2 then ((tree_Words.f k t189).bind fun t228 => ((variorumref06_Texts.f k t228 (([(⟨#[97]⟩ : ByteArray), (⟨#[98]⟩ : ByteArray), (⟨#[99]⟩ : ByteArray), (⟨#[100]⟩ : ByteArray)] : List ByteArray))).bind fun t234 => (some t234))) else (none))) else (none)) else (none)) else (none)) else (none)) else (none)) else (none)) else (none)) else (none)) else (none)))) = some r := H
 have A9 := a_ A90
 clear A90
 obtain ⟨y207, hy207⟩ : ∃ y_ : List (S44), y_ = (([(⟨t204, t205, t206⟩ : S44), (⟨2, (⟨#[]⟩ : ByteArray), 2⟩ : S44)] : List (S44))) := ⟨_, rfl⟩
 replace H : ((tree_Parse.f k y207).bind fun bt210 => ((tree_Parse.f k (([(⟨3, (⟨#[]⟩ : ByteArray), 4⟩ : S44)] : List (S44)))).bind fun bt219 => (if t192 = 0 then (if (t189.length : Int) = 2 then (if 0 < (t189.length : Int) then (if (((rd_T38 t189 0).f2).length : Int) = 2 then (if 1 < (t189.length : Int) then (if ((rd_T38 t189 1).f1).toList = ([100] : List UInt8) then (if (t201 == 60 && (t202 == 3)) = true then (if (bt210.2.1 == 62 && (bt210.2.2 == 2)) = true then (if (bt219.2.1 == 61 && (bt219.2.2 == 4)) = true then ((tree_Depth.f k t189).bind fun t227 => (if t227 = 2 then ((tree_Words.f k t189).bind fun t228 => ((variorumref06_Texts.f k t228 (([(⟨#[97]⟩ : ByteArray), (⟨#[98]⟩ : ByteArray), (⟨#[99]⟩ : ByteArray), (⟨#[100]⟩ : ByteArray)] : List ByteArray))).bind fun t234 => (some t234))) else (none))) else (none)) else (none)) else (none)) else (none)) else (none)) else (none)) else (none)) else (none)) else (none)))) = some r := by first | (rw [hy207]; with_reducible exact H) | (have H2_ := (Option.bind_some _ _).symm.trans H; rw [hy207]; with_reducible exact H2_) | (have H2_ := (Option.bind_some _ _).symm.trans H; with_reducible exact H2_) | with_reducible exact H | (rw [hy207]; exact H) | exact H
 have Ny207 := a_ hy207
 clear hy207
 replace H := Option.bind_eq_some_iff.mp H
 obtain ⟨⟨t210, t213, t214⟩, A100, H⟩ := H
 replace H : ((tree_Parse.f k (([(⟨3, (⟨#[]⟩ : ByteArray), 4⟩ : S44)] : List (S44)))).bind fun bt219 => (if t192 = 0 then (if (t189.length : Int) = 2 then (if 0 < (t189.length : Int) then (if (((rd_T38 t189 0).f2).length : Int) = 2 then (if 1 < (t189.length : Int) then (if ((rd_T38 t189 1).f1).toList = ([100] : List UInt8) then (if (t201 == 60 && (t202 == 3)) = true then (if (t213 == 62 && (t214 == 2)) = true then (if (bt219.2.1 == 61 && (bt219.2.2 == 4)) = true then ((tree_Depth.f k t189).bind fun t227 => (if t227 = 2 then ((tree_Words.f k t189).bind fun t228 => ((variorumref06_Texts.f k t228 (([(⟨#[97]⟩ : ByteArray), (⟨#[98]⟩ : ByteArray), (⟨#[99]⟩ : ByteArray), (⟨#[100]⟩ : ByteArray)] : List ByteArray))).bind fun t234 => (some t234))) else (none))) else (none)) else (none)) else (none)) else (none)) else (none)) else (none)) else (none)) else (none)) else (none))) = some r := H
 have A10 := a_ A100
 clear A100
 obtain ⟨y216, hy216⟩ : ∃ y_ : List (S44), y_ = (([(⟨3, (⟨#[]⟩ : ByteArray), 4⟩ : S44)] : List (S44))) := ⟨_, rfl⟩
 replace H : ((tree_Parse.f k y216).bind fun bt219 => (if t192 = 0 then (if (t189.length : Int) = 2 then (if 0 < (t189.length : Int) then (if (((rd_T38 t189 0).f2).length : Int) = 2 then (if 1 < (t189.length : Int) then (if ((rd_T38 t189 1).f1).toList = ([100] : List UInt8) then (if (t201 == 60 && (t202 == 3)) = true then (if (t213 == 62 && (t214 == 2)) = true then (if (bt219.2.1 == 61 && (bt219.2.2 == 4)) = true then ((tree_Depth.f k t189).bind fun t227 => (if t227 = 2 then ((tree_Words.f k t189).bind fun t228 => ((variorumref06_Texts.f k t228 (([(⟨#[97]⟩ : ByteArray), (⟨#[98]⟩ : ByteArray), (⟨#[99]⟩ : ByteArray), (⟨#[100]⟩ : ByteArray)] : List ByteArray))).bind fun t234 => (some t234))) else (none))) else (none)) else (none)) else (none)) else (none)) else (none)) else (none)) else (none)) else (none)) else (none))) = some r := by first | (rw [hy216]; with_reducible exact H) | (have H2_ := (Option.bind_some _ _).symm.trans H; rw [hy216]; with_reducible exact H2_) | (have H2_ := (Option.bind_some _ _).symm.trans H; with_reducible exact H2_) | with_reducible exact H | (rw [hy216]; exact H) | exact H
 have Ny216 := a_ hy216
 clear hy216
 replace H := Option.bind_eq_some_iff.mp H
 obtain ⟨⟨t219, t222, t223⟩, A110, H⟩ := H
 replace H : (if t192 = 0 then (if (t189.length : Int) = 2 then (if 0 < (t189.length : Int) then (if (((rd_T38 t189 0).f2).length : Int) = 2 then (if 1 < (t189.length : Int) then (if ((rd_T38 t189 1).f1).toList = ([100] : List UInt8) then (if (t201 == 60 && (t202 == 3)) = true then (if (t213 == 62 && (t214 == 2)) = true then (if (t222 == 61 && (t223 == 4)) = true then ((tree_Depth.f k t189).bind fun t227 => (if t227 = 2 then ((tree_Words.f k t189).bind fun t228 => ((variorumref06_Texts.f k t228 (([(⟨#[97]⟩ : ByteArray), (⟨#[98]⟩ : ByteArray), (⟨#[99]⟩ : ByteArray), (⟨#[100]⟩ : ByteArray)] : List ByteArray))).bind fun t234 => (some t234))) else (none))) else (none)) else (none)) else (none)) else (none)) else (none)) else (none)) else (none)) else (none)) else (none)) = some r := H
 have A11 := a_ A110
 clear A110
 by_cases c12 : t192 = 0
 ·rw [if_pos c12] at H
  have c12b0 : (t192 == 0) = true := beq_iff_eq.mpr c12
  have c12b1 : (t192 != 0) = false := bne_eq_false_iff_eq.mpr c12
  clear c12
  by_cases c13 : (t189.length : Int) = 2
  ·rw [if_pos c13] at H
   have c13b0 : ((t189.length : Int) == 2) = true := beq_iff_eq.mpr c13
   have c13b1 : ((t189.length : Int) != 2) = false := bne_eq_false_iff_eq.mpr c13
   clear c13
   by_cases c14 : 0 < (t189.length : Int)
   ·rw [if_pos c14] at H
    have c14b0 : decide (0 < (t189.length : Int)) = true := decide_eq_true c14
    have c14b1 : decide (0 < t189.length) = true := decide_eq_true (by omega)
    clear c14
    by_cases c15 : (((rd_T38 t189 0).f2).length : Int) = 2
    ·rw [if_pos c15] at H
     have c15b0 : ((((rd_T38 t189 0).f2).length : Int) == 2) = true := beq_iff_eq.mpr c15
     have c15b1 : ((((rd_T38 t189 0).f2).length : Int) != 2) = false := bne_eq_false_iff_eq.mpr c15
     clear c15
     by_cases c16 : 1 < (t189.length : Int)
     ·rw [if_pos c16] at H
      have c16b0 : decide (1 < (t189.length : Int)) = true := decide_eq_true c16
      have c16b1 : decide (1 < t189.length) = true := decide_eq_true (by omega)
      clear c16
      by_cases c17 : ((rd_T38 t189 1).f1).toList = ([100] : List UInt8)
      ·rw [if_pos c17] at H
       have c17b0 : (((rd_T38 t189 1).f1).toList == ([100] : List UInt8)) = true := beq_iff_eq.mpr c17
       have c17b1 : (((rd_T38 t189 1).f1).toList != ([100] : List UInt8)) = false := bne_eq_false_iff_eq.mpr c17
       clear c17
       by_cases c18 : (t201 == 60 && (t202 == 3)) = true
       ·rw [if_pos c18] at H
        have c18b0 : (t201 == 60 && (t202 == 3)) = true := c18
        (try (have c18b1 : decide (t201 = 60 && (t202 == 3)) = true := by simpa using c18))
        (try (have c18b2 : (t201 == 60 && (t202 == 3)) = true := by simpa using c18))
        clear c18
        by_cases c19 : (t213 == 62 && (t214 == 2)) = true
        ·rw [if_pos c19] at H
         have c19b0 : (t213 == 62 && (t214 == 2)) = true := c19
         (try (have c19b1 : decide (t213 = 62 && (t214 == 2)) = true := by simpa using c19))
         (try (have c19b2 : (t213 == 62 && (t214 == 2)) = true := by simpa using c19))
         clear c19
         by_cases c20 : (t222 == 61 && (t223 == 4)) = true
         ·rw [if_pos c20] at H
          have c20b0 : (t222 == 61 && (t223 == 4)) = true := c20
          (try (have c20b1 : decide (t222 = 61 && (t223 == 4)) = true := by simpa using c20))
          (try (have c20b2 : (t222 == 61 && (t223 == 4)) = true := by simpa using c20))
          clear c20
          replace H := Option.bind_eq_some_iff.mp H
          obtain ⟨t227, A210, H⟩ := H
          replace H : (if t227 = 2 then ((tree_Words.f k t189).bind fun t228 => ((variorumref06_Texts.f k t228 (([(⟨#[97]⟩ : ByteArray), (⟨#[98]⟩ : ByteArray), (⟨#[99]⟩ : ByteArray), (⟨#[100]⟩ : ByteArray)] : List ByteArray))).bind fun t234 => (some t234))) else (none)) = some r := H
          have A21 := a_ A210
          clear A210
          by_cases c22 : t227 = 2
          ·rw [if_pos c22] at H
           have c22b0 : (t227 == 2) = true := beq_iff_eq.mpr c22
           have c22b1 : (t227 != 2) = false := bne_eq_false_iff_eq.mpr c22
           clear c22
           replace H := Option.bind_eq_some_iff.mp H
           obtain ⟨t228, A230, H⟩ := H
           replace H : ((variorumref06_Texts.f k t228 (([(⟨#[97]⟩ : ByteArray), (⟨#[98]⟩ : ByteArray), (⟨#[99]⟩ : ByteArray), (⟨#[100]⟩ : ByteArray)] : List ByteArray))).bind fun t234 => (some t234)) = some r := H
           have A23 := a_ A230
           clear A230
           obtain ⟨y231, hy231⟩ : ∃ y_ : List ByteArray, y_ = (([(⟨#[97]⟩ : ByteArray), (⟨#[98]⟩ : ByteArray), (⟨#[99]⟩ : ByteArray), (⟨#[100]⟩ : ByteArray)] : List ByteArray)) := ⟨_, rfl⟩
           replace H : ((variorumref06_Texts.f k t228 y231).bind fun t234 => (some t234)) = some r := by first | (rw [hy231]; with_reducible exact H) | (have H2_ := (Option.bind_some _ _).symm.trans H; rw [hy231]; with_reducible exact H2_) | (have H2_ := (Option.bind_some _ _).symm.trans H; with_reducible exact H2_) | with_reducible exact H | (rw [hy231]; exact H) | exact H
           have Ny231 := a_ hy231
           clear hy231
           replace H := Option.bind_eq_some_iff.mp H
           obtain ⟨t234, A240, H⟩ := H
           replace H : (some t234) = some r := H
           have A24 := a_ A240
           clear A240
           obtain rfl := Option.some.inj H
           go_enter Try.func9, Try.ntmps9
           try go_wp2_with (first | ((with_reducible refine gate_dst (N := 1) rfl ?_); (try (refine gate_guard (by rfl) ?_; dsimp only)); refine box_event ?hg (N := 1) ?hd (cs := #[.int .i64 0, .string (⟨#[]⟩ : ByteArray), .int .i64 0]) (t := 44) ?hr ?_; (case hd => rfl); (case hg => rfl); (case hr => first | (go_simp; done) | (go_simp; rfl)); intro gb166 hg w25 hbox hb; have n0_ := a_ (bs_ HB.out hb); have n1_ := a_ (hbox); have n2_ := a_ ((by rw [hg]; exact (below_size (bv_ HB.out)) : w.heap.size ≤ gb166)); have n3_ := a_ ((by rw [hg]; exact (below_size (bv_ HB.out)) : w.heap.size ≤ gb166)); clear HB; have HB := n0_; have BK166 := n1_; have GW166 := n2_; have GE166 := n3_; clear n0_ n1_ n2_ n3_; clear hb hbox hg) | ((with_reducible refine gate_dst (N := 2) rfl ?_); (try (refine gate_guard (by rfl) ?_; dsimp only)); refine box_event ?hg (N := 2) ?hd (cs := #[.int .i64 0, .string (⟨#[]⟩ : ByteArray), .int .i64 0]) (t := 44) ?hr ?_; (case hd => rfl); (case hg => rfl); (case hr => first | (go_simp; done) | (go_simp; rfl)); intro gb167 hg w26 hbox hb; have n0_ := a_ (kb_ BK166.out hb); have n1_ := a_ (below_step (bS1_ HB.out GE166.out) hb); have n2_ := a_ (hbox); have n3_ := a_ ((by rw [hg]; exact (below_size (bS1_ HB.out GE166.out)) : w.heap.size ≤ gb167)); have n4_ := a_ ((by rw [hg]; exact (below_size (bS1_ HB.out GE166.out)) : w.heap.size ≤ gb167)); have n5_ := a_ ((by rw [hg]; exact Nat.ne_of_lt (blk_lt (kv_ BK166.out)) : gb166 ≠ gb167)); have n6_ := a_ ((by rw [hg]; exact Nat.ne_of_gt (blk_lt (kv_ BK166.out)) : gb167 ≠ gb166)); clear BK166; clear HB; have BK166 := n0_; have HB := n1_; have BK167 := n2_; have GW167 := n3_; have GE167 := n4_; have NB166_167 := n5_; have NB167_166 := n6_; clear n0_ n1_ n2_ n3_ n4_ n5_ n6_; clear hb hbox hg; have hnb27 := NB166_167.out; have hnc27 := NB167_166.out; obtain ⟨⟨Z28_0, Y28_0⟩, ⟨Z28_1, Y28_1⟩, Z28_2, Y28_2⟩ := cs3_ BK166.out; obtain ⟨⟨Z29_0, Y29_0⟩, ⟨Z29_1, Y29_1⟩, Z29_2, Y29_2⟩ := cs3_ BK167.out))
           have n0_ : Aside0 (((((((w26.setCell ⟨gb166, 0, none⟩ (.int .i64 2)).setCell ⟨gb166, 1, none⟩ (.string (⟨#[]⟩ : ByteArray))).setCell ⟨gb166, 2, none⟩ (.int .i64 0)).setCell ⟨gb167, 0, none⟩ (.int .i64 3)).setCell ⟨gb167, 1, none⟩ (.string (⟨#[]⟩ : ByteArray))).setCell ⟨gb167, 2, none⟩ (.int .i64 0)).heap[gb166]? = some (.cells #[.int .i64 2, .string (⟨#[]⟩ : ByteArray), .int .i64 0] 44 (0, 0))) := ⟨kp1_ BK166.out NB166_167.out⟩
           have n1_ : Aside0 (((((((w26.setCell ⟨gb166, 0, none⟩ (.int .i64 2)).setCell ⟨gb166, 1, none⟩ (.string (⟨#[]⟩ : ByteArray))).setCell ⟨gb166, 2, none⟩ (.int .i64 0)).setCell ⟨gb167, 0, none⟩ (.int .i64 3)).setCell ⟨gb167, 1, none⟩ (.string (⟨#[]⟩ : ByteArray))).setCell ⟨gb167, 2, none⟩ (.int .i64 0)).heap[gb167]? = some (.cells #[.int .i64 3, .string (⟨#[]⟩ : ByteArray), .int .i64 0] 44 (0, 0))) := ⟨kp1_ BK167.out NB167_166.out⟩
           have n2_ : Aside0 (Below w.heap.size w ((((((w26.setCell ⟨gb166, 0, none⟩ (.int .i64 2)).setCell ⟨gb166, 1, none⟩ (.string (⟨#[]⟩ : ByteArray))).setCell ⟨gb166, 2, none⟩ (.int .i64 0)).setCell ⟨gb167, 0, none⟩ (.int .i64 3)).setCell ⟨gb167, 1, none⟩ (.string (⟨#[]⟩ : ByteArray))).setCell ⟨gb167, 2, none⟩ (.int .i64 0))) := ⟨bS2_ HB.out GE166.out GE167.out⟩
           (try clear BK166)
           (try clear BK167)
           (try clear HB)
           generalize ((((((w26.setCell ⟨gb166, 0, none⟩ (.int .i64 2)).setCell ⟨gb166, 1, none⟩ (.string (⟨#[]⟩ : ByteArray))).setCell ⟨gb166, 2, none⟩ (.int .i64 0)).setCell ⟨gb167, 0, none⟩ (.int .i64 3)).setCell ⟨gb167, 1, none⟩ (.string (⟨#[]⟩ : ByteArray))).setCell ⟨gb167, 2, none⟩ (.int .i64 0)) = w30 at n0_ n1_ n2_ ⊢
           have BK166 := n0_
           have BK167 := n1_
           have HB := n2_
           clear n0_ n1_ n2_
           have n0_ := a_ (blk_drew BK166.out)
           have n1_ := a_ (blk_drew BK167.out)
           have n2_ := a_ (below_drew1 HB.out)
           clear BK166
           clear BK167
           clear HB
           have BK166 := n0_
           have BK167 := n1_
           have HB := n2_
           clear n0_ n1_ n2_
           refine start_ (n := 20) (S := fun w' => w'.cell? ⟨gb166, 0, none⟩ = some (.int .i64 2) ∧ w'.cell? ⟨gb166, 1, none⟩ = some (.string (⟨#[]⟩ : ByteArray)) ∧ w'.cell? ⟨gb166, 2, none⟩ = some (.int .i64 0) ∧ w'.cell? ⟨gb167, 0, none⟩ = some (.int .i64 3) ∧ w'.cell? ⟨gb167, 1, none⟩ = some (.string (⟨#[]⟩ : ByteArray)) ∧ w'.cell? ⟨gb167, 2, none⟩ = some (.int .i64 0)) (ds := []) #[false, false, false, false, false, false, false, false, false, false, false, false, false, false, false, false, false, false, false, false] (by kernel_rfl) rfl rfl ⟨(blk_cell BK166.out 0).trans rfl, (blk_cell BK166.out 1).trans rfl, (blk_cell BK166.out 2).trans rfl, (blk_cell BK167.out 0).trans rfl, (blk_cell BK167.out 1).trans rfl, (blk_cell BK167.out 2).trans rfl⟩ (fun hHeld => ?_); refine with_tabW variorumlaw06_fixed.tab2 variorumlaw06_fixed.bits2 (fun HT_ HW_ => ?_)
           generalize w30.drew = w31 at BK166 BK167 HB hHeld ⊢
           refine take_ (i := 1) (N := some 15) (v := ?_) (a' := ?_) #[false, true, false, false, false, false, false, false, false, false, false, false, false, false, false, false, false, false, false, false] rfl rfl (take_ofW HT_.out HW_.out (by kernel_rfl)) (fun _ _ _ h => h) (Or.inl ⟨by rfl, ?_⟩) hHeld ?_ ?_
           rotate_left
           ·rintro w' ⟨s0, s1, s2, s3, s4, s5⟩
            go_simp
            with_reducible rfl
           rotate_left
           ·simp only [Act.put, List.setIfInBounds_toArray, List.set_cons_zero, List.set_cons_succ, i64_w, i32_w]
            rfl
           refine take_ (i := 4) (N := some 18) (v := ?_) (a' := ?_) #[false, true, false, false, true, false, false, false, false, false, false, false, false, false, false, false, false, false, false, false] rfl rfl (take_ofW HT_.out HW_.out (by kernel_rfl)) (fun _ _ _ h => h) (Or.inl ⟨by rfl, ?_⟩) hHeld ?_ ?_
           rotate_left
           ·rintro w' ⟨s0, s1, s2, s3, s4, s5⟩
            go_simp
            with_reducible rfl
           rotate_left
           ·simp only [Act.put, List.setIfInBounds_toArray, List.set_cons_zero, List.set_cons_succ, i64_w, i32_w]
            rfl
           refine take_ (i := 5) (N := some 19) (v := ?_) (a' := ?_) #[false, true, false, false, true, true, false, false, false, false, false, false, false, false, false, false, false, false, false, false] rfl rfl (take_ofW HT_.out HW_.out (by kernel_rfl)) (fun _ _ _ h => h) (Or.inl ⟨by rfl, ?_⟩) hHeld ?_ ?_
           rotate_left
           ·rintro w' ⟨s0, s1, s2, s3, s4, s5⟩
            go_simp
            with_reducible rfl
           rotate_left
           ·simp only [Act.put, List.setIfInBounds_toArray, List.set_cons_zero, List.set_cons_succ, i64_w, i32_w]
            rfl
           refine take_ (i := 7) (N := some 21) (v := ?_) (a' := ?_) #[false, true, false, false, true, true, false, true, false, false, false, false, false, false, false, false, false, false, false, false] rfl rfl (take_ofW HT_.out HW_.out (by kernel_rfl)) (fun _ _ _ h => h) (Or.inl ⟨by rfl, ?_⟩) hHeld ?_ ?_
           rotate_left
           ·rintro w' ⟨s0, s1, s2, s3, s4, s5⟩
            go_simp
            with_reducible rfl
           rotate_left
           ·simp only [Act.put, List.setIfInBounds_toArray, List.set_cons_zero, List.set_cons_succ, i64_w, i32_w]
            rfl
           refine take_ (i := 9) (N := some 23) (v := ?_) (a' := ?_) #[false, true, false, false, true, true, false, true, false, true, false, false, false, false, false, false, false, false, false, false] rfl rfl (take_ofW HT_.out HW_.out (by kernel_rfl)) (fun _ _ _ h => h) (Or.inl ⟨by rfl, ?_⟩) hHeld ?_ ?_
           rotate_left
           ·rintro w' ⟨s0, s1, s2, s3, s4, s5⟩
            go_simp
            with_reducible rfl
           rotate_left
           ·simp only [Act.put, List.setIfInBounds_toArray, List.set_cons_zero, List.set_cons_succ, i64_w, i32_w]
            rfl
           refine take_ (i := 10) (N := some 24) (v := ?_) (a' := ?_) #[false, true, false, false, true, true, false, true, false, true, true, false, false, false, false, false, false, false, false, false] rfl rfl (take_ofW HT_.out HW_.out (by kernel_rfl)) (fun _ _ _ h => h) (Or.inl ⟨by rfl, ?_⟩) hHeld ?_ ?_
           rotate_left
           ·rintro w' ⟨s0, s1, s2, s3, s4, s5⟩
            go_simp
            with_reducible rfl
           rotate_left
           ·simp only [Act.put, List.setIfInBounds_toArray, List.set_cons_zero, List.set_cons_succ, i64_w, i32_w]
            rfl
           refine join_ (σ := Value × Value × Nat) 2 #[true, true, true, true, true, true, true, true, true, true, true, true, true, true, true, true, true, true, false, false] (fun s_ => [(14, .agg #[.int .i64 t168, .string t169, .int .i64 t170]), (16, .agg #[.int .i64 t171, .string t172, .int .i64 t173]), (17, .agg #[.int .i64 t174, .string t175, .int .i64 t176]), (20, .agg #[.int .i64 t177, .string t178, .int .i64 t179]), (22, .agg #[.int .i64 t180, .string t181, .int .i64 t182]), (25, .agg #[.int .i64 t183, .string t184, .int .i64 t185]), (26, s_.1), (27, .tuple #[s_.2.1, .agg #[.int .i64 t192, .int .i64 t193]]), (4, .pointer (some ⟨s_.2.2, 0, none⟩)), (13, .tuple #[s_.2.1, .agg #[.int .i64 t192, .int .i64 t193]]), (28, s_.2.1), (29, .agg #[.int .i64 t192, .int .i64 t193])]) (fun s_ w' => (w'.cell? ⟨gb166, 0, none⟩ = some (.int .i64 2) ∧ w'.cell? ⟨gb166, 1, none⟩ = some (.string (⟨#[]⟩ : ByteArray)) ∧ w'.cell? ⟨gb166, 2, none⟩ = some (.int .i64 0) ∧ w'.cell? ⟨gb167, 0, none⟩ = some (.int .i64 3) ∧ w'.cell? ⟨gb167, 1, none⟩ = some (.string (⟨#[]⟩ : ByteArray)) ∧ w'.cell? ⟨gb167, 2, none⟩ = some (.int .i64 0)) ∧ (Kd.R k44 44 w' w.heap.size (fun k_ => k_ ≠ gb166 ∧ k_ ≠ gb167) s_.1 y186) ∧ (Kd.R k38 38 w' w.heap.size (fun _ => True) s_.2.1 t189) ∧ (w'.heap[gb166]? = some (.cells #[.int .i64 2, .string (⟨#[]⟩ : ByteArray), .int .i64 0] 44 (0, 0))) ∧ (w'.heap[gb167]? = some (.cells #[.int .i64 3, .string (⟨#[]⟩ : ByteArray), .int .i64 0] 44 (0, 0))) ∧ (w'.heap[s_.2.2]? = some (.cells #[.int .i64 0, .int .i64 0] 26 (0, 0))) ∧ (w.heap.size ≤ s_.2.2) ∧ (w.heap.size ≤ s_.2.2) ∧ (gb166 ≠ s_.2.2) ∧ (s_.2.2 ≠ gb166) ∧ (gb167 ≠ s_.2.2) ∧ (s_.2.2 ≠ gb167) ∧ (Below w.heap.size w w')) ?_ ?_
           rotate_left
           ·intro hJ0_2_3_6_8_11_12_13_17
            refine join_ (σ := Value × Value) 3 #[true, true, true, true, true, true, true, true, true, true, true, true, true, true, true, true, true, false, false, false] (fun s_ => [(14, .agg #[.int .i64 t168, .string t169, .int .i64 t170]), (16, .agg #[.int .i64 t171, .string t172, .int .i64 t173]), (17, .agg #[.int .i64 t174, .string t175, .int .i64 t176]), (20, .agg #[.int .i64 t177, .string t178, .int .i64 t179]), (22, .agg #[.int .i64 t180, .string t181, .int .i64 t182]), (25, .agg #[.int .i64 t183, .string t184, .int .i64 t185]), (26, s_.1), (27, .tuple #[s_.2, .agg #[.int .i64 t192, .int .i64 t193]]), (13, .tuple #[s_.2, .agg #[.int .i64 t192, .int .i64 t193]]), (28, s_.2), (29, .agg #[.int .i64 t192, .int .i64 t193])]) (fun s_ w' => (w'.cell? ⟨gb166, 0, none⟩ = some (.int .i64 2) ∧ w'.cell? ⟨gb166, 1, none⟩ = some (.string (⟨#[]⟩ : ByteArray)) ∧ w'.cell? ⟨gb166, 2, none⟩ = some (.int .i64 0) ∧ w'.cell? ⟨gb167, 0, none⟩ = some (.int .i64 3) ∧ w'.cell? ⟨gb167, 1, none⟩ = some (.string (⟨#[]⟩ : ByteArray)) ∧ w'.cell? ⟨gb167, 2, none⟩ = some (.int .i64 0)) ∧ (Kd.R k44 44 w' w.heap.size (fun k_ => k_ ≠ gb166 ∧ k_ ≠ gb167) s_.1 y186) ∧ (Kd.R k38 38 w' w.heap.size (fun _ => True) s_.2 t189) ∧ (w'.heap[gb166]? = some (.cells #[.int .i64 2, .string (⟨#[]⟩ : ByteArray), .int .i64 0] 44 (0, 0))) ∧ (w'.heap[gb167]? = some (.cells #[.int .i64 3, .string (⟨#[]⟩ : ByteArray), .int .i64 0] 44 (0, 0))) ∧ (Below w.heap.size w w')) ?_ ?_
            rotate_left
            ·intro hJ0_2_3_6_8_11_12_13
             refine join_ (σ := Value × Nat) 6 #[true, true, true, true, true, true, true, true, true, true, true, true, true, false, false, false, false, true, false, false] (fun s_ => [(14, .agg #[.int .i64 t168, .string t169, .int .i64 t170]), (16, .agg #[.int .i64 t171, .string t172, .int .i64 t173]), (17, .agg #[.int .i64 t174, .string t175, .int .i64 t176]), (20, .agg #[.int .i64 t177, .string t178, .int .i64 t179]), (22, .agg #[.int .i64 t180, .string t181, .int .i64 t182]), (25, .agg #[.int .i64 t183, .string t184, .int .i64 t185]), (26, s_.1), (4, .pointer (some ⟨s_.2, 0, none⟩))]) (fun s_ w' => (w'.cell? ⟨gb166, 0, none⟩ = some (.int .i64 2) ∧ w'.cell? ⟨gb166, 1, none⟩ = some (.string (⟨#[]⟩ : ByteArray)) ∧ w'.cell? ⟨gb166, 2, none⟩ = some (.int .i64 0) ∧ w'.cell? ⟨gb167, 0, none⟩ = some (.int .i64 3) ∧ w'.cell? ⟨gb167, 1, none⟩ = some (.string (⟨#[]⟩ : ByteArray)) ∧ w'.cell? ⟨gb167, 2, none⟩ = some (.int .i64 0)) ∧ (Kd.R k44 44 w' w.heap.size (fun k_ => k_ ≠ gb166 ∧ k_ ≠ gb167) s_.1 y186) ∧ (w'.heap[gb166]? = some (.cells #[.int .i64 2, .string (⟨#[]⟩ : ByteArray), .int .i64 0] 44 (0, 0))) ∧ (w'.heap[gb167]? = some (.cells #[.int .i64 3, .string (⟨#[]⟩ : ByteArray), .int .i64 0] 44 (0, 0))) ∧ (w'.heap[s_.2]? = some (.cells #[.int .i64 0, .int .i64 0] 26 (0, 0))) ∧ (w.heap.size ≤ s_.2) ∧ (w.heap.size ≤ s_.2) ∧ (gb166 ≠ s_.2) ∧ (s_.2 ≠ gb166) ∧ (gb167 ≠ s_.2) ∧ (s_.2 ≠ gb167) ∧ (Below w.heap.size w w')) ?_ ?_
             rotate_left
             ·intro hJ0_2_3_6_8_11_12_17
              refine join_ (σ := Value) 7 #[true, true, true, true, true, true, true, true, true, true, true, true, true, false, false, false, false, false, false, false] (fun s_ => [(14, .agg #[.int .i64 t168, .string t169, .int .i64 t170]), (16, .agg #[.int .i64 t171, .string t172, .int .i64 t173]), (17, .agg #[.int .i64 t174, .string t175, .int .i64 t176]), (20, .agg #[.int .i64 t177, .string t178, .int .i64 t179]), (22, .agg #[.int .i64 t180, .string t181, .int .i64 t182]), (25, .agg #[.int .i64 t183, .string t184, .int .i64 t185]), (26, s_)]) (fun s_ w' => (w'.cell? ⟨gb166, 0, none⟩ = some (.int .i64 2) ∧ w'.cell? ⟨gb166, 1, none⟩ = some (.string (⟨#[]⟩ : ByteArray)) ∧ w'.cell? ⟨gb166, 2, none⟩ = some (.int .i64 0) ∧ w'.cell? ⟨gb167, 0, none⟩ = some (.int .i64 3) ∧ w'.cell? ⟨gb167, 1, none⟩ = some (.string (⟨#[]⟩ : ByteArray)) ∧ w'.cell? ⟨gb167, 2, none⟩ = some (.int .i64 0)) ∧ (Kd.R k44 44 w' w.heap.size (fun k_ => k_ ≠ gb166 ∧ k_ ≠ gb167) s_ y186) ∧ (w'.heap[gb166]? = some (.cells #[.int .i64 2, .string (⟨#[]⟩ : ByteArray), .int .i64 0] 44 (0, 0))) ∧ (w'.heap[gb167]? = some (.cells #[.int .i64 3, .string (⟨#[]⟩ : ByteArray), .int .i64 0] 44 (0, 0))) ∧ (Below w.heap.size w w')) ?_ ?_
              rotate_left
              ·intro hJ0_2_3_6_8_11_12
               refine join_ (σ := Nat) 7 #[true, true, true, true, true, true, true, true, true, true, true, true, false, false, false, false, false, true, false, false] (fun s_ => [(14, .agg #[.int .i64 t168, .string t169, .int .i64 t170]), (16, .agg #[.int .i64 t171, .string t172, .int .i64 t173]), (17, .agg #[.int .i64 t174, .string t175, .int .i64 t176]), (20, .agg #[.int .i64 t177, .string t178, .int .i64 t179]), (22, .agg #[.int .i64 t180, .string t181, .int .i64 t182]), (25, .agg #[.int .i64 t183, .string t184, .int .i64 t185]), (4, .pointer (some ⟨s_, 0, none⟩))]) (fun s_ w' => (w'.cell? ⟨gb166, 0, none⟩ = some (.int .i64 2) ∧ w'.cell? ⟨gb166, 1, none⟩ = some (.string (⟨#[]⟩ : ByteArray)) ∧ w'.cell? ⟨gb166, 2, none⟩ = some (.int .i64 0) ∧ w'.cell? ⟨gb167, 0, none⟩ = some (.int .i64 3) ∧ w'.cell? ⟨gb167, 1, none⟩ = some (.string (⟨#[]⟩ : ByteArray)) ∧ w'.cell? ⟨gb167, 2, none⟩ = some (.int .i64 0)) ∧ (w'.heap[gb166]? = some (.cells #[.int .i64 2, .string (⟨#[]⟩ : ByteArray), .int .i64 0] 44 (0, 0))) ∧ (w'.heap[gb167]? = some (.cells #[.int .i64 3, .string (⟨#[]⟩ : ByteArray), .int .i64 0] 44 (0, 0))) ∧ (w'.heap[s_]? = some (.cells #[.int .i64 0, .int .i64 0] 26 (0, 0))) ∧ (w.heap.size ≤ s_) ∧ (w.heap.size ≤ s_) ∧ (gb166 ≠ s_) ∧ (s_ ≠ gb166) ∧ (gb167 ≠ s_) ∧ (s_ ≠ gb167) ∧ (Below w.heap.size w w')) ?_ ?_
               rotate_left
               ·intro hJ0_2_3_6_8_11_17
                refine join_ (σ := Unit) 8 #[true, true, true, true, true, true, true, true, true, true, true, true, false, false, false, false, false, false, false, false] (fun s_ => [(14, .agg #[.int .i64 t168, .string t169, .int .i64 t170]), (16, .agg #[.int .i64 t171, .string t172, .int .i64 t173]), (17, .agg #[.int .i64 t174, .string t175, .int .i64 t176]), (20, .agg #[.int .i64 t177, .string t178, .int .i64 t179]), (22, .agg #[.int .i64 t180, .string t181, .int .i64 t182]), (25, .agg #[.int .i64 t183, .string t184, .int .i64 t185])]) (fun s_ w' => (w'.cell? ⟨gb166, 0, none⟩ = some (.int .i64 2) ∧ w'.cell? ⟨gb166, 1, none⟩ = some (.string (⟨#[]⟩ : ByteArray)) ∧ w'.cell? ⟨gb166, 2, none⟩ = some (.int .i64 0) ∧ w'.cell? ⟨gb167, 0, none⟩ = some (.int .i64 3) ∧ w'.cell? ⟨gb167, 1, none⟩ = some (.string (⟨#[]⟩ : ByteArray)) ∧ w'.cell? ⟨gb167, 2, none⟩ = some (.int .i64 0)) ∧ (w'.heap[gb166]? = some (.cells #[.int .i64 2, .string (⟨#[]⟩ : ByteArray), .int .i64 0] 44 (0, 0))) ∧ (w'.heap[gb167]? = some (.cells #[.int .i64 3, .string (⟨#[]⟩ : ByteArray), .int .i64 0] 44 (0, 0))) ∧ (Below w.heap.size w w')) ?_ ?_
                rotate_left
                ·intro hJ0_2_3_6_8_11
                 refine join_ (σ := Nat) 8 #[true, true, true, true, true, true, true, true, true, true, true, false, false, false, false, false, false, true, false, false] (fun s_ => [(14, .agg #[.int .i64 t168, .string t169, .int .i64 t170]), (16, .agg #[.int .i64 t171, .string t172, .int .i64 t173]), (17, .agg #[.int .i64 t174, .string t175, .int .i64 t176]), (20, .agg #[.int .i64 t177, .string t178, .int .i64 t179]), (22, .agg #[.int .i64 t180, .string t181, .int .i64 t182]), (4, .pointer (some ⟨s_, 0, none⟩))]) (fun s_ w' => (w'.cell? ⟨gb166, 0, none⟩ = some (.int .i64 2) ∧ w'.cell? ⟨gb166, 1, none⟩ = some (.string (⟨#[]⟩ : ByteArray)) ∧ w'.cell? ⟨gb166, 2, none⟩ = some (.int .i64 0) ∧ w'.cell? ⟨gb167, 0, none⟩ = some (.int .i64 3) ∧ w'.cell? ⟨gb167, 1, none⟩ = some (.string (⟨#[]⟩ : ByteArray)) ∧ w'.cell? ⟨gb167, 2, none⟩ = some (.int .i64 0)) ∧ (w'.heap[gb166]? = some (.cells #[.int .i64 2, .string (⟨#[]⟩ : ByteArray), .int .i64 0] 44 (0, 0))) ∧ (w'.heap[gb167]? = some (.cells #[.int .i64 3, .string (⟨#[]⟩ : ByteArray), .int .i64 0] 44 (0, 0))) ∧ (w'.heap[s_]? = some (.cells #[.int .i64 0, .int .i64 0] 26 (0, 0))) ∧ (w.heap.size ≤ s_) ∧ (w.heap.size ≤ s_) ∧ (gb166 ≠ s_) ∧ (s_ ≠ gb166) ∧ (gb167 ≠ s_) ∧ (s_ ≠ gb167) ∧ (Below w.heap.size w w')) ?_ ?_
                 rotate_left
                 ·intro hJ0_2_3_6_8_17
                  refine join_ (σ := Unit) 9 #[true, true, true, true, true, true, true, true, true, true, true, false, false, false, false, false, false, false, false, false] (fun s_ => [(14, .agg #[.int .i64 t168, .string t169, .int .i64 t170]), (16, .agg #[.int .i64 t171, .string t172, .int .i64 t173]), (17, .agg #[.int .i64 t174, .string t175, .int .i64 t176]), (20, .agg #[.int .i64 t177, .string t178, .int .i64 t179]), (22, .agg #[.int .i64 t180, .string t181, .int .i64 t182])]) (fun s_ w' => (w'.cell? ⟨gb166, 0, none⟩ = some (.int .i64 2) ∧ w'.cell? ⟨gb166, 1, none⟩ = some (.string (⟨#[]⟩ : ByteArray)) ∧ w'.cell? ⟨gb166, 2, none⟩ = some (.int .i64 0) ∧ w'.cell? ⟨gb167, 0, none⟩ = some (.int .i64 3) ∧ w'.cell? ⟨gb167, 1, none⟩ = some (.string (⟨#[]⟩ : ByteArray)) ∧ w'.cell? ⟨gb167, 2, none⟩ = some (.int .i64 0)) ∧ (w'.heap[gb166]? = some (.cells #[.int .i64 2, .string (⟨#[]⟩ : ByteArray), .int .i64 0] 44 (0, 0))) ∧ (w'.heap[gb167]? = some (.cells #[.int .i64 3, .string (⟨#[]⟩ : ByteArray), .int .i64 0] 44 (0, 0))) ∧ (Below w.heap.size w w')) ?_ ?_
                  rotate_left
                  ·intro hJ0_2_3_6_8
                   refine join_ (σ := Nat) 9 #[true, true, true, true, true, true, true, true, false, true, true, false, false, false, false, false, false, true, false, false] (fun s_ => [(14, .agg #[.int .i64 t168, .string t169, .int .i64 t170]), (16, .agg #[.int .i64 t171, .string t172, .int .i64 t173]), (17, .agg #[.int .i64 t174, .string t175, .int .i64 t176]), (20, .agg #[.int .i64 t177, .string t178, .int .i64 t179]), (4, .pointer (some ⟨s_, 0, none⟩))]) (fun s_ w' => (w'.cell? ⟨gb166, 0, none⟩ = some (.int .i64 2) ∧ w'.cell? ⟨gb166, 1, none⟩ = some (.string (⟨#[]⟩ : ByteArray)) ∧ w'.cell? ⟨gb166, 2, none⟩ = some (.int .i64 0) ∧ w'.cell? ⟨gb167, 0, none⟩ = some (.int .i64 3) ∧ w'.cell? ⟨gb167, 1, none⟩ = some (.string (⟨#[]⟩ : ByteArray)) ∧ w'.cell? ⟨gb167, 2, none⟩ = some (.int .i64 0)) ∧ (w'.heap[gb166]? = some (.cells #[.int .i64 2, .string (⟨#[]⟩ : ByteArray), .int .i64 0] 44 (0, 0))) ∧ (w'.heap[gb167]? = some (.cells #[.int .i64 3, .string (⟨#[]⟩ : ByteArray), .int .i64 0] 44 (0, 0))) ∧ (w'.heap[s_]? = some (.cells #[.int .i64 0, .int .i64 0] 26 (0, 0))) ∧ (w.heap.size ≤ s_) ∧ (w.heap.size ≤ s_) ∧ (gb166 ≠ s_) ∧ (s_ ≠ gb166) ∧ (gb167 ≠ s_) ∧ (s_ ≠ gb167) ∧ (Below w.heap.size w w')) ?_ ?_
                   rotate_left
                   ·intro hJ0_2_3_6_17
                    refine join_ (σ := Unit) 10 #[true, true, true, true, true, true, true, true, false, true, true, false, false, false, false, false, false, false, false, false] (fun s_ => [(14, .agg #[.int .i64 t168, .string t169, .int .i64 t170]), (16, .agg #[.int .i64 t171, .string t172, .int .i64 t173]), (17, .agg #[.int .i64 t174, .string t175, .int .i64 t176]), (20, .agg #[.int .i64 t177, .string t178, .int .i64 t179])]) (fun s_ w' => (w'.cell? ⟨gb166, 0, none⟩ = some (.int .i64 2) ∧ w'.cell? ⟨gb166, 1, none⟩ = some (.string (⟨#[]⟩ : ByteArray)) ∧ w'.cell? ⟨gb166, 2, none⟩ = some (.int .i64 0) ∧ w'.cell? ⟨gb167, 0, none⟩ = some (.int .i64 3) ∧ w'.cell? ⟨gb167, 1, none⟩ = some (.string (⟨#[]⟩ : ByteArray)) ∧ w'.cell? ⟨gb167, 2, none⟩ = some (.int .i64 0)) ∧ (w'.heap[gb166]? = some (.cells #[.int .i64 2, .string (⟨#[]⟩ : ByteArray), .int .i64 0] 44 (0, 0))) ∧ (w'.heap[gb167]? = some (.cells #[.int .i64 3, .string (⟨#[]⟩ : ByteArray), .int .i64 0] 44 (0, 0))) ∧ (Below w.heap.size w w')) ?_ ?_
                    rotate_left
                    ·intro hJ0_2_3_6
                     refine join_ (σ := Nat) 10 #[true, true, true, true, true, true, false, true, false, true, true, false, false, false, false, false, false, true, false, false] (fun s_ => [(14, .agg #[.int .i64 t168, .string t169, .int .i64 t170]), (16, .agg #[.int .i64 t171, .string t172, .int .i64 t173]), (17, .agg #[.int .i64 t174, .string t175, .int .i64 t176]), (4, .pointer (some ⟨s_, 0, none⟩))]) (fun s_ w' => (w'.cell? ⟨gb166, 0, none⟩ = some (.int .i64 2) ∧ w'.cell? ⟨gb166, 1, none⟩ = some (.string (⟨#[]⟩ : ByteArray)) ∧ w'.cell? ⟨gb166, 2, none⟩ = some (.int .i64 0) ∧ w'.cell? ⟨gb167, 0, none⟩ = some (.int .i64 3) ∧ w'.cell? ⟨gb167, 1, none⟩ = some (.string (⟨#[]⟩ : ByteArray)) ∧ w'.cell? ⟨gb167, 2, none⟩ = some (.int .i64 0)) ∧ (w'.heap[gb166]? = some (.cells #[.int .i64 2, .string (⟨#[]⟩ : ByteArray), .int .i64 0] 44 (0, 0))) ∧ (w'.heap[gb167]? = some (.cells #[.int .i64 3, .string (⟨#[]⟩ : ByteArray), .int .i64 0] 44 (0, 0))) ∧ (w'.heap[s_]? = some (.cells #[.int .i64 0, .int .i64 0] 26 (0, 0))) ∧ (w.heap.size ≤ s_) ∧ (w.heap.size ≤ s_) ∧ (gb166 ≠ s_) ∧ (s_ ≠ gb166) ∧ (gb167 ≠ s_) ∧ (s_ ≠ gb167) ∧ (Below w.heap.size w w')) ?_ ?_
                     rotate_left
                     ·intro hJ0_2_3_17
                      refine join_ (σ := Unit) 11 #[true, true, true, true, true, true, false, true, false, true, true, false, false, false, false, false, false, false, false, false] (fun s_ => [(14, .agg #[.int .i64 t168, .string t169, .int .i64 t170]), (16, .agg #[.int .i64 t171, .string t172, .int .i64 t173]), (17, .agg #[.int .i64 t174, .string t175, .int .i64 t176])]) (fun s_ w' => (w'.cell? ⟨gb166, 0, none⟩ = some (.int .i64 2) ∧ w'.cell? ⟨gb166, 1, none⟩ = some (.string (⟨#[]⟩ : ByteArray)) ∧ w'.cell? ⟨gb166, 2, none⟩ = some (.int .i64 0) ∧ w'.cell? ⟨gb167, 0, none⟩ = some (.int .i64 3) ∧ w'.cell? ⟨gb167, 1, none⟩ = some (.string (⟨#[]⟩ : ByteArray)) ∧ w'.cell? ⟨gb167, 2, none⟩ = some (.int .i64 0)) ∧ (w'.heap[gb166]? = some (.cells #[.int .i64 2, .string (⟨#[]⟩ : ByteArray), .int .i64 0] 44 (0, 0))) ∧ (w'.heap[gb167]? = some (.cells #[.int .i64 3, .string (⟨#[]⟩ : ByteArray), .int .i64 0] 44 (0, 0))) ∧ (Below w.heap.size w w')) ?_ ?_
                      rotate_left
                      ·intro hJ0_2_3
                       refine join_ (σ := Nat) 11 #[true, true, true, false, true, true, false, true, false, true, true, false, false, false, false, false, false, true, false, false] (fun s_ => [(14, .agg #[.int .i64 t168, .string t169, .int .i64 t170]), (16, .agg #[.int .i64 t171, .string t172, .int .i64 t173]), (4, .pointer (some ⟨s_, 0, none⟩))]) (fun s_ w' => (w'.cell? ⟨gb166, 0, none⟩ = some (.int .i64 2) ∧ w'.cell? ⟨gb166, 1, none⟩ = some (.string (⟨#[]⟩ : ByteArray)) ∧ w'.cell? ⟨gb166, 2, none⟩ = some (.int .i64 0) ∧ w'.cell? ⟨gb167, 0, none⟩ = some (.int .i64 3) ∧ w'.cell? ⟨gb167, 1, none⟩ = some (.string (⟨#[]⟩ : ByteArray)) ∧ w'.cell? ⟨gb167, 2, none⟩ = some (.int .i64 0)) ∧ (w'.heap[gb166]? = some (.cells #[.int .i64 2, .string (⟨#[]⟩ : ByteArray), .int .i64 0] 44 (0, 0))) ∧ (w'.heap[gb167]? = some (.cells #[.int .i64 3, .string (⟨#[]⟩ : ByteArray), .int .i64 0] 44 (0, 0))) ∧ (w'.heap[s_]? = some (.cells #[.int .i64 0, .int .i64 0] 26 (0, 0))) ∧ (w.heap.size ≤ s_) ∧ (w.heap.size ≤ s_) ∧ (gb166 ≠ s_) ∧ (s_ ≠ gb166) ∧ (gb167 ≠ s_) ∧ (s_ ≠ gb167) ∧ (Below w.heap.size w w')) ?_ ?_
                       rotate_left
                       ·intro hJ0_2_17
                        refine join_ (σ := Unit) 12 #[true, true, true, false, true, true, false, true, false, true, true, false, false, false, false, false, false, false, false, false] (fun s_ => [(14, .agg #[.int .i64 t168, .string t169, .int .i64 t170]), (16, .agg #[.int .i64 t171, .string t172, .int .i64 t173])]) (fun s_ w' => (w'.cell? ⟨gb166, 0, none⟩ = some (.int .i64 2) ∧ w'.cell? ⟨gb166, 1, none⟩ = some (.string (⟨#[]⟩ : ByteArray)) ∧ w'.cell? ⟨gb166, 2, none⟩ = some (.int .i64 0) ∧ w'.cell? ⟨gb167, 0, none⟩ = some (.int .i64 3) ∧ w'.cell? ⟨gb167, 1, none⟩ = some (.string (⟨#[]⟩ : ByteArray)) ∧ w'.cell? ⟨gb167, 2, none⟩ = some (.int .i64 0)) ∧ (w'.heap[gb166]? = some (.cells #[.int .i64 2, .string (⟨#[]⟩ : ByteArray), .int .i64 0] 44 (0, 0))) ∧ (w'.heap[gb167]? = some (.cells #[.int .i64 3, .string (⟨#[]⟩ : ByteArray), .int .i64 0] 44 (0, 0))) ∧ (Below w.heap.size w w')) ?_ ?_
                        rotate_left
                        ·intro hJ0_2
                         refine join_ (σ := Nat) 12 #[true, true, false, false, true, true, false, true, false, true, true, false, false, false, false, false, false, true, false, false] (fun s_ => [(14, .agg #[.int .i64 t168, .string t169, .int .i64 t170]), (4, .pointer (some ⟨s_, 0, none⟩))]) (fun s_ w' => (w'.cell? ⟨gb166, 0, none⟩ = some (.int .i64 2) ∧ w'.cell? ⟨gb166, 1, none⟩ = some (.string (⟨#[]⟩ : ByteArray)) ∧ w'.cell? ⟨gb166, 2, none⟩ = some (.int .i64 0) ∧ w'.cell? ⟨gb167, 0, none⟩ = some (.int .i64 3) ∧ w'.cell? ⟨gb167, 1, none⟩ = some (.string (⟨#[]⟩ : ByteArray)) ∧ w'.cell? ⟨gb167, 2, none⟩ = some (.int .i64 0)) ∧ (w'.heap[gb166]? = some (.cells #[.int .i64 2, .string (⟨#[]⟩ : ByteArray), .int .i64 0] 44 (0, 0))) ∧ (w'.heap[gb167]? = some (.cells #[.int .i64 3, .string (⟨#[]⟩ : ByteArray), .int .i64 0] 44 (0, 0))) ∧ (w'.heap[s_]? = some (.cells #[.int .i64 0, .int .i64 0] 26 (0, 0))) ∧ (w.heap.size ≤ s_) ∧ (w.heap.size ≤ s_) ∧ (gb166 ≠ s_) ∧ (s_ ≠ gb166) ∧ (gb167 ≠ s_) ∧ (s_ ≠ gb167) ∧ (Below w.heap.size w w')) ?_ ?_
                         rotate_left
                         ·intro hJ0_17
                          refine join_ (σ := Unit) 13 #[true, true, false, false, true, true, false, true, false, true, true, false, false, false, false, false, false, false, false, false] (fun s_ => [(14, .agg #[.int .i64 t168, .string t169, .int .i64 t170])]) (fun s_ w' => (w'.cell? ⟨gb166, 0, none⟩ = some (.int .i64 2) ∧ w'.cell? ⟨gb166, 1, none⟩ = some (.string (⟨#[]⟩ : ByteArray)) ∧ w'.cell? ⟨gb166, 2, none⟩ = some (.int .i64 0) ∧ w'.cell? ⟨gb167, 0, none⟩ = some (.int .i64 3) ∧ w'.cell? ⟨gb167, 1, none⟩ = some (.string (⟨#[]⟩ : ByteArray)) ∧ w'.cell? ⟨gb167, 2, none⟩ = some (.int .i64 0)) ∧ (w'.heap[gb166]? = some (.cells #[.int .i64 2, .string (⟨#[]⟩ : ByteArray), .int .i64 0] 44 (0, 0))) ∧ (w'.heap[gb167]? = some (.cells #[.int .i64 3, .string (⟨#[]⟩ : ByteArray), .int .i64 0] 44 (0, 0))) ∧ (Below w.heap.size w w')) ?_ ?_
                          rotate_left
                          ·intro hJ0
                           refine join_ (σ := Nat) 13 #[false, true, false, false, true, true, false, true, false, true, true, false, false, false, false, false, false, true, false, false] (fun s_ => [(4, .pointer (some ⟨s_, 0, none⟩))]) (fun s_ w' => (w'.cell? ⟨gb166, 0, none⟩ = some (.int .i64 2) ∧ w'.cell? ⟨gb166, 1, none⟩ = some (.string (⟨#[]⟩ : ByteArray)) ∧ w'.cell? ⟨gb166, 2, none⟩ = some (.int .i64 0) ∧ w'.cell? ⟨gb167, 0, none⟩ = some (.int .i64 3) ∧ w'.cell? ⟨gb167, 1, none⟩ = some (.string (⟨#[]⟩ : ByteArray)) ∧ w'.cell? ⟨gb167, 2, none⟩ = some (.int .i64 0)) ∧ (w'.heap[gb166]? = some (.cells #[.int .i64 2, .string (⟨#[]⟩ : ByteArray), .int .i64 0] 44 (0, 0))) ∧ (w'.heap[gb167]? = some (.cells #[.int .i64 3, .string (⟨#[]⟩ : ByteArray), .int .i64 0] 44 (0, 0))) ∧ (w'.heap[s_]? = some (.cells #[.int .i64 0, .int .i64 0] 26 (0, 0))) ∧ (w.heap.size ≤ s_) ∧ (w.heap.size ≤ s_) ∧ (gb166 ≠ s_) ∧ (s_ ≠ gb166) ∧ (gb167 ≠ s_) ∧ (s_ ≠ gb167) ∧ (Below w.heap.size w w')) ?_ ?_
                           rotate_left
                           ·intro hJ17
                            refine two_ (i := 0) (j := 17) (Ni := some 14) (Nj := some 4) #[true, true, false, false, true, true, false, true, false, true, true, false, false, false, false, false, false, false, false, false] #[false, true, false, false, true, true, false, true, false, true, true, false, false, false, false, false, false, true, false, false] rfl rfl rfl rfl (two_of HT_.out (by kernel_rfl)) (by decide) (by decide) (fun K hK => ?_) (fun K hK => ?_)
                            ·skip
                             refine goes_ Try.func23 (by kernel_rfl) rfl #[.string (⟨#[101, 100]⟩ : ByteArray)] (by rfl) rfl rfl (by (try simp only [List.map_toArray, List.map_cons, List.map_nil]); first | done | rfl | (simp only [List.length_drop, List.length_take]; rfl) | (simp only [*]; first | done | rfl)) ?_
                             with_reducible refine (variorumlaw06_command.calls (⟨#[101, 100]⟩ : ByteArray) t168 t169 t170 _ A1.out).mono ?_
                             rintro e w32 ⟨rfl, hb⟩
                             refine ⟨_, rfl, ?_⟩
                             have n0_ := a_ (kb_ BK166.out hb)
                             have n1_ := a_ (kb_ BK167.out hb)
                             have n2_ := a_ (below_step (bS2_ HB.out GE166.out GE167.out) hb)
                             clear BK166
                             clear BK167
                             clear HB
                             have BK166 := n0_
                             have BK167 := n1_
                             have HB := n2_
                             clear n0_ n1_ n2_
                             (try clear hb)
                             (try clear hb2)
                             (try clear hk)
                             (try clear hi)
                             refine hK.out _ _ ⟨(blk_cell BK166.out 0).trans rfl, (blk_cell BK166.out 1).trans rfl, (blk_cell BK166.out 2).trans rfl, (blk_cell BK167.out 0).trans rfl, (blk_cell BK167.out 1).trans rfl, (blk_cell BK167.out 2).trans rfl⟩ (fun hHeld => ?_)
                             clear hK K
                             refine norm_ (a' := ?_) ?_ ?_
                             rotate_left
                             ·show Act.put _ (some 14) _ = _
                              simp only [Act.put, List.setIfInBounds_toArray, List.set_cons_zero, List.set_cons_succ, i64_w, i32_w]
                              rfl
                             exact norm_ (by first | (simp only [putAll, Act.put, List.setIfInBounds_toArray, List.set_cons_zero, List.set_cons_succ]; done) | (simp only [putAll, Act.put, List.setIfInBounds_toArray, List.set_cons_zero, List.set_cons_succ]; rfl)) (hJ0 () _ ⟨hHeld, (kv_ BK166.out), (kv_ BK167.out), (bS2_ HB.out GE166.out GE167.out)⟩)
                            ·skip
                             refine box_step ?hg (N := 4) ?hd (cs := #[.int .i64 0, .int .i64 0]) (t := 26) ?hr ?_; (case hd => rfl); (case hg => rfl); (case hr => first | (go_simp; done) | (go_simp; rfl))
                             intro gb194 hg w32 hbox hb
                             have n0_ := a_ (kb_ BK166.out hb)
                             have n1_ := a_ (kb_ BK167.out hb)
                             have n2_ := a_ (below_step (bS2_ HB.out GE166.out GE167.out) hb)
                             have n3_ := a_ (hbox)
                             have n4_ := a_ ((by rw [hg]; exact (below_size (bS2_ HB.out GE166.out GE167.out)) : w.heap.size ≤ gb194))
                             have n5_ := a_ ((by rw [hg]; exact (below_size (bS2_ HB.out GE166.out GE167.out)) : w.heap.size ≤ gb194))
                             have n6_ := a_ ((by rw [hg]; exact Nat.ne_of_lt (blk_lt (kv_ BK166.out)) : gb166 ≠ gb194))
                             have n7_ := a_ ((by rw [hg]; exact Nat.ne_of_gt (blk_lt (kv_ BK166.out)) : gb194 ≠ gb166))
                             have n8_ := a_ ((by rw [hg]; exact Nat.ne_of_lt (blk_lt (kv_ BK167.out)) : gb167 ≠ gb194))
                             have n9_ := a_ ((by rw [hg]; exact Nat.ne_of_gt (blk_lt (kv_ BK167.out)) : gb194 ≠ gb167))
                             clear BK166
                             clear BK167
                             clear HB
                             have BK166 := n0_
                             have BK167 := n1_
                             have HB := n2_
                             have BK194 := n3_
                             have GW194 := n4_
                             have GE194 := n5_
                             have NB166_194 := n6_
                             have NB194_166 := n7_
                             have NB167_194 := n8_
                             have NB194_167 := n9_
                             clear n0_ n1_ n2_ n3_ n4_ n5_ n6_ n7_ n8_ n9_
                             clear hb hbox hg
                             refine hK.out _ _ ⟨(blk_cell BK166.out 0).trans rfl, (blk_cell BK166.out 1).trans rfl, (blk_cell BK166.out 2).trans rfl, (blk_cell BK167.out 0).trans rfl, (blk_cell BK167.out 1).trans rfl, (blk_cell BK167.out 2).trans rfl⟩ (fun hHeld => ?_)
                             clear hK K
                             refine norm_ (a' := ?_) ?_ ?_
                             rotate_left
                             ·show Act.put _ (some 4) _ = _
                              simp only [Act.put, List.setIfInBounds_toArray, List.set_cons_zero, List.set_cons_succ, i64_w, i32_w]
                              rfl
                             exact norm_ (by first | (simp only [putAll, Act.put, List.setIfInBounds_toArray, List.set_cons_zero, List.set_cons_succ]; done) | (simp only [putAll, Act.put, List.setIfInBounds_toArray, List.set_cons_zero, List.set_cons_succ]; rfl)) (hJ17 (gb194) _ ⟨hHeld, (kv_ BK166.out), (kv_ BK167.out), (kv_ BK194.out), GW194.out, GE194.out, NB166_194.out, NB194_166.out, NB167_194.out, NB194_167.out, (bS3_ HB.out GE166.out GE167.out GE194.out)⟩)
                           ·skip
                            rintro gb194 w33 ⟨hS_, h0_, h1_, h2_, h3_, h4_, h5_, h6_, h7_, h8_, h9_⟩
                            have n0_ : Aside0 (w33.heap[gb166]? = some (.cells #[.int .i64 2, .string (⟨#[]⟩ : ByteArray), .int .i64 0] 44 (0, 0))) := ⟨h0_⟩
                            have n1_ : Aside0 (w33.heap[gb167]? = some (.cells #[.int .i64 3, .string (⟨#[]⟩ : ByteArray), .int .i64 0] 44 (0, 0))) := ⟨h1_⟩
                            have n2_ : Aside0 (w33.heap[gb194]? = some (.cells #[.int .i64 0, .int .i64 0] 26 (0, 0))) := ⟨h2_⟩
                            have n3_ : Aside0 (w.heap.size ≤ gb194) := ⟨h3_⟩
                            have n4_ : Aside0 (w.heap.size ≤ gb194) := ⟨h4_⟩
                            have n5_ : Aside0 (gb166 ≠ gb194) := ⟨h5_⟩
                            have n6_ : Aside0 (gb194 ≠ gb166) := ⟨h6_⟩
                            have n7_ : Aside0 (gb167 ≠ gb194) := ⟨h7_⟩
                            have n8_ : Aside0 (gb194 ≠ gb167) := ⟨h8_⟩
                            have n9_ : Aside0 (Below w.heap.size w w33) := ⟨h9_⟩
                            clear BK166
                            clear BK167
                            clear HB
                            clear h0_ h1_ h2_ h3_ h4_ h5_ h6_ h7_ h8_ h9_
                            have BK166 := n0_
                            have BK167 := n1_
                            have BK194 := n2_
                            have GW194 := n3_
                            have GE194 := n4_
                            have NB166_194 := n5_
                            have NB194_166 := n6_
                            have NB167_194 := n7_
                            have NB194_167 := n8_
                            have HB := n9_
                            clear n0_ n1_ n2_ n3_ n4_ n5_ n6_ n7_ n8_ n9_
                            have hHeld : w33.cell? ⟨gb166, 0, none⟩ = some (.int .i64 2) ∧ w33.cell? ⟨gb166, 1, none⟩ = some (.string (⟨#[]⟩ : ByteArray)) ∧ w33.cell? ⟨gb166, 2, none⟩ = some (.int .i64 0) ∧ w33.cell? ⟨gb167, 0, none⟩ = some (.int .i64 3) ∧ w33.cell? ⟨gb167, 1, none⟩ = some (.string (⟨#[]⟩ : ByteArray)) ∧ w33.cell? ⟨gb167, 2, none⟩ = some (.int .i64 0) := hS_
                            refine norm_ (a' := ?_) ?_ ?_
                            rotate_left
                            ·simp only [putAll, Act.put, List.setIfInBounds_toArray, List.set_cons_zero, List.set_cons_succ]
                             rfl
                            refine one_ (i := 0) (N := some 14) #[true, true, false, false, true, true, false, true, false, true, true, false, false, false, false, false, false, true, false, false] rfl rfl (one_of HT_.out (by kernel_rfl)) (by decide) (fun K hK => ?_)
                            refine goes_ Try.func23 (by kernel_rfl) rfl #[.string (⟨#[101, 100]⟩ : ByteArray)] (by rfl) rfl rfl (by (try simp only [List.map_toArray, List.map_cons, List.map_nil]); first | done | rfl | (simp only [List.length_drop, List.length_take]; rfl) | (simp only [*]; first | done | rfl)) ?_
                            with_reducible refine (variorumlaw06_command.calls (⟨#[101, 100]⟩ : ByteArray) t168 t169 t170 _ A1.out).mono ?_
                            rintro e w34 ⟨rfl, hb⟩
                            refine ⟨_, rfl, ?_⟩
                            have n0_ := a_ (kb_ BK166.out hb)
                            have n1_ := a_ (kb_ BK167.out hb)
                            have n2_ := a_ (kb_ BK194.out hb)
                            have n3_ := a_ (below_step (bS3_ HB.out GE166.out GE167.out GE194.out) hb)
                            clear BK166
                            clear BK167
                            clear BK194
                            clear HB
                            have BK166 := n0_
                            have BK167 := n1_
                            have BK194 := n2_
                            have HB := n3_
                            clear n0_ n1_ n2_ n3_
                            (try clear hb)
                            (try clear hb2)
                            (try clear hk)
                            (try clear hi)
                            refine hK.out _ _ ⟨(blk_cell BK166.out 0).trans rfl, (blk_cell BK166.out 1).trans rfl, (blk_cell BK166.out 2).trans rfl, (blk_cell BK167.out 0).trans rfl, (blk_cell BK167.out 1).trans rfl, (blk_cell BK167.out 2).trans rfl⟩ (fun hHeld => ?_)
                            clear hK K
                            refine norm_ (a' := ?_) ?_ ?_
                            rotate_left
                            ·show Act.put _ (some 14) _ = _
                             simp only [Act.put, List.setIfInBounds_toArray, List.set_cons_zero, List.set_cons_succ, i64_w, i32_w]
                             rfl
                            exact norm_ (by first | (simp only [putAll, Act.put, List.setIfInBounds_toArray, List.set_cons_zero, List.set_cons_succ]; done) | (simp only [putAll, Act.put, List.setIfInBounds_toArray, List.set_cons_zero, List.set_cons_succ]; rfl)) (hJ0_17 (gb194) _ ⟨hHeld, (kv_ BK166.out), (kv_ BK167.out), (kv_ BK194.out), GW194.out, GE194.out, NB166_194.out, NB194_166.out, NB167_194.out, NB194_167.out, (bS3_ HB.out GE166.out GE167.out GE194.out)⟩)
                          ·skip
                           rintro _ w33 ⟨hS_, h0_, h1_, h2_⟩
                           have n0_ : Aside0 (w33.heap[gb166]? = some (.cells #[.int .i64 2, .string (⟨#[]⟩ : ByteArray), .int .i64 0] 44 (0, 0))) := ⟨h0_⟩
                           have n1_ : Aside0 (w33.heap[gb167]? = some (.cells #[.int .i64 3, .string (⟨#[]⟩ : ByteArray), .int .i64 0] 44 (0, 0))) := ⟨h1_⟩
                           have n2_ : Aside0 (Below w.heap.size w w33) := ⟨h2_⟩
                           clear BK166
                           clear BK167
                           clear HB
                           clear h0_ h1_ h2_
                           have BK166 := n0_
                           have BK167 := n1_
                           have HB := n2_
                           clear n0_ n1_ n2_
                           have hHeld : w33.cell? ⟨gb166, 0, none⟩ = some (.int .i64 2) ∧ w33.cell? ⟨gb166, 1, none⟩ = some (.string (⟨#[]⟩ : ByteArray)) ∧ w33.cell? ⟨gb166, 2, none⟩ = some (.int .i64 0) ∧ w33.cell? ⟨gb167, 0, none⟩ = some (.int .i64 3) ∧ w33.cell? ⟨gb167, 1, none⟩ = some (.string (⟨#[]⟩ : ByteArray)) ∧ w33.cell? ⟨gb167, 2, none⟩ = some (.int .i64 0) := hS_
                           refine norm_ (a' := ?_) ?_ ?_
                           rotate_left
                           ·simp only [putAll, Act.put, List.setIfInBounds_toArray, List.set_cons_zero, List.set_cons_succ]
                            rfl
                           refine two_ (i := 2) (j := 17) (Ni := some 16) (Nj := some 4) #[true, true, true, false, true, true, false, true, false, true, true, false, false, false, false, false, false, false, false, false] #[true, true, false, false, true, true, false, true, false, true, true, false, false, false, false, false, false, true, false, false] rfl rfl rfl rfl (two_of HT_.out (by kernel_rfl)) (by decide) (by decide) (fun K hK => ?_) (fun K hK => ?_)
                           ·skip
                            refine goes_ Try.func24 (by kernel_rfl) rfl #[.string (⟨#[97]⟩ : ByteArray)] (by rfl) rfl rfl (by (try simp only [List.map_toArray, List.map_cons, List.map_nil]); first | done | rfl | (simp only [List.length_drop, List.length_take]; rfl) | (simp only [*]; first | done | rfl)) ?_
                            with_reducible refine (variorumlaw06_word.calls (⟨#[97]⟩ : ByteArray) t171 t172 t173 _ A2.out).mono ?_
                            rintro e w34 ⟨rfl, hb⟩
                            refine ⟨_, rfl, ?_⟩
                            have n0_ := a_ (kb_ BK166.out hb)
                            have n1_ := a_ (kb_ BK167.out hb)
                            have n2_ := a_ (below_step (bS2_ HB.out GE166.out GE167.out) hb)
                            clear BK166
                            clear BK167
                            clear HB
                            have BK166 := n0_
                            have BK167 := n1_
                            have HB := n2_
                            clear n0_ n1_ n2_
                            (try clear hb)
                            (try clear hb2)
                            (try clear hk)
                            (try clear hi)
                            refine hK.out _ _ ⟨(blk_cell BK166.out 0).trans rfl, (blk_cell BK166.out 1).trans rfl, (blk_cell BK166.out 2).trans rfl, (blk_cell BK167.out 0).trans rfl, (blk_cell BK167.out 1).trans rfl, (blk_cell BK167.out 2).trans rfl⟩ (fun hHeld => ?_)
                            clear hK K
                            refine norm_ (a' := ?_) ?_ ?_
                            rotate_left
                            ·show Act.put _ (some 16) _ = _
                             simp only [Act.put, List.setIfInBounds_toArray, List.set_cons_zero, List.set_cons_succ, i64_w, i32_w]
                             rfl
                            exact norm_ (by first | (simp only [putAll, Act.put, List.setIfInBounds_toArray, List.set_cons_zero, List.set_cons_succ]; done) | (simp only [putAll, Act.put, List.setIfInBounds_toArray, List.set_cons_zero, List.set_cons_succ]; rfl)) (hJ0_2 () _ ⟨hHeld, (kv_ BK166.out), (kv_ BK167.out), (bS2_ HB.out GE166.out GE167.out)⟩)
                           ·skip
                            refine box_step ?hg (N := 4) ?hd (cs := #[.int .i64 0, .int .i64 0]) (t := 26) ?hr ?_; (case hd => rfl); (case hg => rfl); (case hr => first | (go_simp; done) | (go_simp; rfl))
                            intro gb194 hg w34 hbox hb
                            have n0_ := a_ (kb_ BK166.out hb)
                            have n1_ := a_ (kb_ BK167.out hb)
                            have n2_ := a_ (below_step (bS2_ HB.out GE166.out GE167.out) hb)
                            have n3_ := a_ (hbox)
                            have n4_ := a_ ((by rw [hg]; exact (below_size (bS2_ HB.out GE166.out GE167.out)) : w.heap.size ≤ gb194))
                            have n5_ := a_ ((by rw [hg]; exact (below_size (bS2_ HB.out GE166.out GE167.out)) : w.heap.size ≤ gb194))
                            have n6_ := a_ ((by rw [hg]; exact Nat.ne_of_lt (blk_lt (kv_ BK166.out)) : gb166 ≠ gb194))
                            have n7_ := a_ ((by rw [hg]; exact Nat.ne_of_gt (blk_lt (kv_ BK166.out)) : gb194 ≠ gb166))
                            have n8_ := a_ ((by rw [hg]; exact Nat.ne_of_lt (blk_lt (kv_ BK167.out)) : gb167 ≠ gb194))
                            have n9_ := a_ ((by rw [hg]; exact Nat.ne_of_gt (blk_lt (kv_ BK167.out)) : gb194 ≠ gb167))
                            clear BK166
                            clear BK167
                            clear HB
                            have BK166 := n0_
                            have BK167 := n1_
                            have HB := n2_
                            have BK194 := n3_
                            have GW194 := n4_
                            have GE194 := n5_
                            have NB166_194 := n6_
                            have NB194_166 := n7_
                            have NB167_194 := n8_
                            have NB194_167 := n9_
                            clear n0_ n1_ n2_ n3_ n4_ n5_ n6_ n7_ n8_ n9_
                            clear hb hbox hg
                            refine hK.out _ _ ⟨(blk_cell BK166.out 0).trans rfl, (blk_cell BK166.out 1).trans rfl, (blk_cell BK166.out 2).trans rfl, (blk_cell BK167.out 0).trans rfl, (blk_cell BK167.out 1).trans rfl, (blk_cell BK167.out 2).trans rfl⟩ (fun hHeld => ?_)
                            clear hK K
                            refine norm_ (a' := ?_) ?_ ?_
                            rotate_left
                            ·show Act.put _ (some 4) _ = _
                             simp only [Act.put, List.setIfInBounds_toArray, List.set_cons_zero, List.set_cons_succ, i64_w, i32_w]
                             rfl
                            exact norm_ (by first | (simp only [putAll, Act.put, List.setIfInBounds_toArray, List.set_cons_zero, List.set_cons_succ]; done) | (simp only [putAll, Act.put, List.setIfInBounds_toArray, List.set_cons_zero, List.set_cons_succ]; rfl)) (hJ0_17 (gb194) _ ⟨hHeld, (kv_ BK166.out), (kv_ BK167.out), (kv_ BK194.out), GW194.out, GE194.out, NB166_194.out, NB194_166.out, NB167_194.out, NB194_167.out, (bS3_ HB.out GE166.out GE167.out GE194.out)⟩)
                         ·skip
                          rintro gb194 w34 ⟨hS_, h0_, h1_, h2_, h3_, h4_, h5_, h6_, h7_, h8_, h9_⟩
                          have n0_ : Aside0 (w34.heap[gb166]? = some (.cells #[.int .i64 2, .string (⟨#[]⟩ : ByteArray), .int .i64 0] 44 (0, 0))) := ⟨h0_⟩
                          have n1_ : Aside0 (w34.heap[gb167]? = some (.cells #[.int .i64 3, .string (⟨#[]⟩ : ByteArray), .int .i64 0] 44 (0, 0))) := ⟨h1_⟩
                          have n2_ : Aside0 (w34.heap[gb194]? = some (.cells #[.int .i64 0, .int .i64 0] 26 (0, 0))) := ⟨h2_⟩
                          have n3_ : Aside0 (w.heap.size ≤ gb194) := ⟨h3_⟩
                          have n4_ : Aside0 (w.heap.size ≤ gb194) := ⟨h4_⟩
                          have n5_ : Aside0 (gb166 ≠ gb194) := ⟨h5_⟩
                          have n6_ : Aside0 (gb194 ≠ gb166) := ⟨h6_⟩
                          have n7_ : Aside0 (gb167 ≠ gb194) := ⟨h7_⟩
                          have n8_ : Aside0 (gb194 ≠ gb167) := ⟨h8_⟩
                          have n9_ : Aside0 (Below w.heap.size w w34) := ⟨h9_⟩
                          clear BK166
                          clear BK167
                          clear HB
                          clear h0_ h1_ h2_ h3_ h4_ h5_ h6_ h7_ h8_ h9_
                          have BK166 := n0_
                          have BK167 := n1_
                          have BK194 := n2_
                          have GW194 := n3_
                          have GE194 := n4_
                          have NB166_194 := n5_
                          have NB194_166 := n6_
                          have NB167_194 := n7_
                          have NB194_167 := n8_
                          have HB := n9_
                          clear n0_ n1_ n2_ n3_ n4_ n5_ n6_ n7_ n8_ n9_
                          have hHeld : w34.cell? ⟨gb166, 0, none⟩ = some (.int .i64 2) ∧ w34.cell? ⟨gb166, 1, none⟩ = some (.string (⟨#[]⟩ : ByteArray)) ∧ w34.cell? ⟨gb166, 2, none⟩ = some (.int .i64 0) ∧ w34.cell? ⟨gb167, 0, none⟩ = some (.int .i64 3) ∧ w34.cell? ⟨gb167, 1, none⟩ = some (.string (⟨#[]⟩ : ByteArray)) ∧ w34.cell? ⟨gb167, 2, none⟩ = some (.int .i64 0) := hS_
                          refine norm_ (a' := ?_) ?_ ?_
                          rotate_left
                          ·simp only [putAll, Act.put, List.setIfInBounds_toArray, List.set_cons_zero, List.set_cons_succ]
                           rfl
                          refine one_ (i := 2) (N := some 16) #[true, true, true, false, true, true, false, true, false, true, true, false, false, false, false, false, false, true, false, false] rfl rfl (one_of HT_.out (by kernel_rfl)) (by decide) (fun K hK => ?_)
                          refine goes_ Try.func24 (by kernel_rfl) rfl #[.string (⟨#[97]⟩ : ByteArray)] (by rfl) rfl rfl (by (try simp only [List.map_toArray, List.map_cons, List.map_nil]); first | done | rfl | (simp only [List.length_drop, List.length_take]; rfl) | (simp only [*]; first | done | rfl)) ?_
                          with_reducible refine (variorumlaw06_word.calls (⟨#[97]⟩ : ByteArray) t171 t172 t173 _ A2.out).mono ?_
                          rintro e w35 ⟨rfl, hb⟩
                          refine ⟨_, rfl, ?_⟩
                          have n0_ := a_ (kb_ BK166.out hb)
                          have n1_ := a_ (kb_ BK167.out hb)
                          have n2_ := a_ (kb_ BK194.out hb)
                          have n3_ := a_ (below_step (bS3_ HB.out GE166.out GE167.out GE194.out) hb)
                          clear BK166
                          clear BK167
                          clear BK194
                          clear HB
                          have BK166 := n0_
                          have BK167 := n1_
                          have BK194 := n2_
                          have HB := n3_
                          clear n0_ n1_ n2_ n3_
                          (try clear hb)
                          (try clear hb2)
                          (try clear hk)
                          (try clear hi)
                          refine hK.out _ _ ⟨(blk_cell BK166.out 0).trans rfl, (blk_cell BK166.out 1).trans rfl, (blk_cell BK166.out 2).trans rfl, (blk_cell BK167.out 0).trans rfl, (blk_cell BK167.out 1).trans rfl, (blk_cell BK167.out 2).trans rfl⟩ (fun hHeld => ?_)
                          clear hK K
                          refine norm_ (a' := ?_) ?_ ?_
                          rotate_left
                          ·show Act.put _ (some 16) _ = _
                           simp only [Act.put, List.setIfInBounds_toArray, List.set_cons_zero, List.set_cons_succ, i64_w, i32_w]
                           rfl
                          exact norm_ (by first | (simp only [putAll, Act.put, List.setIfInBounds_toArray, List.set_cons_zero, List.set_cons_succ]; done) | (simp only [putAll, Act.put, List.setIfInBounds_toArray, List.set_cons_zero, List.set_cons_succ]; rfl)) (hJ0_2_17 (gb194) _ ⟨hHeld, (kv_ BK166.out), (kv_ BK167.out), (kv_ BK194.out), GW194.out, GE194.out, NB166_194.out, NB194_166.out, NB167_194.out, NB194_167.out, (bS3_ HB.out GE166.out GE167.out GE194.out)⟩)
                        ·skip
                         rintro _ w34 ⟨hS_, h0_, h1_, h2_⟩
                         have n0_ : Aside0 (w34.heap[gb166]? = some (.cells #[.int .i64 2, .string (⟨#[]⟩ : ByteArray), .int .i64 0] 44 (0, 0))) := ⟨h0_⟩
                         have n1_ : Aside0 (w34.heap[gb167]? = some (.cells #[.int .i64 3, .string (⟨#[]⟩ : ByteArray), .int .i64 0] 44 (0, 0))) := ⟨h1_⟩
                         have n2_ : Aside0 (Below w.heap.size w w34) := ⟨h2_⟩
                         clear BK166
                         clear BK167
                         clear HB
                         clear h0_ h1_ h2_
                         have BK166 := n0_
                         have BK167 := n1_
                         have HB := n2_
                         clear n0_ n1_ n2_
                         have hHeld : w34.cell? ⟨gb166, 0, none⟩ = some (.int .i64 2) ∧ w34.cell? ⟨gb166, 1, none⟩ = some (.string (⟨#[]⟩ : ByteArray)) ∧ w34.cell? ⟨gb166, 2, none⟩ = some (.int .i64 0) ∧ w34.cell? ⟨gb167, 0, none⟩ = some (.int .i64 3) ∧ w34.cell? ⟨gb167, 1, none⟩ = some (.string (⟨#[]⟩ : ByteArray)) ∧ w34.cell? ⟨gb167, 2, none⟩ = some (.int .i64 0) := hS_
                         refine norm_ (a' := ?_) ?_ ?_
                         rotate_left
                         ·simp only [putAll, Act.put, List.setIfInBounds_toArray, List.set_cons_zero, List.set_cons_succ]
                          rfl
                         refine two_ (i := 3) (j := 17) (Ni := some 17) (Nj := some 4) #[true, true, true, true, true, true, false, true, false, true, true, false, false, false, false, false, false, false, false, false] #[true, true, true, false, true, true, false, true, false, true, true, false, false, false, false, false, false, true, false, false] rfl rfl rfl rfl (two_of HT_.out (by kernel_rfl)) (by decide) (by decide) (fun K hK => ?_) (fun K hK => ?_)
                         ·skip
                          refine goes_ Try.func24 (by kernel_rfl) rfl #[.string (⟨#[98]⟩ : ByteArray)] (by rfl) rfl rfl (by (try simp only [List.map_toArray, List.map_cons, List.map_nil]); first | done | rfl | (simp only [List.length_drop, List.length_take]; rfl) | (simp only [*]; first | done | rfl)) ?_
                          with_reducible refine (variorumlaw06_word.calls (⟨#[98]⟩ : ByteArray) t174 t175 t176 _ A3.out).mono ?_
                          rintro e w35 ⟨rfl, hb⟩
                          refine ⟨_, rfl, ?_⟩
                          have n0_ := a_ (kb_ BK166.out hb)
                          have n1_ := a_ (kb_ BK167.out hb)
                          have n2_ := a_ (below_step (bS2_ HB.out GE166.out GE167.out) hb)
                          clear BK166
                          clear BK167
                          clear HB
                          have BK166 := n0_
                          have BK167 := n1_
                          have HB := n2_
                          clear n0_ n1_ n2_
                          (try clear hb)
                          (try clear hb2)
                          (try clear hk)
                          (try clear hi)
                          refine hK.out _ _ ⟨(blk_cell BK166.out 0).trans rfl, (blk_cell BK166.out 1).trans rfl, (blk_cell BK166.out 2).trans rfl, (blk_cell BK167.out 0).trans rfl, (blk_cell BK167.out 1).trans rfl, (blk_cell BK167.out 2).trans rfl⟩ (fun hHeld => ?_)
                          clear hK K
                          refine norm_ (a' := ?_) ?_ ?_
                          rotate_left
                          ·show Act.put _ (some 17) _ = _
                           simp only [Act.put, List.setIfInBounds_toArray, List.set_cons_zero, List.set_cons_succ, i64_w, i32_w]
                           rfl
                          exact norm_ (by first | (simp only [putAll, Act.put, List.setIfInBounds_toArray, List.set_cons_zero, List.set_cons_succ]; done) | (simp only [putAll, Act.put, List.setIfInBounds_toArray, List.set_cons_zero, List.set_cons_succ]; rfl)) (hJ0_2_3 () _ ⟨hHeld, (kv_ BK166.out), (kv_ BK167.out), (bS2_ HB.out GE166.out GE167.out)⟩)
                         ·skip
                          refine box_step ?hg (N := 4) ?hd (cs := #[.int .i64 0, .int .i64 0]) (t := 26) ?hr ?_; (case hd => rfl); (case hg => rfl); (case hr => first | (go_simp; done) | (go_simp; rfl))
                          intro gb194 hg w35 hbox hb
                          have n0_ := a_ (kb_ BK166.out hb)
                          have n1_ := a_ (kb_ BK167.out hb)
                          have n2_ := a_ (below_step (bS2_ HB.out GE166.out GE167.out) hb)
                          have n3_ := a_ (hbox)
                          have n4_ := a_ ((by rw [hg]; exact (below_size (bS2_ HB.out GE166.out GE167.out)) : w.heap.size ≤ gb194))
                          have n5_ := a_ ((by rw [hg]; exact (below_size (bS2_ HB.out GE166.out GE167.out)) : w.heap.size ≤ gb194))
                          have n6_ := a_ ((by rw [hg]; exact Nat.ne_of_lt (blk_lt (kv_ BK166.out)) : gb166 ≠ gb194))
                          have n7_ := a_ ((by rw [hg]; exact Nat.ne_of_gt (blk_lt (kv_ BK166.out)) : gb194 ≠ gb166))
                          have n8_ := a_ ((by rw [hg]; exact Nat.ne_of_lt (blk_lt (kv_ BK167.out)) : gb167 ≠ gb194))
                          have n9_ := a_ ((by rw [hg]; exact Nat.ne_of_gt (blk_lt (kv_ BK167.out)) : gb194 ≠ gb167))
                          clear BK166
                          clear BK167
                          clear HB
                          have BK166 := n0_
                          have BK167 := n1_
                          have HB := n2_
                          have BK194 := n3_
                          have GW194 := n4_
                          have GE194 := n5_
                          have NB166_194 := n6_
                          have NB194_166 := n7_
                          have NB167_194 := n8_
                          have NB194_167 := n9_
                          clear n0_ n1_ n2_ n3_ n4_ n5_ n6_ n7_ n8_ n9_
                          clear hb hbox hg
                          refine hK.out _ _ ⟨(blk_cell BK166.out 0).trans rfl, (blk_cell BK166.out 1).trans rfl, (blk_cell BK166.out 2).trans rfl, (blk_cell BK167.out 0).trans rfl, (blk_cell BK167.out 1).trans rfl, (blk_cell BK167.out 2).trans rfl⟩ (fun hHeld => ?_)
                          clear hK K
                          refine norm_ (a' := ?_) ?_ ?_
                          rotate_left
                          ·show Act.put _ (some 4) _ = _
                           simp only [Act.put, List.setIfInBounds_toArray, List.set_cons_zero, List.set_cons_succ, i64_w, i32_w]
                           rfl
                          exact norm_ (by first | (simp only [putAll, Act.put, List.setIfInBounds_toArray, List.set_cons_zero, List.set_cons_succ]; done) | (simp only [putAll, Act.put, List.setIfInBounds_toArray, List.set_cons_zero, List.set_cons_succ]; rfl)) (hJ0_2_17 (gb194) _ ⟨hHeld, (kv_ BK166.out), (kv_ BK167.out), (kv_ BK194.out), GW194.out, GE194.out, NB166_194.out, NB194_166.out, NB167_194.out, NB194_167.out, (bS3_ HB.out GE166.out GE167.out GE194.out)⟩)
                       ·skip
                        rintro gb194 w35 ⟨hS_, h0_, h1_, h2_, h3_, h4_, h5_, h6_, h7_, h8_, h9_⟩
                        have n0_ : Aside0 (w35.heap[gb166]? = some (.cells #[.int .i64 2, .string (⟨#[]⟩ : ByteArray), .int .i64 0] 44 (0, 0))) := ⟨h0_⟩
                        have n1_ : Aside0 (w35.heap[gb167]? = some (.cells #[.int .i64 3, .string (⟨#[]⟩ : ByteArray), .int .i64 0] 44 (0, 0))) := ⟨h1_⟩
                        have n2_ : Aside0 (w35.heap[gb194]? = some (.cells #[.int .i64 0, .int .i64 0] 26 (0, 0))) := ⟨h2_⟩
                        have n3_ : Aside0 (w.heap.size ≤ gb194) := ⟨h3_⟩
                        have n4_ : Aside0 (w.heap.size ≤ gb194) := ⟨h4_⟩
                        have n5_ : Aside0 (gb166 ≠ gb194) := ⟨h5_⟩
                        have n6_ : Aside0 (gb194 ≠ gb166) := ⟨h6_⟩
                        have n7_ : Aside0 (gb167 ≠ gb194) := ⟨h7_⟩
                        have n8_ : Aside0 (gb194 ≠ gb167) := ⟨h8_⟩
                        have n9_ : Aside0 (Below w.heap.size w w35) := ⟨h9_⟩
                        clear BK166
                        clear BK167
                        clear HB
                        clear h0_ h1_ h2_ h3_ h4_ h5_ h6_ h7_ h8_ h9_
                        have BK166 := n0_
                        have BK167 := n1_
                        have BK194 := n2_
                        have GW194 := n3_
                        have GE194 := n4_
                        have NB166_194 := n5_
                        have NB194_166 := n6_
                        have NB167_194 := n7_
                        have NB194_167 := n8_
                        have HB := n9_
                        clear n0_ n1_ n2_ n3_ n4_ n5_ n6_ n7_ n8_ n9_
                        have hHeld : w35.cell? ⟨gb166, 0, none⟩ = some (.int .i64 2) ∧ w35.cell? ⟨gb166, 1, none⟩ = some (.string (⟨#[]⟩ : ByteArray)) ∧ w35.cell? ⟨gb166, 2, none⟩ = some (.int .i64 0) ∧ w35.cell? ⟨gb167, 0, none⟩ = some (.int .i64 3) ∧ w35.cell? ⟨gb167, 1, none⟩ = some (.string (⟨#[]⟩ : ByteArray)) ∧ w35.cell? ⟨gb167, 2, none⟩ = some (.int .i64 0) := hS_
                        refine norm_ (a' := ?_) ?_ ?_
                        rotate_left
                        ·simp only [putAll, Act.put, List.setIfInBounds_toArray, List.set_cons_zero, List.set_cons_succ]
                         rfl
                        refine one_ (i := 3) (N := some 17) #[true, true, true, true, true, true, false, true, false, true, true, false, false, false, false, false, false, true, false, false] rfl rfl (one_of HT_.out (by kernel_rfl)) (by decide) (fun K hK => ?_)
                        refine goes_ Try.func24 (by kernel_rfl) rfl #[.string (⟨#[98]⟩ : ByteArray)] (by rfl) rfl rfl (by (try simp only [List.map_toArray, List.map_cons, List.map_nil]); first | done | rfl | (simp only [List.length_drop, List.length_take]; rfl) | (simp only [*]; first | done | rfl)) ?_
                        with_reducible refine (variorumlaw06_word.calls (⟨#[98]⟩ : ByteArray) t174 t175 t176 _ A3.out).mono ?_
                        rintro e w36 ⟨rfl, hb⟩
                        refine ⟨_, rfl, ?_⟩
                        have n0_ := a_ (kb_ BK166.out hb)
                        have n1_ := a_ (kb_ BK167.out hb)
                        have n2_ := a_ (kb_ BK194.out hb)
                        have n3_ := a_ (below_step (bS3_ HB.out GE166.out GE167.out GE194.out) hb)
                        clear BK166
                        clear BK167
                        clear BK194
                        clear HB
                        have BK166 := n0_
                        have BK167 := n1_
                        have BK194 := n2_
                        have HB := n3_
                        clear n0_ n1_ n2_ n3_
                        (try clear hb)
                        (try clear hb2)
                        (try clear hk)
                        (try clear hi)
                        refine hK.out _ _ ⟨(blk_cell BK166.out 0).trans rfl, (blk_cell BK166.out 1).trans rfl, (blk_cell BK166.out 2).trans rfl, (blk_cell BK167.out 0).trans rfl, (blk_cell BK167.out 1).trans rfl, (blk_cell BK167.out 2).trans rfl⟩ (fun hHeld => ?_)
                        clear hK K
                        refine norm_ (a' := ?_) ?_ ?_
                        rotate_left
                        ·show Act.put _ (some 17) _ = _
                         simp only [Act.put, List.setIfInBounds_toArray, List.set_cons_zero, List.set_cons_succ, i64_w, i32_w]
                         rfl
                        exact norm_ (by first | (simp only [putAll, Act.put, List.setIfInBounds_toArray, List.set_cons_zero, List.set_cons_succ]; done) | (simp only [putAll, Act.put, List.setIfInBounds_toArray, List.set_cons_zero, List.set_cons_succ]; rfl)) (hJ0_2_3_17 (gb194) _ ⟨hHeld, (kv_ BK166.out), (kv_ BK167.out), (kv_ BK194.out), GW194.out, GE194.out, NB166_194.out, NB194_166.out, NB167_194.out, NB194_167.out, (bS3_ HB.out GE166.out GE167.out GE194.out)⟩)
                      ·skip
                       rintro _ w35 ⟨hS_, h0_, h1_, h2_⟩
                       have n0_ : Aside0 (w35.heap[gb166]? = some (.cells #[.int .i64 2, .string (⟨#[]⟩ : ByteArray), .int .i64 0] 44 (0, 0))) := ⟨h0_⟩
                       have n1_ : Aside0 (w35.heap[gb167]? = some (.cells #[.int .i64 3, .string (⟨#[]⟩ : ByteArray), .int .i64 0] 44 (0, 0))) := ⟨h1_⟩
                       have n2_ : Aside0 (Below w.heap.size w w35) := ⟨h2_⟩
                       clear BK166
                       clear BK167
                       clear HB
                       clear h0_ h1_ h2_
                       have BK166 := n0_
                       have BK167 := n1_
                       have HB := n2_
                       clear n0_ n1_ n2_
                       have hHeld : w35.cell? ⟨gb166, 0, none⟩ = some (.int .i64 2) ∧ w35.cell? ⟨gb166, 1, none⟩ = some (.string (⟨#[]⟩ : ByteArray)) ∧ w35.cell? ⟨gb166, 2, none⟩ = some (.int .i64 0) ∧ w35.cell? ⟨gb167, 0, none⟩ = some (.int .i64 3) ∧ w35.cell? ⟨gb167, 1, none⟩ = some (.string (⟨#[]⟩ : ByteArray)) ∧ w35.cell? ⟨gb167, 2, none⟩ = some (.int .i64 0) := hS_
                       refine norm_ (a' := ?_) ?_ ?_
                       rotate_left
                       ·simp only [putAll, Act.put, List.setIfInBounds_toArray, List.set_cons_zero, List.set_cons_succ]
                        rfl
                       refine two_ (i := 6) (j := 17) (Ni := some 20) (Nj := some 4) #[true, true, true, true, true, true, true, true, false, true, true, false, false, false, false, false, false, false, false, false] #[true, true, true, true, true, true, false, true, false, true, true, false, false, false, false, false, false, true, false, false] rfl rfl rfl rfl (two_of HT_.out (by kernel_rfl)) (by decide) (by decide) (fun K hK => ?_) (fun K hK => ?_)
                       ·skip
                        refine goes_ Try.func23 (by kernel_rfl) rfl #[.string (⟨#[65]⟩ : ByteArray)] (by rfl) rfl rfl (by (try simp only [List.map_toArray, List.map_cons, List.map_nil]); first | done | rfl | (simp only [List.length_drop, List.length_take]; rfl) | (simp only [*]; first | done | rfl)) ?_
                        with_reducible refine (variorumlaw06_command.calls (⟨#[65]⟩ : ByteArray) t177 t178 t179 _ A4.out).mono ?_
                        rintro e w36 ⟨rfl, hb⟩
                        refine ⟨_, rfl, ?_⟩
                        have n0_ := a_ (kb_ BK166.out hb)
                        have n1_ := a_ (kb_ BK167.out hb)
                        have n2_ := a_ (below_step (bS2_ HB.out GE166.out GE167.out) hb)
                        clear BK166
                        clear BK167
                        clear HB
                        have BK166 := n0_
                        have BK167 := n1_
                        have HB := n2_
                        clear n0_ n1_ n2_
                        (try clear hb)
                        (try clear hb2)
                        (try clear hk)
                        (try clear hi)
                        refine hK.out _ _ ⟨(blk_cell BK166.out 0).trans rfl, (blk_cell BK166.out 1).trans rfl, (blk_cell BK166.out 2).trans rfl, (blk_cell BK167.out 0).trans rfl, (blk_cell BK167.out 1).trans rfl, (blk_cell BK167.out 2).trans rfl⟩ (fun hHeld => ?_)
                        clear hK K
                        refine norm_ (a' := ?_) ?_ ?_
                        rotate_left
                        ·show Act.put _ (some 20) _ = _
                         simp only [Act.put, List.setIfInBounds_toArray, List.set_cons_zero, List.set_cons_succ, i64_w, i32_w]
                         rfl
                        exact norm_ (by first | (simp only [putAll, Act.put, List.setIfInBounds_toArray, List.set_cons_zero, List.set_cons_succ]; done) | (simp only [putAll, Act.put, List.setIfInBounds_toArray, List.set_cons_zero, List.set_cons_succ]; rfl)) (hJ0_2_3_6 () _ ⟨hHeld, (kv_ BK166.out), (kv_ BK167.out), (bS2_ HB.out GE166.out GE167.out)⟩)
                       ·skip
                        refine box_step ?hg (N := 4) ?hd (cs := #[.int .i64 0, .int .i64 0]) (t := 26) ?hr ?_; (case hd => rfl); (case hg => rfl); (case hr => first | (go_simp; done) | (go_simp; rfl))
                        intro gb194 hg w36 hbox hb
                        have n0_ := a_ (kb_ BK166.out hb)
                        have n1_ := a_ (kb_ BK167.out hb)
                        have n2_ := a_ (below_step (bS2_ HB.out GE166.out GE167.out) hb)
                        have n3_ := a_ (hbox)
                        have n4_ := a_ ((by rw [hg]; exact (below_size (bS2_ HB.out GE166.out GE167.out)) : w.heap.size ≤ gb194))
                        have n5_ := a_ ((by rw [hg]; exact (below_size (bS2_ HB.out GE166.out GE167.out)) : w.heap.size ≤ gb194))
                        have n6_ := a_ ((by rw [hg]; exact Nat.ne_of_lt (blk_lt (kv_ BK166.out)) : gb166 ≠ gb194))
                        have n7_ := a_ ((by rw [hg]; exact Nat.ne_of_gt (blk_lt (kv_ BK166.out)) : gb194 ≠ gb166))
                        have n8_ := a_ ((by rw [hg]; exact Nat.ne_of_lt (blk_lt (kv_ BK167.out)) : gb167 ≠ gb194))
                        have n9_ := a_ ((by rw [hg]; exact Nat.ne_of_gt (blk_lt (kv_ BK167.out)) : gb194 ≠ gb167))
                        clear BK166
                        clear BK167
                        clear HB
                        have BK166 := n0_
                        have BK167 := n1_
                        have HB := n2_
                        have BK194 := n3_
                        have GW194 := n4_
                        have GE194 := n5_
                        have NB166_194 := n6_
                        have NB194_166 := n7_
                        have NB167_194 := n8_
                        have NB194_167 := n9_
                        clear n0_ n1_ n2_ n3_ n4_ n5_ n6_ n7_ n8_ n9_
                        clear hb hbox hg
                        refine hK.out _ _ ⟨(blk_cell BK166.out 0).trans rfl, (blk_cell BK166.out 1).trans rfl, (blk_cell BK166.out 2).trans rfl, (blk_cell BK167.out 0).trans rfl, (blk_cell BK167.out 1).trans rfl, (blk_cell BK167.out 2).trans rfl⟩ (fun hHeld => ?_)
                        clear hK K
                        refine norm_ (a' := ?_) ?_ ?_
                        rotate_left
                        ·show Act.put _ (some 4) _ = _
                         simp only [Act.put, List.setIfInBounds_toArray, List.set_cons_zero, List.set_cons_succ, i64_w, i32_w]
                         rfl
                        exact norm_ (by first | (simp only [putAll, Act.put, List.setIfInBounds_toArray, List.set_cons_zero, List.set_cons_succ]; done) | (simp only [putAll, Act.put, List.setIfInBounds_toArray, List.set_cons_zero, List.set_cons_succ]; rfl)) (hJ0_2_3_17 (gb194) _ ⟨hHeld, (kv_ BK166.out), (kv_ BK167.out), (kv_ BK194.out), GW194.out, GE194.out, NB166_194.out, NB194_166.out, NB167_194.out, NB194_167.out, (bS3_ HB.out GE166.out GE167.out GE194.out)⟩)
                     ·skip
                      rintro gb194 w36 ⟨hS_, h0_, h1_, h2_, h3_, h4_, h5_, h6_, h7_, h8_, h9_⟩
                      have n0_ : Aside0 (w36.heap[gb166]? = some (.cells #[.int .i64 2, .string (⟨#[]⟩ : ByteArray), .int .i64 0] 44 (0, 0))) := ⟨h0_⟩
                      have n1_ : Aside0 (w36.heap[gb167]? = some (.cells #[.int .i64 3, .string (⟨#[]⟩ : ByteArray), .int .i64 0] 44 (0, 0))) := ⟨h1_⟩
                      have n2_ : Aside0 (w36.heap[gb194]? = some (.cells #[.int .i64 0, .int .i64 0] 26 (0, 0))) := ⟨h2_⟩
                      have n3_ : Aside0 (w.heap.size ≤ gb194) := ⟨h3_⟩
                      have n4_ : Aside0 (w.heap.size ≤ gb194) := ⟨h4_⟩
                      have n5_ : Aside0 (gb166 ≠ gb194) := ⟨h5_⟩
                      have n6_ : Aside0 (gb194 ≠ gb166) := ⟨h6_⟩
                      have n7_ : Aside0 (gb167 ≠ gb194) := ⟨h7_⟩
                      have n8_ : Aside0 (gb194 ≠ gb167) := ⟨h8_⟩
                      have n9_ : Aside0 (Below w.heap.size w w36) := ⟨h9_⟩
                      clear BK166
                      clear BK167
                      clear HB
                      clear h0_ h1_ h2_ h3_ h4_ h5_ h6_ h7_ h8_ h9_
                      have BK166 := n0_
                      have BK167 := n1_
                      have BK194 := n2_
                      have GW194 := n3_
                      have GE194 := n4_
                      have NB166_194 := n5_
                      have NB194_166 := n6_
                      have NB167_194 := n7_
                      have NB194_167 := n8_
                      have HB := n9_
                      clear n0_ n1_ n2_ n3_ n4_ n5_ n6_ n7_ n8_ n9_
                      have hHeld : w36.cell? ⟨gb166, 0, none⟩ = some (.int .i64 2) ∧ w36.cell? ⟨gb166, 1, none⟩ = some (.string (⟨#[]⟩ : ByteArray)) ∧ w36.cell? ⟨gb166, 2, none⟩ = some (.int .i64 0) ∧ w36.cell? ⟨gb167, 0, none⟩ = some (.int .i64 3) ∧ w36.cell? ⟨gb167, 1, none⟩ = some (.string (⟨#[]⟩ : ByteArray)) ∧ w36.cell? ⟨gb167, 2, none⟩ = some (.int .i64 0) := hS_
                      refine norm_ (a' := ?_) ?_ ?_
                      rotate_left
                      ·simp only [putAll, Act.put, List.setIfInBounds_toArray, List.set_cons_zero, List.set_cons_succ]
                       rfl
                      refine one_ (i := 6) (N := some 20) #[true, true, true, true, true, true, true, true, false, true, true, false, false, false, false, false, false, true, false, false] rfl rfl (one_of HT_.out (by kernel_rfl)) (by decide) (fun K hK => ?_)
                      refine goes_ Try.func23 (by kernel_rfl) rfl #[.string (⟨#[65]⟩ : ByteArray)] (by rfl) rfl rfl (by (try simp only [List.map_toArray, List.map_cons, List.map_nil]); first | done | rfl | (simp only [List.length_drop, List.length_take]; rfl) | (simp only [*]; first | done | rfl)) ?_
                      with_reducible refine (variorumlaw06_command.calls (⟨#[65]⟩ : ByteArray) t177 t178 t179 _ A4.out).mono ?_
                      rintro e w37 ⟨rfl, hb⟩
                      refine ⟨_, rfl, ?_⟩
                      have n0_ := a_ (kb_ BK166.out hb)
                      have n1_ := a_ (kb_ BK167.out hb)
                      have n2_ := a_ (kb_ BK194.out hb)
                      have n3_ := a_ (below_step (bS3_ HB.out GE166.out GE167.out GE194.out) hb)
                      clear BK166
                      clear BK167
                      clear BK194
                      clear HB
                      have BK166 := n0_
                      have BK167 := n1_
                      have BK194 := n2_
                      have HB := n3_
                      clear n0_ n1_ n2_ n3_
                      (try clear hb)
                      (try clear hb2)
                      (try clear hk)
                      (try clear hi)
                      refine hK.out _ _ ⟨(blk_cell BK166.out 0).trans rfl, (blk_cell BK166.out 1).trans rfl, (blk_cell BK166.out 2).trans rfl, (blk_cell BK167.out 0).trans rfl, (blk_cell BK167.out 1).trans rfl, (blk_cell BK167.out 2).trans rfl⟩ (fun hHeld => ?_)
                      clear hK K
                      refine norm_ (a' := ?_) ?_ ?_
                      rotate_left
                      ·show Act.put _ (some 20) _ = _
                       simp only [Act.put, List.setIfInBounds_toArray, List.set_cons_zero, List.set_cons_succ, i64_w, i32_w]
                       rfl
                      exact norm_ (by first | (simp only [putAll, Act.put, List.setIfInBounds_toArray, List.set_cons_zero, List.set_cons_succ]; done) | (simp only [putAll, Act.put, List.setIfInBounds_toArray, List.set_cons_zero, List.set_cons_succ]; rfl)) (hJ0_2_3_6_17 (gb194) _ ⟨hHeld, (kv_ BK166.out), (kv_ BK167.out), (kv_ BK194.out), GW194.out, GE194.out, NB166_194.out, NB194_166.out, NB167_194.out, NB194_167.out, (bS3_ HB.out GE166.out GE167.out GE194.out)⟩)
                    ·skip
                     rintro _ w36 ⟨hS_, h0_, h1_, h2_⟩
                     have n0_ : Aside0 (w36.heap[gb166]? = some (.cells #[.int .i64 2, .string (⟨#[]⟩ : ByteArray), .int .i64 0] 44 (0, 0))) := ⟨h0_⟩
                     have n1_ : Aside0 (w36.heap[gb167]? = some (.cells #[.int .i64 3, .string (⟨#[]⟩ : ByteArray), .int .i64 0] 44 (0, 0))) := ⟨h1_⟩
                     have n2_ : Aside0 (Below w.heap.size w w36) := ⟨h2_⟩
                     clear BK166
                     clear BK167
                     clear HB
                     clear h0_ h1_ h2_
                     have BK166 := n0_
                     have BK167 := n1_
                     have HB := n2_
                     clear n0_ n1_ n2_
                     have hHeld : w36.cell? ⟨gb166, 0, none⟩ = some (.int .i64 2) ∧ w36.cell? ⟨gb166, 1, none⟩ = some (.string (⟨#[]⟩ : ByteArray)) ∧ w36.cell? ⟨gb166, 2, none⟩ = some (.int .i64 0) ∧ w36.cell? ⟨gb167, 0, none⟩ = some (.int .i64 3) ∧ w36.cell? ⟨gb167, 1, none⟩ = some (.string (⟨#[]⟩ : ByteArray)) ∧ w36.cell? ⟨gb167, 2, none⟩ = some (.int .i64 0) := hS_
                     refine norm_ (a' := ?_) ?_ ?_
                     rotate_left
                     ·simp only [putAll, Act.put, List.setIfInBounds_toArray, List.set_cons_zero, List.set_cons_succ]
                      rfl
                     refine two_ (i := 8) (j := 17) (Ni := some 22) (Nj := some 4) #[true, true, true, true, true, true, true, true, true, true, true, false, false, false, false, false, false, false, false, false] #[true, true, true, true, true, true, true, true, false, true, true, false, false, false, false, false, false, true, false, false] rfl rfl rfl rfl (two_of HT_.out (by kernel_rfl)) (by decide) (by decide) (fun K hK => ?_) (fun K hK => ?_)
                     ·skip
                      refine goes_ Try.func24 (by kernel_rfl) rfl #[.string (⟨#[99]⟩ : ByteArray)] (by rfl) rfl rfl (by (try simp only [List.map_toArray, List.map_cons, List.map_nil]); first | done | rfl | (simp only [List.length_drop, List.length_take]; rfl) | (simp only [*]; first | done | rfl)) ?_
                      with_reducible refine (variorumlaw06_word.calls (⟨#[99]⟩ : ByteArray) t180 t181 t182 _ A5.out).mono ?_
                      rintro e w37 ⟨rfl, hb⟩
                      refine ⟨_, rfl, ?_⟩
                      have n0_ := a_ (kb_ BK166.out hb)
                      have n1_ := a_ (kb_ BK167.out hb)
                      have n2_ := a_ (below_step (bS2_ HB.out GE166.out GE167.out) hb)
                      clear BK166
                      clear BK167
                      clear HB
                      have BK166 := n0_
                      have BK167 := n1_
                      have HB := n2_
                      clear n0_ n1_ n2_
                      (try clear hb)
                      (try clear hb2)
                      (try clear hk)
                      (try clear hi)
                      refine hK.out _ _ ⟨(blk_cell BK166.out 0).trans rfl, (blk_cell BK166.out 1).trans rfl, (blk_cell BK166.out 2).trans rfl, (blk_cell BK167.out 0).trans rfl, (blk_cell BK167.out 1).trans rfl, (blk_cell BK167.out 2).trans rfl⟩ (fun hHeld => ?_)
                      clear hK K
                      refine norm_ (a' := ?_) ?_ ?_
                      rotate_left
                      ·show Act.put _ (some 22) _ = _
                       simp only [Act.put, List.setIfInBounds_toArray, List.set_cons_zero, List.set_cons_succ, i64_w, i32_w]
                       rfl
                      exact norm_ (by first | (simp only [putAll, Act.put, List.setIfInBounds_toArray, List.set_cons_zero, List.set_cons_succ]; done) | (simp only [putAll, Act.put, List.setIfInBounds_toArray, List.set_cons_zero, List.set_cons_succ]; rfl)) (hJ0_2_3_6_8 () _ ⟨hHeld, (kv_ BK166.out), (kv_ BK167.out), (bS2_ HB.out GE166.out GE167.out)⟩)
                     ·skip
                      refine box_step ?hg (N := 4) ?hd (cs := #[.int .i64 0, .int .i64 0]) (t := 26) ?hr ?_; (case hd => rfl); (case hg => rfl); (case hr => first | (go_simp; done) | (go_simp; rfl))
                      intro gb194 hg w37 hbox hb
                      have n0_ := a_ (kb_ BK166.out hb)
                      have n1_ := a_ (kb_ BK167.out hb)
                      have n2_ := a_ (below_step (bS2_ HB.out GE166.out GE167.out) hb)
                      have n3_ := a_ (hbox)
                      have n4_ := a_ ((by rw [hg]; exact (below_size (bS2_ HB.out GE166.out GE167.out)) : w.heap.size ≤ gb194))
                      have n5_ := a_ ((by rw [hg]; exact (below_size (bS2_ HB.out GE166.out GE167.out)) : w.heap.size ≤ gb194))
                      have n6_ := a_ ((by rw [hg]; exact Nat.ne_of_lt (blk_lt (kv_ BK166.out)) : gb166 ≠ gb194))
                      have n7_ := a_ ((by rw [hg]; exact Nat.ne_of_gt (blk_lt (kv_ BK166.out)) : gb194 ≠ gb166))
                      have n8_ := a_ ((by rw [hg]; exact Nat.ne_of_lt (blk_lt (kv_ BK167.out)) : gb167 ≠ gb194))
                      have n9_ := a_ ((by rw [hg]; exact Nat.ne_of_gt (blk_lt (kv_ BK167.out)) : gb194 ≠ gb167))
                      clear BK166
                      clear BK167
                      clear HB
                      have BK166 := n0_
                      have BK167 := n1_
                      have HB := n2_
                      have BK194 := n3_
                      have GW194 := n4_
                      have GE194 := n5_
                      have NB166_194 := n6_
                      have NB194_166 := n7_
                      have NB167_194 := n8_
                      have NB194_167 := n9_
                      clear n0_ n1_ n2_ n3_ n4_ n5_ n6_ n7_ n8_ n9_
                      clear hb hbox hg
                      refine hK.out _ _ ⟨(blk_cell BK166.out 0).trans rfl, (blk_cell BK166.out 1).trans rfl, (blk_cell BK166.out 2).trans rfl, (blk_cell BK167.out 0).trans rfl, (blk_cell BK167.out 1).trans rfl, (blk_cell BK167.out 2).trans rfl⟩ (fun hHeld => ?_)
                      clear hK K
                      refine norm_ (a' := ?_) ?_ ?_
                      rotate_left
                      ·show Act.put _ (some 4) _ = _
                       simp only [Act.put, List.setIfInBounds_toArray, List.set_cons_zero, List.set_cons_succ, i64_w, i32_w]
                       rfl
                      exact norm_ (by first | (simp only [putAll, Act.put, List.setIfInBounds_toArray, List.set_cons_zero, List.set_cons_succ]; done) | (simp only [putAll, Act.put, List.setIfInBounds_toArray, List.set_cons_zero, List.set_cons_succ]; rfl)) (hJ0_2_3_6_17 (gb194) _ ⟨hHeld, (kv_ BK166.out), (kv_ BK167.out), (kv_ BK194.out), GW194.out, GE194.out, NB166_194.out, NB194_166.out, NB167_194.out, NB194_167.out, (bS3_ HB.out GE166.out GE167.out GE194.out)⟩)
                   ·skip
                    rintro gb194 w37 ⟨hS_, h0_, h1_, h2_, h3_, h4_, h5_, h6_, h7_, h8_, h9_⟩
                    have n0_ : Aside0 (w37.heap[gb166]? = some (.cells #[.int .i64 2, .string (⟨#[]⟩ : ByteArray), .int .i64 0] 44 (0, 0))) := ⟨h0_⟩
                    have n1_ : Aside0 (w37.heap[gb167]? = some (.cells #[.int .i64 3, .string (⟨#[]⟩ : ByteArray), .int .i64 0] 44 (0, 0))) := ⟨h1_⟩
                    have n2_ : Aside0 (w37.heap[gb194]? = some (.cells #[.int .i64 0, .int .i64 0] 26 (0, 0))) := ⟨h2_⟩
                    have n3_ : Aside0 (w.heap.size ≤ gb194) := ⟨h3_⟩
                    have n4_ : Aside0 (w.heap.size ≤ gb194) := ⟨h4_⟩
                    have n5_ : Aside0 (gb166 ≠ gb194) := ⟨h5_⟩
                    have n6_ : Aside0 (gb194 ≠ gb166) := ⟨h6_⟩
                    have n7_ : Aside0 (gb167 ≠ gb194) := ⟨h7_⟩
                    have n8_ : Aside0 (gb194 ≠ gb167) := ⟨h8_⟩
                    have n9_ : Aside0 (Below w.heap.size w w37) := ⟨h9_⟩
                    clear BK166
                    clear BK167
                    clear HB
                    clear h0_ h1_ h2_ h3_ h4_ h5_ h6_ h7_ h8_ h9_
                    have BK166 := n0_
                    have BK167 := n1_
                    have BK194 := n2_
                    have GW194 := n3_
                    have GE194 := n4_
                    have NB166_194 := n5_
                    have NB194_166 := n6_
                    have NB167_194 := n7_
                    have NB194_167 := n8_
                    have HB := n9_
                    clear n0_ n1_ n2_ n3_ n4_ n5_ n6_ n7_ n8_ n9_
                    have hHeld : w37.cell? ⟨gb166, 0, none⟩ = some (.int .i64 2) ∧ w37.cell? ⟨gb166, 1, none⟩ = some (.string (⟨#[]⟩ : ByteArray)) ∧ w37.cell? ⟨gb166, 2, none⟩ = some (.int .i64 0) ∧ w37.cell? ⟨gb167, 0, none⟩ = some (.int .i64 3) ∧ w37.cell? ⟨gb167, 1, none⟩ = some (.string (⟨#[]⟩ : ByteArray)) ∧ w37.cell? ⟨gb167, 2, none⟩ = some (.int .i64 0) := hS_
                    refine norm_ (a' := ?_) ?_ ?_
                    rotate_left
                    ·simp only [putAll, Act.put, List.setIfInBounds_toArray, List.set_cons_zero, List.set_cons_succ]
                     rfl
                    refine one_ (i := 8) (N := some 22) #[true, true, true, true, true, true, true, true, true, true, true, false, false, false, false, false, false, true, false, false] rfl rfl (one_of HT_.out (by kernel_rfl)) (by decide) (fun K hK => ?_)
                    refine goes_ Try.func24 (by kernel_rfl) rfl #[.string (⟨#[99]⟩ : ByteArray)] (by rfl) rfl rfl (by (try simp only [List.map_toArray, List.map_cons, List.map_nil]); first | done | rfl | (simp only [List.length_drop, List.length_take]; rfl) | (simp only [*]; first | done | rfl)) ?_
                    with_reducible refine (variorumlaw06_word.calls (⟨#[99]⟩ : ByteArray) t180 t181 t182 _ A5.out).mono ?_
                    rintro e w38 ⟨rfl, hb⟩
                    refine ⟨_, rfl, ?_⟩
                    have n0_ := a_ (kb_ BK166.out hb)
                    have n1_ := a_ (kb_ BK167.out hb)
                    have n2_ := a_ (kb_ BK194.out hb)
                    have n3_ := a_ (below_step (bS3_ HB.out GE166.out GE167.out GE194.out) hb)
                    clear BK166
                    clear BK167
                    clear BK194
                    clear HB
                    have BK166 := n0_
                    have BK167 := n1_
                    have BK194 := n2_
                    have HB := n3_
                    clear n0_ n1_ n2_ n3_
                    (try clear hb)
                    (try clear hb2)
                    (try clear hk)
                    (try clear hi)
                    refine hK.out _ _ ⟨(blk_cell BK166.out 0).trans rfl, (blk_cell BK166.out 1).trans rfl, (blk_cell BK166.out 2).trans rfl, (blk_cell BK167.out 0).trans rfl, (blk_cell BK167.out 1).trans rfl, (blk_cell BK167.out 2).trans rfl⟩ (fun hHeld => ?_)
                    clear hK K
                    refine norm_ (a' := ?_) ?_ ?_
                    rotate_left
                    ·show Act.put _ (some 22) _ = _
                     simp only [Act.put, List.setIfInBounds_toArray, List.set_cons_zero, List.set_cons_succ, i64_w, i32_w]
                     rfl
                    exact norm_ (by first | (simp only [putAll, Act.put, List.setIfInBounds_toArray, List.set_cons_zero, List.set_cons_succ]; done) | (simp only [putAll, Act.put, List.setIfInBounds_toArray, List.set_cons_zero, List.set_cons_succ]; rfl)) (hJ0_2_3_6_8_17 (gb194) _ ⟨hHeld, (kv_ BK166.out), (kv_ BK167.out), (kv_ BK194.out), GW194.out, GE194.out, NB166_194.out, NB194_166.out, NB167_194.out, NB194_167.out, (bS3_ HB.out GE166.out GE167.out GE194.out)⟩)
                  ·skip
                   rintro _ w37 ⟨hS_, h0_, h1_, h2_⟩
                   have n0_ : Aside0 (w37.heap[gb166]? = some (.cells #[.int .i64 2, .string (⟨#[]⟩ : ByteArray), .int .i64 0] 44 (0, 0))) := ⟨h0_⟩
                   have n1_ : Aside0 (w37.heap[gb167]? = some (.cells #[.int .i64 3, .string (⟨#[]⟩ : ByteArray), .int .i64 0] 44 (0, 0))) := ⟨h1_⟩
                   have n2_ : Aside0 (Below w.heap.size w w37) := ⟨h2_⟩
                   clear BK166
                   clear BK167
                   clear HB
                   clear h0_ h1_ h2_
                   have BK166 := n0_
                   have BK167 := n1_
                   have HB := n2_
                   clear n0_ n1_ n2_
                   have hHeld : w37.cell? ⟨gb166, 0, none⟩ = some (.int .i64 2) ∧ w37.cell? ⟨gb166, 1, none⟩ = some (.string (⟨#[]⟩ : ByteArray)) ∧ w37.cell? ⟨gb166, 2, none⟩ = some (.int .i64 0) ∧ w37.cell? ⟨gb167, 0, none⟩ = some (.int .i64 3) ∧ w37.cell? ⟨gb167, 1, none⟩ = some (.string (⟨#[]⟩ : ByteArray)) ∧ w37.cell? ⟨gb167, 2, none⟩ = some (.int .i64 0) := hS_
                   refine norm_ (a' := ?_) ?_ ?_
                   rotate_left
                   ·simp only [putAll, Act.put, List.setIfInBounds_toArray, List.set_cons_zero, List.set_cons_succ]
                    rfl
                   refine two_ (i := 11) (j := 17) (Ni := some 25) (Nj := some 4) #[true, true, true, true, true, true, true, true, true, true, true, true, false, false, false, false, false, false, false, false] #[true, true, true, true, true, true, true, true, true, true, true, false, false, false, false, false, false, true, false, false] rfl rfl rfl rfl (two_of HT_.out (by kernel_rfl)) (by decide) (by decide) (fun K hK => ?_) (fun K hK => ?_)
                   ·skip
                    refine goes_ Try.func24 (by kernel_rfl) rfl #[.string (⟨#[100]⟩ : ByteArray)] (by rfl) rfl rfl (by (try simp only [List.map_toArray, List.map_cons, List.map_nil]); first | done | rfl | (simp only [List.length_drop, List.length_take]; rfl) | (simp only [*]; first | done | rfl)) ?_
                    with_reducible refine (variorumlaw06_word.calls (⟨#[100]⟩ : ByteArray) t183 t184 t185 _ A6.out).mono ?_
                    rintro e w38 ⟨rfl, hb⟩
                    refine ⟨_, rfl, ?_⟩
                    have n0_ := a_ (kb_ BK166.out hb)
                    have n1_ := a_ (kb_ BK167.out hb)
                    have n2_ := a_ (below_step (bS2_ HB.out GE166.out GE167.out) hb)
                    clear BK166
                    clear BK167
                    clear HB
                    have BK166 := n0_
                    have BK167 := n1_
                    have HB := n2_
                    clear n0_ n1_ n2_
                    (try clear hb)
                    (try clear hb2)
                    (try clear hk)
                    (try clear hi)
                    refine hK.out _ _ ⟨(blk_cell BK166.out 0).trans rfl, (blk_cell BK166.out 1).trans rfl, (blk_cell BK166.out 2).trans rfl, (blk_cell BK167.out 0).trans rfl, (blk_cell BK167.out 1).trans rfl, (blk_cell BK167.out 2).trans rfl⟩ (fun hHeld => ?_)
                    clear hK K
                    refine norm_ (a' := ?_) ?_ ?_
                    rotate_left
                    ·show Act.put _ (some 25) _ = _
                     simp only [Act.put, List.setIfInBounds_toArray, List.set_cons_zero, List.set_cons_succ, i64_w, i32_w]
                     rfl
                    exact norm_ (by first | (simp only [putAll, Act.put, List.setIfInBounds_toArray, List.set_cons_zero, List.set_cons_succ]; done) | (simp only [putAll, Act.put, List.setIfInBounds_toArray, List.set_cons_zero, List.set_cons_succ]; rfl)) (hJ0_2_3_6_8_11 () _ ⟨hHeld, (kv_ BK166.out), (kv_ BK167.out), (bS2_ HB.out GE166.out GE167.out)⟩)
                   ·skip
                    refine box_step ?hg (N := 4) ?hd (cs := #[.int .i64 0, .int .i64 0]) (t := 26) ?hr ?_; (case hd => rfl); (case hg => rfl); (case hr => first | (go_simp; done) | (go_simp; rfl))
                    intro gb194 hg w38 hbox hb
                    have n0_ := a_ (kb_ BK166.out hb)
                    have n1_ := a_ (kb_ BK167.out hb)
                    have n2_ := a_ (below_step (bS2_ HB.out GE166.out GE167.out) hb)
                    have n3_ := a_ (hbox)
                    have n4_ := a_ ((by rw [hg]; exact (below_size (bS2_ HB.out GE166.out GE167.out)) : w.heap.size ≤ gb194))
                    have n5_ := a_ ((by rw [hg]; exact (below_size (bS2_ HB.out GE166.out GE167.out)) : w.heap.size ≤ gb194))
                    have n6_ := a_ ((by rw [hg]; exact Nat.ne_of_lt (blk_lt (kv_ BK166.out)) : gb166 ≠ gb194))
                    have n7_ := a_ ((by rw [hg]; exact Nat.ne_of_gt (blk_lt (kv_ BK166.out)) : gb194 ≠ gb166))
                    have n8_ := a_ ((by rw [hg]; exact Nat.ne_of_lt (blk_lt (kv_ BK167.out)) : gb167 ≠ gb194))
                    have n9_ := a_ ((by rw [hg]; exact Nat.ne_of_gt (blk_lt (kv_ BK167.out)) : gb194 ≠ gb167))
                    clear BK166
                    clear BK167
                    clear HB
                    have BK166 := n0_
                    have BK167 := n1_
                    have HB := n2_
                    have BK194 := n3_
                    have GW194 := n4_
                    have GE194 := n5_
                    have NB166_194 := n6_
                    have NB194_166 := n7_
                    have NB167_194 := n8_
                    have NB194_167 := n9_
                    clear n0_ n1_ n2_ n3_ n4_ n5_ n6_ n7_ n8_ n9_
                    clear hb hbox hg
                    refine hK.out _ _ ⟨(blk_cell BK166.out 0).trans rfl, (blk_cell BK166.out 1).trans rfl, (blk_cell BK166.out 2).trans rfl, (blk_cell BK167.out 0).trans rfl, (blk_cell BK167.out 1).trans rfl, (blk_cell BK167.out 2).trans rfl⟩ (fun hHeld => ?_)
                    clear hK K
                    refine norm_ (a' := ?_) ?_ ?_
                    rotate_left
                    ·show Act.put _ (some 4) _ = _
                     simp only [Act.put, List.setIfInBounds_toArray, List.set_cons_zero, List.set_cons_succ, i64_w, i32_w]
                     rfl
                    exact norm_ (by first | (simp only [putAll, Act.put, List.setIfInBounds_toArray, List.set_cons_zero, List.set_cons_succ]; done) | (simp only [putAll, Act.put, List.setIfInBounds_toArray, List.set_cons_zero, List.set_cons_succ]; rfl)) (hJ0_2_3_6_8_17 (gb194) _ ⟨hHeld, (kv_ BK166.out), (kv_ BK167.out), (kv_ BK194.out), GW194.out, GE194.out, NB166_194.out, NB194_166.out, NB167_194.out, NB194_167.out, (bS3_ HB.out GE166.out GE167.out GE194.out)⟩)
                 ·skip
                  rintro gb194 w38 ⟨hS_, h0_, h1_, h2_, h3_, h4_, h5_, h6_, h7_, h8_, h9_⟩
                  have n0_ : Aside0 (w38.heap[gb166]? = some (.cells #[.int .i64 2, .string (⟨#[]⟩ : ByteArray), .int .i64 0] 44 (0, 0))) := ⟨h0_⟩
                  have n1_ : Aside0 (w38.heap[gb167]? = some (.cells #[.int .i64 3, .string (⟨#[]⟩ : ByteArray), .int .i64 0] 44 (0, 0))) := ⟨h1_⟩
                  have n2_ : Aside0 (w38.heap[gb194]? = some (.cells #[.int .i64 0, .int .i64 0] 26 (0, 0))) := ⟨h2_⟩
                  have n3_ : Aside0 (w.heap.size ≤ gb194) := ⟨h3_⟩
                  have n4_ : Aside0 (w.heap.size ≤ gb194) := ⟨h4_⟩
                  have n5_ : Aside0 (gb166 ≠ gb194) := ⟨h5_⟩
                  have n6_ : Aside0 (gb194 ≠ gb166) := ⟨h6_⟩
                  have n7_ : Aside0 (gb167 ≠ gb194) := ⟨h7_⟩
                  have n8_ : Aside0 (gb194 ≠ gb167) := ⟨h8_⟩
                  have n9_ : Aside0 (Below w.heap.size w w38) := ⟨h9_⟩
                  clear BK166
                  clear BK167
                  clear HB
                  clear h0_ h1_ h2_ h3_ h4_ h5_ h6_ h7_ h8_ h9_
                  have BK166 := n0_
                  have BK167 := n1_
                  have BK194 := n2_
                  have GW194 := n3_
                  have GE194 := n4_
                  have NB166_194 := n5_
                  have NB194_166 := n6_
                  have NB167_194 := n7_
                  have NB194_167 := n8_
                  have HB := n9_
                  clear n0_ n1_ n2_ n3_ n4_ n5_ n6_ n7_ n8_ n9_
                  have hHeld : w38.cell? ⟨gb166, 0, none⟩ = some (.int .i64 2) ∧ w38.cell? ⟨gb166, 1, none⟩ = some (.string (⟨#[]⟩ : ByteArray)) ∧ w38.cell? ⟨gb166, 2, none⟩ = some (.int .i64 0) ∧ w38.cell? ⟨gb167, 0, none⟩ = some (.int .i64 3) ∧ w38.cell? ⟨gb167, 1, none⟩ = some (.string (⟨#[]⟩ : ByteArray)) ∧ w38.cell? ⟨gb167, 2, none⟩ = some (.int .i64 0) := hS_
                  refine norm_ (a' := ?_) ?_ ?_
                  rotate_left
                  ·simp only [putAll, Act.put, List.setIfInBounds_toArray, List.set_cons_zero, List.set_cons_succ]
                   rfl
                  refine one_ (i := 11) (N := some 25) #[true, true, true, true, true, true, true, true, true, true, true, true, false, false, false, false, false, true, false, false] rfl rfl (one_of HT_.out (by kernel_rfl)) (by decide) (fun K hK => ?_)
                  refine goes_ Try.func24 (by kernel_rfl) rfl #[.string (⟨#[100]⟩ : ByteArray)] (by rfl) rfl rfl (by (try simp only [List.map_toArray, List.map_cons, List.map_nil]); first | done | rfl | (simp only [List.length_drop, List.length_take]; rfl) | (simp only [*]; first | done | rfl)) ?_
                  with_reducible refine (variorumlaw06_word.calls (⟨#[100]⟩ : ByteArray) t183 t184 t185 _ A6.out).mono ?_
                  rintro e w39 ⟨rfl, hb⟩
                  refine ⟨_, rfl, ?_⟩
                  have n0_ := a_ (kb_ BK166.out hb)
                  have n1_ := a_ (kb_ BK167.out hb)
                  have n2_ := a_ (kb_ BK194.out hb)
                  have n3_ := a_ (below_step (bS3_ HB.out GE166.out GE167.out GE194.out) hb)
                  clear BK166
                  clear BK167
                  clear BK194
                  clear HB
                  have BK166 := n0_
                  have BK167 := n1_
                  have BK194 := n2_
                  have HB := n3_
                  clear n0_ n1_ n2_ n3_
                  (try clear hb)
                  (try clear hb2)
                  (try clear hk)
                  (try clear hi)
                  refine hK.out _ _ ⟨(blk_cell BK166.out 0).trans rfl, (blk_cell BK166.out 1).trans rfl, (blk_cell BK166.out 2).trans rfl, (blk_cell BK167.out 0).trans rfl, (blk_cell BK167.out 1).trans rfl, (blk_cell BK167.out 2).trans rfl⟩ (fun hHeld => ?_)
                  clear hK K
                  refine norm_ (a' := ?_) ?_ ?_
                  rotate_left
                  ·show Act.put _ (some 25) _ = _
                   simp only [Act.put, List.setIfInBounds_toArray, List.set_cons_zero, List.set_cons_succ, i64_w, i32_w]
                   rfl
                  exact norm_ (by first | (simp only [putAll, Act.put, List.setIfInBounds_toArray, List.set_cons_zero, List.set_cons_succ]; done) | (simp only [putAll, Act.put, List.setIfInBounds_toArray, List.set_cons_zero, List.set_cons_succ]; rfl)) (hJ0_2_3_6_8_11_17 (gb194) _ ⟨hHeld, (kv_ BK166.out), (kv_ BK167.out), (kv_ BK194.out), GW194.out, GE194.out, NB166_194.out, NB194_166.out, NB167_194.out, NB194_167.out, (bS3_ HB.out GE166.out GE167.out GE194.out)⟩)
                ·skip
                 rintro _ w38 ⟨hS_, h0_, h1_, h2_⟩
                 have n0_ : Aside0 (w38.heap[gb166]? = some (.cells #[.int .i64 2, .string (⟨#[]⟩ : ByteArray), .int .i64 0] 44 (0, 0))) := ⟨h0_⟩
                 have n1_ : Aside0 (w38.heap[gb167]? = some (.cells #[.int .i64 3, .string (⟨#[]⟩ : ByteArray), .int .i64 0] 44 (0, 0))) := ⟨h1_⟩
                 have n2_ : Aside0 (Below w.heap.size w w38) := ⟨h2_⟩
                 clear BK166
                 clear BK167
                 clear HB
                 clear h0_ h1_ h2_
                 have BK166 := n0_
                 have BK167 := n1_
                 have HB := n2_
                 clear n0_ n1_ n2_
                 have hHeld : w38.cell? ⟨gb166, 0, none⟩ = some (.int .i64 2) ∧ w38.cell? ⟨gb166, 1, none⟩ = some (.string (⟨#[]⟩ : ByteArray)) ∧ w38.cell? ⟨gb166, 2, none⟩ = some (.int .i64 0) ∧ w38.cell? ⟨gb167, 0, none⟩ = some (.int .i64 3) ∧ w38.cell? ⟨gb167, 1, none⟩ = some (.string (⟨#[]⟩ : ByteArray)) ∧ w38.cell? ⟨gb167, 2, none⟩ = some (.int .i64 0) := hS_
                 refine norm_ (a' := ?_) ?_ ?_
                 rotate_left
                 ·simp only [putAll, Act.put, List.setIfInBounds_toArray, List.set_cons_zero, List.set_cons_succ]
                  rfl
                 refine two_ (i := 12) (j := 17) (Ni := some 26) (Nj := some 4) #[true, true, true, true, true, true, true, true, true, true, true, true, true, false, false, false, false, false, false, false] #[true, true, true, true, true, true, true, true, true, true, true, true, false, false, false, false, false, true, false, false] rfl rfl rfl rfl (two_of HT_.out (by kernel_rfl)) (by decide) (by decide) (fun K hK => ?_) (fun K hK => ?_)
                 ·skip
                  refine Kd.R_lit_step k44 _ 44 ?hg (N := 26) ?hd (xs := ([(⟨t168, t169, t170⟩ : S44), (⟨2, (⟨#[]⟩ : ByteArray), 0⟩ : S44), (⟨t171, t172, t173⟩ : S44), (⟨t174, t175, t176⟩ : S44), (⟨3, (⟨#[]⟩ : ByteArray), 0⟩ : S44), (⟨2, (⟨#[]⟩ : ByteArray), 0⟩ : S44), (⟨t177, t178, t179⟩ : S44), (⟨2, (⟨#[]⟩ : ByteArray), 0⟩ : S44), (⟨t180, t181, t182⟩ : S44), (⟨3, (⟨#[]⟩ : ByteArray), 0⟩ : S44), (⟨3, (⟨#[]⟩ : ByteArray), 0⟩ : S44), (⟨t183, t184, t185⟩ : S44)] : List (S44))) (inner := [.int .i64 t168, .string t169, .int .i64 t170, .int .i64 2, .string (⟨#[]⟩ : ByteArray), .int .i64 0, .int .i64 t171, .string t172, .int .i64 t173, .int .i64 t174, .string t175, .int .i64 t176, .int .i64 3, .string (⟨#[]⟩ : ByteArray), .int .i64 0, .int .i64 2, .string (⟨#[]⟩ : ByteArray), .int .i64 0, .int .i64 t177, .string t178, .int .i64 t179, .int .i64 2, .string (⟨#[]⟩ : ByteArray), .int .i64 0, .int .i64 t180, .string t181, .int .i64 t182, .int .i64 3, .string (⟨#[]⟩ : ByteArray), .int .i64 0, .int .i64 3, .string (⟨#[]⟩ : ByteArray), .int .i64 0, .int .i64 t183, .string t184, .int .i64 t185]) (ok := fun _ => True) (okp := fun _ => True) ?hr ?hp (fun _ hk => hk) trivial (Below.refl _ _) (Nat.le_refl _) (by simp) ?_; (case hd => rfl); (case hg => rfl); (case hr => first | (go_simp; done) | (go_simp; rfl)); (case hp => exact (Reps.c3 (show Kd.M k44 _ _ _ (⟨t168, t169, t170⟩ : S44) [.int .i64 t168, .string t169, .int .i64 t170] from (k44_mkM _ _ _ (⟨t168, t169, t170⟩ : S44) )) (Reps.c3 (show Kd.M k44 _ _ _ (⟨2, (⟨#[]⟩ : ByteArray), 0⟩ : S44) [.int .i64 2, .string (⟨#[]⟩ : ByteArray), .int .i64 0] from (k44_mkM _ _ _ (⟨2, (⟨#[]⟩ : ByteArray), 0⟩ : S44) )) (Reps.c3 (show Kd.M k44 _ _ _ (⟨t171, t172, t173⟩ : S44) [.int .i64 t171, .string t172, .int .i64 t173] from (k44_mkM _ _ _ (⟨t171, t172, t173⟩ : S44) )) (Reps.c3 (show Kd.M k44 _ _ _ (⟨t174, t175, t176⟩ : S44) [.int .i64 t174, .string t175, .int .i64 t176] from (k44_mkM _ _ _ (⟨t174, t175, t176⟩ : S44) )) (Reps.c3 (show Kd.M k44 _ _ _ (⟨3, (⟨#[]⟩ : ByteArray), 0⟩ : S44) [.int .i64 3, .string (⟨#[]⟩ : ByteArray), .int .i64 0] from (k44_mkM _ _ _ (⟨3, (⟨#[]⟩ : ByteArray), 0⟩ : S44) )) (Reps.c3 (show Kd.M k44 _ _ _ (⟨2, (⟨#[]⟩ : ByteArray), 0⟩ : S44) [.int .i64 2, .string (⟨#[]⟩ : ByteArray), .int .i64 0] from (k44_mkM _ _ _ (⟨2, (⟨#[]⟩ : ByteArray), 0⟩ : S44) )) (Reps.c3 (show Kd.M k44 _ _ _ (⟨t177, t178, t179⟩ : S44) [.int .i64 t177, .string t178, .int .i64 t179] from (k44_mkM _ _ _ (⟨t177, t178, t179⟩ : S44) )) (Reps.c3 (show Kd.M k44 _ _ _ (⟨2, (⟨#[]⟩ : ByteArray), 0⟩ : S44) [.int .i64 2, .string (⟨#[]⟩ : ByteArray), .int .i64 0] from (k44_mkM _ _ _ (⟨2, (⟨#[]⟩ : ByteArray), 0⟩ : S44) )) (Reps.c3 (show Kd.M k44 _ _ _ (⟨t180, t181, t182⟩ : S44) [.int .i64 t180, .string t181, .int .i64 t182] from (k44_mkM _ _ _ (⟨t180, t181, t182⟩ : S44) )) (Reps.c3 (show Kd.M k44 _ _ _ (⟨3, (⟨#[]⟩ : ByteArray), 0⟩ : S44) [.int .i64 3, .string (⟨#[]⟩ : ByteArray), .int .i64 0] from (k44_mkM _ _ _ (⟨3, (⟨#[]⟩ : ByteArray), 0⟩ : S44) )) (Reps.c3 (show Kd.M k44 _ _ _ (⟨3, (⟨#[]⟩ : ByteArray), 0⟩ : S44) [.int .i64 3, .string (⟨#[]⟩ : ByteArray), .int .i64 0] from (k44_mkM _ _ _ (⟨3, (⟨#[]⟩ : ByteArray), 0⟩ : S44) )) (Reps.c3 (show Kd.M k44 _ _ _ (⟨t183, t184, t185⟩ : S44) [.int .i64 t183, .string t184, .int .i64 t185] from (k44_mkM _ _ _ (⟨t183, t184, t185⟩ : S44) )) (Reps.none _ _))))))))))))))
                  intro v187 w39 ho40 hb hg_ hnew_
                  clear hg_ hnew_
                  (first | rw [← Ny186.out] at ho40 | (simp only [Int.reduceToNat] at ho40; rw [← Ny186.out] at ho40))
                  have n0_ := a_ (Kd.R_lower (Kd.R_newB (Kd.R_newB ho40 (g := gb166) (o := .cells #[.int .i64 2, .string (⟨#[]⟩ : ByteArray), .int .i64 0] 44 (0, 0)) (kv_ BK166.out)) (g := gb167) (o := .cells #[.int .i64 3, .string (⟨#[]⟩ : ByteArray), .int .i64 0] 44 (0, 0)) (kv_ BK167.out)) (below_size (bS2_ HB.out GE166.out GE167.out)))
                  have n1_ := a_ (kb_ BK166.out hb)
                  have n2_ := a_ (kb_ BK167.out hb)
                  have n3_ := a_ (below_step (bS2_ HB.out GE166.out GE167.out) hb)
                  clear BK166
                  clear BK167
                  clear HB
                  have HO188 := n0_
                  have BK166 := n1_
                  have BK167 := n2_
                  have HB := n3_
                  clear n0_ n1_ n2_ n3_
                  clear hb ho40
                  refine hK.out _ _ ⟨(blk_cell BK166.out 0).trans rfl, (blk_cell BK166.out 1).trans rfl, (blk_cell BK166.out 2).trans rfl, (blk_cell BK167.out 0).trans rfl, (blk_cell BK167.out 1).trans rfl, (blk_cell BK167.out 2).trans rfl⟩ (fun hHeld => ?_)
                  clear hK K
                  refine norm_ (a' := ?_) ?_ ?_
                  rotate_left
                  ·show Act.put _ (some 26) _ = _
                   simp only [Act.put, List.setIfInBounds_toArray, List.set_cons_zero, List.set_cons_succ, i64_w, i32_w]
                   rfl
                  exact norm_ (by first | (simp only [putAll, Act.put, List.setIfInBounds_toArray, List.set_cons_zero, List.set_cons_succ]; done) | (simp only [putAll, Act.put, List.setIfInBounds_toArray, List.set_cons_zero, List.set_cons_succ]; rfl)) (hJ0_2_3_6_8_11_12 (_) _ ⟨hHeld, (by (with_reducible repeat (first | apply Kd.R_alloc | apply Kd.R_drewN | apply Kd.R_drew)); exact Kd.R_mono HO188.out (fun _ hk => ⟨hk.1.2, hk.2⟩)), (kv_ BK166.out), (kv_ BK167.out), (bS2_ HB.out GE166.out GE167.out)⟩)
                 ·skip
                  refine box_step ?hg (N := 4) ?hd (cs := #[.int .i64 0, .int .i64 0]) (t := 26) ?hr ?_; (case hd => rfl); (case hg => rfl); (case hr => first | (go_simp; done) | (go_simp; rfl))
                  intro gb194 hg w39 hbox hb
                  have n0_ := a_ (kb_ BK166.out hb)
                  have n1_ := a_ (kb_ BK167.out hb)
                  have n2_ := a_ (below_step (bS2_ HB.out GE166.out GE167.out) hb)
                  have n3_ := a_ (hbox)
                  have n4_ := a_ ((by rw [hg]; exact (below_size (bS2_ HB.out GE166.out GE167.out)) : w.heap.size ≤ gb194))
                  have n5_ := a_ ((by rw [hg]; exact (below_size (bS2_ HB.out GE166.out GE167.out)) : w.heap.size ≤ gb194))
                  have n6_ := a_ ((by rw [hg]; exact Nat.ne_of_lt (blk_lt (kv_ BK166.out)) : gb166 ≠ gb194))
                  have n7_ := a_ ((by rw [hg]; exact Nat.ne_of_gt (blk_lt (kv_ BK166.out)) : gb194 ≠ gb166))
                  have n8_ := a_ ((by rw [hg]; exact Nat.ne_of_lt (blk_lt (kv_ BK167.out)) : gb167 ≠ gb194))
                  have n9_ := a_ ((by rw [hg]; exact Nat.ne_of_gt (blk_lt (kv_ BK167.out)) : gb194 ≠ gb167))
                  clear BK166
                  clear BK167
                  clear HB
                  have BK166 := n0_
                  have BK167 := n1_
                  have HB := n2_
                  have BK194 := n3_
                  have GW194 := n4_
                  have GE194 := n5_
                  have NB166_194 := n6_
                  have NB194_166 := n7_
                  have NB167_194 := n8_
                  have NB194_167 := n9_
                  clear n0_ n1_ n2_ n3_ n4_ n5_ n6_ n7_ n8_ n9_
                  clear hb hbox hg
                  refine hK.out _ _ ⟨(blk_cell BK166.out 0).trans rfl, (blk_cell BK166.out 1).trans rfl, (blk_cell BK166.out 2).trans rfl, (blk_cell BK167.out 0).trans rfl, (blk_cell BK167.out 1).trans rfl, (blk_cell BK167.out 2).trans rfl⟩ (fun hHeld => ?_)
                  clear hK K
                  refine norm_ (a' := ?_) ?_ ?_
                  rotate_left
                  ·show Act.put _ (some 4) _ = _
                   simp only [Act.put, List.setIfInBounds_toArray, List.set_cons_zero, List.set_cons_succ, i64_w, i32_w]
                   rfl
                  exact norm_ (by first | (simp only [putAll, Act.put, List.setIfInBounds_toArray, List.set_cons_zero, List.set_cons_succ]; done) | (simp only [putAll, Act.put, List.setIfInBounds_toArray, List.set_cons_zero, List.set_cons_succ]; rfl)) (hJ0_2_3_6_8_11_17 (gb194) _ ⟨hHeld, (kv_ BK166.out), (kv_ BK167.out), (kv_ BK194.out), GW194.out, GE194.out, NB166_194.out, NB194_166.out, NB167_194.out, NB194_167.out, (bS3_ HB.out GE166.out GE167.out GE194.out)⟩)
               ·skip
                rintro gb194 w39 ⟨hS_, h0_, h1_, h2_, h3_, h4_, h5_, h6_, h7_, h8_, h9_⟩
                have n0_ : Aside0 (w39.heap[gb166]? = some (.cells #[.int .i64 2, .string (⟨#[]⟩ : ByteArray), .int .i64 0] 44 (0, 0))) := ⟨h0_⟩
                have n1_ : Aside0 (w39.heap[gb167]? = some (.cells #[.int .i64 3, .string (⟨#[]⟩ : ByteArray), .int .i64 0] 44 (0, 0))) := ⟨h1_⟩
                have n2_ : Aside0 (w39.heap[gb194]? = some (.cells #[.int .i64 0, .int .i64 0] 26 (0, 0))) := ⟨h2_⟩
                have n3_ : Aside0 (w.heap.size ≤ gb194) := ⟨h3_⟩
                have n4_ : Aside0 (w.heap.size ≤ gb194) := ⟨h4_⟩
                have n5_ : Aside0 (gb166 ≠ gb194) := ⟨h5_⟩
                have n6_ : Aside0 (gb194 ≠ gb166) := ⟨h6_⟩
                have n7_ : Aside0 (gb167 ≠ gb194) := ⟨h7_⟩
                have n8_ : Aside0 (gb194 ≠ gb167) := ⟨h8_⟩
                have n9_ : Aside0 (Below w.heap.size w w39) := ⟨h9_⟩
                clear BK166
                clear BK167
                clear HB
                clear h0_ h1_ h2_ h3_ h4_ h5_ h6_ h7_ h8_ h9_
                have BK166 := n0_
                have BK167 := n1_
                have BK194 := n2_
                have GW194 := n3_
                have GE194 := n4_
                have NB166_194 := n5_
                have NB194_166 := n6_
                have NB167_194 := n7_
                have NB194_167 := n8_
                have HB := n9_
                clear n0_ n1_ n2_ n3_ n4_ n5_ n6_ n7_ n8_ n9_
                have hHeld : w39.cell? ⟨gb166, 0, none⟩ = some (.int .i64 2) ∧ w39.cell? ⟨gb166, 1, none⟩ = some (.string (⟨#[]⟩ : ByteArray)) ∧ w39.cell? ⟨gb166, 2, none⟩ = some (.int .i64 0) ∧ w39.cell? ⟨gb167, 0, none⟩ = some (.int .i64 3) ∧ w39.cell? ⟨gb167, 1, none⟩ = some (.string (⟨#[]⟩ : ByteArray)) ∧ w39.cell? ⟨gb167, 2, none⟩ = some (.int .i64 0) := hS_
                refine norm_ (a' := ?_) ?_ ?_
                rotate_left
                ·simp only [putAll, Act.put, List.setIfInBounds_toArray, List.set_cons_zero, List.set_cons_succ]
                 rfl
                refine one_ (i := 12) (N := some 26) #[true, true, true, true, true, true, true, true, true, true, true, true, true, false, false, false, false, true, false, false] rfl rfl (one_of HT_.out (by kernel_rfl)) (by decide) (fun K hK => ?_)
                refine Kd.R_lit_step k44 _ 44 ?hg (N := 26) ?hd (xs := ([(⟨t168, t169, t170⟩ : S44), (⟨2, (⟨#[]⟩ : ByteArray), 0⟩ : S44), (⟨t171, t172, t173⟩ : S44), (⟨t174, t175, t176⟩ : S44), (⟨3, (⟨#[]⟩ : ByteArray), 0⟩ : S44), (⟨2, (⟨#[]⟩ : ByteArray), 0⟩ : S44), (⟨t177, t178, t179⟩ : S44), (⟨2, (⟨#[]⟩ : ByteArray), 0⟩ : S44), (⟨t180, t181, t182⟩ : S44), (⟨3, (⟨#[]⟩ : ByteArray), 0⟩ : S44), (⟨3, (⟨#[]⟩ : ByteArray), 0⟩ : S44), (⟨t183, t184, t185⟩ : S44)] : List (S44))) (inner := [.int .i64 t168, .string t169, .int .i64 t170, .int .i64 2, .string (⟨#[]⟩ : ByteArray), .int .i64 0, .int .i64 t171, .string t172, .int .i64 t173, .int .i64 t174, .string t175, .int .i64 t176, .int .i64 3, .string (⟨#[]⟩ : ByteArray), .int .i64 0, .int .i64 2, .string (⟨#[]⟩ : ByteArray), .int .i64 0, .int .i64 t177, .string t178, .int .i64 t179, .int .i64 2, .string (⟨#[]⟩ : ByteArray), .int .i64 0, .int .i64 t180, .string t181, .int .i64 t182, .int .i64 3, .string (⟨#[]⟩ : ByteArray), .int .i64 0, .int .i64 3, .string (⟨#[]⟩ : ByteArray), .int .i64 0, .int .i64 t183, .string t184, .int .i64 t185]) (ok := fun _ => True) (okp := fun _ => True) ?hr ?hp (fun _ hk => hk) trivial (Below.refl _ _) (Nat.le_refl _) (by simp) ?_; (case hd => rfl); (case hg => rfl); (case hr => first | (go_simp; done) | (go_simp; rfl)); (case hp => exact (Reps.c3 (show Kd.M k44 _ _ _ (⟨t168, t169, t170⟩ : S44) [.int .i64 t168, .string t169, .int .i64 t170] from (k44_mkM _ _ _ (⟨t168, t169, t170⟩ : S44) )) (Reps.c3 (show Kd.M k44 _ _ _ (⟨2, (⟨#[]⟩ : ByteArray), 0⟩ : S44) [.int .i64 2, .string (⟨#[]⟩ : ByteArray), .int .i64 0] from (k44_mkM _ _ _ (⟨2, (⟨#[]⟩ : ByteArray), 0⟩ : S44) )) (Reps.c3 (show Kd.M k44 _ _ _ (⟨t171, t172, t173⟩ : S44) [.int .i64 t171, .string t172, .int .i64 t173] from (k44_mkM _ _ _ (⟨t171, t172, t173⟩ : S44) )) (Reps.c3 (show Kd.M k44 _ _ _ (⟨t174, t175, t176⟩ : S44) [.int .i64 t174, .string t175, .int .i64 t176] from (k44_mkM _ _ _ (⟨t174, t175, t176⟩ : S44) )) (Reps.c3 (show Kd.M k44 _ _ _ (⟨3, (⟨#[]⟩ : ByteArray), 0⟩ : S44) [.int .i64 3, .string (⟨#[]⟩ : ByteArray), .int .i64 0] from (k44_mkM _ _ _ (⟨3, (⟨#[]⟩ : ByteArray), 0⟩ : S44) )) (Reps.c3 (show Kd.M k44 _ _ _ (⟨2, (⟨#[]⟩ : ByteArray), 0⟩ : S44) [.int .i64 2, .string (⟨#[]⟩ : ByteArray), .int .i64 0] from (k44_mkM _ _ _ (⟨2, (⟨#[]⟩ : ByteArray), 0⟩ : S44) )) (Reps.c3 (show Kd.M k44 _ _ _ (⟨t177, t178, t179⟩ : S44) [.int .i64 t177, .string t178, .int .i64 t179] from (k44_mkM _ _ _ (⟨t177, t178, t179⟩ : S44) )) (Reps.c3 (show Kd.M k44 _ _ _ (⟨2, (⟨#[]⟩ : ByteArray), 0⟩ : S44) [.int .i64 2, .string (⟨#[]⟩ : ByteArray), .int .i64 0] from (k44_mkM _ _ _ (⟨2, (⟨#[]⟩ : ByteArray), 0⟩ : S44) )) (Reps.c3 (show Kd.M k44 _ _ _ (⟨t180, t181, t182⟩ : S44) [.int .i64 t180, .string t181, .int .i64 t182] from (k44_mkM _ _ _ (⟨t180, t181, t182⟩ : S44) )) (Reps.c3 (show Kd.M k44 _ _ _ (⟨3, (⟨#[]⟩ : ByteArray), 0⟩ : S44) [.int .i64 3, .string (⟨#[]⟩ : ByteArray), .int .i64 0] from (k44_mkM _ _ _ (⟨3, (⟨#[]⟩ : ByteArray), 0⟩ : S44) )) (Reps.c3 (show Kd.M k44 _ _ _ (⟨3, (⟨#[]⟩ : ByteArray), 0⟩ : S44) [.int .i64 3, .string (⟨#[]⟩ : ByteArray), .int .i64 0] from (k44_mkM _ _ _ (⟨3, (⟨#[]⟩ : ByteArray), 0⟩ : S44) )) (Reps.c3 (show Kd.M k44 _ _ _ (⟨t183, t184, t185⟩ : S44) [.int .i64 t183, .string t184, .int .i64 t185] from (k44_mkM _ _ _ (⟨t183, t184, t185⟩ : S44) )) (Reps.none _ _))))))))))))))
                intro v187 w40 ho41 hb hg_ hnew_
                clear hg_ hnew_
                (first | rw [← Ny186.out] at ho41 | (simp only [Int.reduceToNat] at ho41; rw [← Ny186.out] at ho41))
                have n0_ := a_ (Kd.R_lower (Kd.R_newB (Kd.R_newB ho41 (g := gb166) (o := .cells #[.int .i64 2, .string (⟨#[]⟩ : ByteArray), .int .i64 0] 44 (0, 0)) (kv_ BK166.out)) (g := gb167) (o := .cells #[.int .i64 3, .string (⟨#[]⟩ : ByteArray), .int .i64 0] 44 (0, 0)) (kv_ BK167.out)) (below_size (bS3_ HB.out GE166.out GE167.out GE194.out)))
                have n1_ := a_ (kb_ BK166.out hb)
                have n2_ := a_ (kb_ BK167.out hb)
                have n3_ := a_ (kb_ BK194.out hb)
                have n4_ := a_ (below_step (bS3_ HB.out GE166.out GE167.out GE194.out) hb)
                clear BK166
                clear BK167
                clear BK194
                clear HB
                have HO188 := n0_
                have BK166 := n1_
                have BK167 := n2_
                have BK194 := n3_
                have HB := n4_
                clear n0_ n1_ n2_ n3_ n4_
                clear hb ho41
                refine hK.out _ _ ⟨(blk_cell BK166.out 0).trans rfl, (blk_cell BK166.out 1).trans rfl, (blk_cell BK166.out 2).trans rfl, (blk_cell BK167.out 0).trans rfl, (blk_cell BK167.out 1).trans rfl, (blk_cell BK167.out 2).trans rfl⟩ (fun hHeld => ?_)
                clear hK K
                refine norm_ (a' := ?_) ?_ ?_
                rotate_left
                ·show Act.put _ (some 26) _ = _
                 simp only [Act.put, List.setIfInBounds_toArray, List.set_cons_zero, List.set_cons_succ, i64_w, i32_w]
                 rfl
                exact norm_ (by first | (simp only [putAll, Act.put, List.setIfInBounds_toArray, List.set_cons_zero, List.set_cons_succ]; done) | (simp only [putAll, Act.put, List.setIfInBounds_toArray, List.set_cons_zero, List.set_cons_succ]; rfl)) (hJ0_2_3_6_8_11_12_17 (_, gb194) _ ⟨hHeld, (by (with_reducible repeat (first | apply Kd.R_alloc | apply Kd.R_drewN | apply Kd.R_drew)); exact Kd.R_mono HO188.out (fun _ hk => ⟨hk.1.2, hk.2⟩)), (kv_ BK166.out), (kv_ BK167.out), (kv_ BK194.out), GW194.out, GE194.out, NB166_194.out, NB194_166.out, NB167_194.out, NB194_167.out, (bS3_ HB.out GE166.out GE167.out GE194.out)⟩)
              ·skip
               rintro v187 w40 ⟨hS_, h0_, h1_, h2_, h3_⟩
               have n0_ : Aside0 (Kd.R k44 44 w40 w.heap.size (fun k_ => k_ ≠ gb166 ∧ k_ ≠ gb167) v187 y186) := ⟨h0_⟩
               have n1_ : Aside0 (w40.heap[gb166]? = some (.cells #[.int .i64 2, .string (⟨#[]⟩ : ByteArray), .int .i64 0] 44 (0, 0))) := ⟨h1_⟩
               have n2_ : Aside0 (w40.heap[gb167]? = some (.cells #[.int .i64 3, .string (⟨#[]⟩ : ByteArray), .int .i64 0] 44 (0, 0))) := ⟨h2_⟩
               have n3_ : Aside0 (Below w.heap.size w w40) := ⟨h3_⟩
               clear BK166
               clear BK167
               clear HB
               clear h0_ h1_ h2_ h3_
               have HO188 := n0_
               have BK166 := n1_
               have BK167 := n2_
               have HB := n3_
               clear n0_ n1_ n2_ n3_
               have hHeld : w40.cell? ⟨gb166, 0, none⟩ = some (.int .i64 2) ∧ w40.cell? ⟨gb166, 1, none⟩ = some (.string (⟨#[]⟩ : ByteArray)) ∧ w40.cell? ⟨gb166, 2, none⟩ = some (.int .i64 0) ∧ w40.cell? ⟨gb167, 0, none⟩ = some (.int .i64 3) ∧ w40.cell? ⟨gb167, 1, none⟩ = some (.string (⟨#[]⟩ : ByteArray)) ∧ w40.cell? ⟨gb167, 2, none⟩ = some (.int .i64 0) := hS_
               obtain ⟨Ao41, co41, eo41⟩ := Kd.R_slice HO188.out
               (first | subst eo41 | (injection eo41 with f1_ f2_ f3_; have f4_ := f1_.symm; have f5_ := f3_.symm; clear f1_ f2_ f3_; subst f4_; subst f5_))
               refine norm_ (a' := ?_) ?_ ?_
               rotate_left
               ·simp only [putAll, Act.put, List.setIfInBounds_toArray, List.set_cons_zero, List.set_cons_succ]
                rfl
               refine two_ (i := 13) (j := 17) (Ni := some 27) (Nj := some 4) #[true, true, true, true, true, true, true, true, true, true, true, true, true, true, false, false, false, false, false, false] #[true, true, true, true, true, true, true, true, true, true, true, true, true, false, false, false, false, true, false, false] rfl rfl rfl rfl (two_of HT_.out (by kernel_rfl)) (by decide) (by decide) (fun K hK => ?_) (fun K hK => ?_)
               ·skip
                refine goes_ Try.func7 (by kernel_rfl) rfl #[.slice Ao41 y186.length co41] (by rfl) rfl rfl (by (try simp only [List.map_toArray, List.map_cons, List.map_nil]); first | done | rfl | (simp only [List.length_drop, List.length_take]; rfl) | (simp only [*]; first | done | rfl)) ?_
                with_reducible refine (tree_Parse.calls k _ _ y186 t189 t192 t193 _ ?side1 ?side2 A7.out).mono ?_
                (case side1 => exact cr_ (Kd.R_reads' HO188.out).2.2)
                (case side2 => exact (Kd.R_reads' HO188.out).2.1)
                rintro e w42 ⟨v190, rfl, ho0, hb⟩
                refine ⟨_, rfl, ?_⟩
                have n0_ := a_ (Kd.R_below (rv_ HO188.out) hb)
                have n1_ := a_ (Kd.R_lower ho0 (below_size (bS2_ HB.out GE166.out GE167.out)))
                have n2_ := a_ (kb_ BK166.out hb)
                have n3_ := a_ (kb_ BK167.out hb)
                have n4_ := a_ (below_step (bS2_ HB.out GE166.out GE167.out) hb)
                clear HO188
                clear BK166
                clear BK167
                clear HB
                have HO188 := n0_
                have HO191 := n1_
                have BK166 := n2_
                have BK167 := n3_
                have HB := n4_
                clear n0_ n1_ n2_ n3_ n4_
                (try clear hb)
                (try clear hb2)
                (try clear hk)
                (try clear hi)
                (try clear ho0)
                refine hK.out _ _ ⟨(blk_cell BK166.out 0).trans rfl, (blk_cell BK166.out 1).trans rfl, (blk_cell BK166.out 2).trans rfl, (blk_cell BK167.out 0).trans rfl, (blk_cell BK167.out 1).trans rfl, (blk_cell BK167.out 2).trans rfl⟩ (fun hHeld => ?_)
                clear hK K
                refine norm_ (a' := ?_) ?_ ?_
                rotate_left
                ·show Act.put _ (some 27) _ = _
                 simp only [Act.put, List.setIfInBounds_toArray, List.set_cons_zero, List.set_cons_succ, i64_w, i32_w]
                 rfl
                refine pure_ (i := 14) (N := some 13) #[true, true, true, true, true, true, true, true, true, true, true, true, true, true, true, false, false, false, false, false] rfl rfl (any_of HT_.out (by kernel_rfl)) (fun _ _ _ h => h) (Or.inl ⟨by rfl, fun w' => by go_simp; with_reducible rfl⟩) (by simp only [Act.put, List.setIfInBounds_toArray, List.set_cons_zero, List.set_cons_succ, i64_w, i32_w]; rfl) ?_
                refine pure_ (i := 15) (N := some 28) #[true, true, true, true, true, true, true, true, true, true, true, true, true, true, true, true, false, false, false, false] rfl rfl (any_of HT_.out (by kernel_rfl)) (fun _ _ _ h => h) (Or.inl ⟨by rfl, fun w' => by go_simp; with_reducible rfl⟩) (by simp only [Act.put, List.setIfInBounds_toArray, List.set_cons_zero, List.set_cons_succ, i64_w, i32_w]; rfl) ?_
                refine pure_ (i := 16) (N := some 29) #[true, true, true, true, true, true, true, true, true, true, true, true, true, true, true, true, true, false, false, false] rfl rfl (any_of HT_.out (by kernel_rfl)) (fun _ _ _ h => h) (Or.inl ⟨by rfl, fun w' => by go_simp; with_reducible rfl⟩) (by simp only [Act.put, List.setIfInBounds_toArray, List.set_cons_zero, List.set_cons_succ, i64_w, i32_w]; rfl) ?_
                exact norm_ (by first | (simp only [putAll, Act.put, List.setIfInBounds_toArray, List.set_cons_zero, List.set_cons_succ]; done) | (simp only [putAll, Act.put, List.setIfInBounds_toArray, List.set_cons_zero, List.set_cons_succ]; rfl)) (hJ0_2_3_6_8_11_12_13 (.slice Ao41 y186.length co41, _) _ ⟨hHeld, (rv_ HO188.out), (rv_ HO191.out), (kv_ BK166.out), (kv_ BK167.out), (bS2_ HB.out GE166.out GE167.out)⟩)
               ·skip
                refine box_step ?hg (N := 4) ?hd (cs := #[.int .i64 0, .int .i64 0]) (t := 26) ?hr ?_; (case hd => rfl); (case hg => rfl); (case hr => first | (go_simp; done) | (go_simp; rfl))
                intro gb194 hg w41 hbox hb
                have n0_ := a_ (Kd.R_below (rv_ HO188.out) hb)
                have n1_ := a_ (kb_ BK166.out hb)
                have n2_ := a_ (kb_ BK167.out hb)
                have n3_ := a_ (below_step (bS2_ HB.out GE166.out GE167.out) hb)
                have n4_ := a_ (hbox)
                have n5_ := a_ ((by rw [hg]; exact (below_size (bS2_ HB.out GE166.out GE167.out)) : w.heap.size ≤ gb194))
                have n6_ := a_ ((by rw [hg]; exact (below_size (bS2_ HB.out GE166.out GE167.out)) : w.heap.size ≤ gb194))
                have n7_ := a_ ((by rw [hg]; exact Nat.ne_of_lt (blk_lt (kv_ BK166.out)) : gb166 ≠ gb194))
                have n8_ := a_ ((by rw [hg]; exact Nat.ne_of_gt (blk_lt (kv_ BK166.out)) : gb194 ≠ gb166))
                have n9_ := a_ ((by rw [hg]; exact Nat.ne_of_lt (blk_lt (kv_ BK167.out)) : gb167 ≠ gb194))
                have n10_ := a_ ((by rw [hg]; exact Nat.ne_of_gt (blk_lt (kv_ BK167.out)) : gb194 ≠ gb167))
                clear HO188
                clear BK166
                clear BK167
                clear HB
                have HO188 := n0_
                have BK166 := n1_
                have BK167 := n2_
                have HB := n3_
                have BK194 := n4_
                have GW194 := n5_
                have GE194 := n6_
                have NB166_194 := n7_
                have NB194_166 := n8_
                have NB167_194 := n9_
                have NB194_167 := n10_
                clear n0_ n1_ n2_ n3_ n4_ n5_ n6_ n7_ n8_ n9_ n10_
                clear hb hbox hg
                refine hK.out _ _ ⟨(blk_cell BK166.out 0).trans rfl, (blk_cell BK166.out 1).trans rfl, (blk_cell BK166.out 2).trans rfl, (blk_cell BK167.out 0).trans rfl, (blk_cell BK167.out 1).trans rfl, (blk_cell BK167.out 2).trans rfl⟩ (fun hHeld => ?_)
                clear hK K
                refine norm_ (a' := ?_) ?_ ?_
                rotate_left
                ·show Act.put _ (some 4) _ = _
                 simp only [Act.put, List.setIfInBounds_toArray, List.set_cons_zero, List.set_cons_succ, i64_w, i32_w]
                 rfl
                exact norm_ (by first | (simp only [putAll, Act.put, List.setIfInBounds_toArray, List.set_cons_zero, List.set_cons_succ]; done) | (simp only [putAll, Act.put, List.setIfInBounds_toArray, List.set_cons_zero, List.set_cons_succ]; rfl)) (hJ0_2_3_6_8_11_12_17 (_, gb194) _ ⟨hHeld, (rv_ HO188.out), (kv_ BK166.out), (kv_ BK167.out), (kv_ BK194.out), GW194.out, GE194.out, NB166_194.out, NB194_166.out, NB167_194.out, NB194_167.out, (bS3_ HB.out GE166.out GE167.out GE194.out)⟩)
             ·skip
              rintro ⟨v187, gb194⟩ w41 ⟨hS_, h0_, h1_, h2_, h3_, h4_, h5_, h6_, h7_, h8_, h9_, h10_⟩
              have n0_ : Aside0 (Kd.R k44 44 w41 w.heap.size (fun k_ => k_ ≠ gb166 ∧ k_ ≠ gb167) v187 y186) := ⟨h0_⟩
              have n1_ : Aside0 (w41.heap[gb166]? = some (.cells #[.int .i64 2, .string (⟨#[]⟩ : ByteArray), .int .i64 0] 44 (0, 0))) := ⟨h1_⟩
              have n2_ : Aside0 (w41.heap[gb167]? = some (.cells #[.int .i64 3, .string (⟨#[]⟩ : ByteArray), .int .i64 0] 44 (0, 0))) := ⟨h2_⟩
              have n3_ : Aside0 (w41.heap[gb194]? = some (.cells #[.int .i64 0, .int .i64 0] 26 (0, 0))) := ⟨h3_⟩
              have n4_ : Aside0 (w.heap.size ≤ gb194) := ⟨h4_⟩
              have n5_ : Aside0 (w.heap.size ≤ gb194) := ⟨h5_⟩
              have n6_ : Aside0 (gb166 ≠ gb194) := ⟨h6_⟩
              have n7_ : Aside0 (gb194 ≠ gb166) := ⟨h7_⟩
              have n8_ : Aside0 (gb167 ≠ gb194) := ⟨h8_⟩
              have n9_ : Aside0 (gb194 ≠ gb167) := ⟨h9_⟩
              have n10_ : Aside0 (Below w.heap.size w w41) := ⟨h10_⟩
              clear BK166
              clear BK167
              clear HB
              clear h0_ h1_ h2_ h3_ h4_ h5_ h6_ h7_ h8_ h9_ h10_
              have HO188 := n0_
              have BK166 := n1_
              have BK167 := n2_
              have BK194 := n3_
              have GW194 := n4_
              have GE194 := n5_
              have NB166_194 := n6_
              have NB194_166 := n7_
              have NB167_194 := n8_
              have NB194_167 := n9_
              have HB := n10_
              clear n0_ n1_ n2_ n3_ n4_ n5_ n6_ n7_ n8_ n9_ n10_
              have hHeld : w41.cell? ⟨gb166, 0, none⟩ = some (.int .i64 2) ∧ w41.cell? ⟨gb166, 1, none⟩ = some (.string (⟨#[]⟩ : ByteArray)) ∧ w41.cell? ⟨gb166, 2, none⟩ = some (.int .i64 0) ∧ w41.cell? ⟨gb167, 0, none⟩ = some (.int .i64 3) ∧ w41.cell? ⟨gb167, 1, none⟩ = some (.string (⟨#[]⟩ : ByteArray)) ∧ w41.cell? ⟨gb167, 2, none⟩ = some (.int .i64 0) := hS_
              obtain ⟨Ao42, co42, eo42⟩ := Kd.R_slice HO188.out
              (first | subst eo42 | (injection eo42 with f1_ f2_ f3_; have f4_ := f1_.symm; have f5_ := f3_.symm; clear f1_ f2_ f3_; subst f4_; subst f5_))
              refine norm_ (a' := ?_) ?_ ?_
              rotate_left
              ·simp only [putAll, Act.put, List.setIfInBounds_toArray, List.set_cons_zero, List.set_cons_succ]
               rfl
              refine one_ (i := 13) (N := some 27) #[true, true, true, true, true, true, true, true, true, true, true, true, true, true, false, false, false, true, false, false] rfl rfl (one_of HT_.out (by kernel_rfl)) (by decide) (fun K hK => ?_)
              refine goes_ Try.func7 (by kernel_rfl) rfl #[.slice Ao42 y186.length co42] (by rfl) rfl rfl (by (try simp only [List.map_toArray, List.map_cons, List.map_nil]); first | done | rfl | (simp only [List.length_drop, List.length_take]; rfl) | (simp only [*]; first | done | rfl)) ?_
              with_reducible refine (tree_Parse.calls k _ _ y186 t189 t192 t193 _ ?side1 ?side2 A7.out).mono ?_
              (case side1 => exact cr_ (Kd.R_reads' HO188.out).2.2)
              (case side2 => exact (Kd.R_reads' HO188.out).2.1)
              rintro e w43 ⟨v190, rfl, ho0, hb⟩
              refine ⟨_, rfl, ?_⟩
              have n0_ := a_ (Kd.R_below (rv_ HO188.out) hb)
              have n1_ := a_ (Kd.R_lower ho0 (below_size (bS3_ HB.out GE166.out GE167.out GE194.out)))
              have n2_ := a_ (kb_ BK166.out hb)
              have n3_ := a_ (kb_ BK167.out hb)
              have n4_ := a_ (kb_ BK194.out hb)
              have n5_ := a_ (below_step (bS3_ HB.out GE166.out GE167.out GE194.out) hb)
              clear HO188
              clear BK166
              clear BK167
              clear BK194
              clear HB
              have HO188 := n0_
              have HO191 := n1_
              have BK166 := n2_
              have BK167 := n3_
              have BK194 := n4_
              have HB := n5_
              clear n0_ n1_ n2_ n3_ n4_ n5_
              (try clear hb)
              (try clear hb2)
              (try clear hk)
              (try clear hi)
              (try clear ho0)
              refine hK.out _ _ ⟨(blk_cell BK166.out 0).trans rfl, (blk_cell BK166.out 1).trans rfl, (blk_cell BK166.out 2).trans rfl, (blk_cell BK167.out 0).trans rfl, (blk_cell BK167.out 1).trans rfl, (blk_cell BK167.out 2).trans rfl⟩ (fun hHeld => ?_)
              clear hK K
              refine norm_ (a' := ?_) ?_ ?_
              rotate_left
              ·show Act.put _ (some 27) _ = _
               simp only [Act.put, List.setIfInBounds_toArray, List.set_cons_zero, List.set_cons_succ, i64_w, i32_w]
               rfl
              refine pure_ (i := 14) (N := some 13) #[true, true, true, true, true, true, true, true, true, true, true, true, true, true, true, false, false, true, false, false] rfl rfl (any_of HT_.out (by kernel_rfl)) (fun _ _ _ h => h) (Or.inl ⟨by rfl, fun w' => by go_simp; with_reducible rfl⟩) (by simp only [Act.put, List.setIfInBounds_toArray, List.set_cons_zero, List.set_cons_succ, i64_w, i32_w]; rfl) ?_
              refine pure_ (i := 15) (N := some 28) #[true, true, true, true, true, true, true, true, true, true, true, true, true, true, true, true, false, true, false, false] rfl rfl (any_of HT_.out (by kernel_rfl)) (fun _ _ _ h => h) (Or.inl ⟨by rfl, fun w' => by go_simp; with_reducible rfl⟩) (by simp only [Act.put, List.setIfInBounds_toArray, List.set_cons_zero, List.set_cons_succ, i64_w, i32_w]; rfl) ?_
              refine pure_ (i := 16) (N := some 29) #[true, true, true, true, true, true, true, true, true, true, true, true, true, true, true, true, true, true, false, false] rfl rfl (any_of HT_.out (by kernel_rfl)) (fun _ _ _ h => h) (Or.inl ⟨by rfl, fun w' => by go_simp; with_reducible rfl⟩) (by simp only [Act.put, List.setIfInBounds_toArray, List.set_cons_zero, List.set_cons_succ, i64_w, i32_w]; rfl) ?_
              exact norm_ (by first | (simp only [putAll, Act.put, List.setIfInBounds_toArray, List.set_cons_zero, List.set_cons_succ]; done) | (simp only [putAll, Act.put, List.setIfInBounds_toArray, List.set_cons_zero, List.set_cons_succ]; rfl)) (hJ0_2_3_6_8_11_12_13_17 (.slice Ao42 y186.length co42, _, gb194) _ ⟨hHeld, (rv_ HO188.out), (rv_ HO191.out), (kv_ BK166.out), (kv_ BK167.out), (kv_ BK194.out), GW194.out, GE194.out, NB166_194.out, NB194_166.out, NB167_194.out, NB194_167.out, (bS3_ HB.out GE166.out GE167.out GE194.out)⟩)
            ·skip
             rintro ⟨v187, v190⟩ w42 ⟨hS_, h0_, h1_, h2_, h3_, h4_⟩
             have n0_ : Aside0 (Kd.R k44 44 w42 w.heap.size (fun k_ => k_ ≠ gb166 ∧ k_ ≠ gb167) v187 y186) := ⟨h0_⟩
             have n1_ : Aside0 (Kd.R k38 38 w42 w.heap.size (fun _ => True) v190 t189) := ⟨h1_⟩
             have n2_ : Aside0 (w42.heap[gb166]? = some (.cells #[.int .i64 2, .string (⟨#[]⟩ : ByteArray), .int .i64 0] 44 (0, 0))) := ⟨h2_⟩
             have n3_ : Aside0 (w42.heap[gb167]? = some (.cells #[.int .i64 3, .string (⟨#[]⟩ : ByteArray), .int .i64 0] 44 (0, 0))) := ⟨h3_⟩
             have n4_ : Aside0 (Below w.heap.size w w42) := ⟨h4_⟩
             clear BK166
             clear BK167
             clear HB
             clear h0_ h1_ h2_ h3_ h4_
             have HO188 := n0_
             have HO191 := n1_
             have BK166 := n2_
             have BK167 := n3_
             have HB := n4_
             clear n0_ n1_ n2_ n3_ n4_
             have hHeld : w42.cell? ⟨gb166, 0, none⟩ = some (.int .i64 2) ∧ w42.cell? ⟨gb166, 1, none⟩ = some (.string (⟨#[]⟩ : ByteArray)) ∧ w42.cell? ⟨gb166, 2, none⟩ = some (.int .i64 0) ∧ w42.cell? ⟨gb167, 0, none⟩ = some (.int .i64 3) ∧ w42.cell? ⟨gb167, 1, none⟩ = some (.string (⟨#[]⟩ : ByteArray)) ∧ w42.cell? ⟨gb167, 2, none⟩ = some (.int .i64 0) := hS_
             refine norm_ (a' := ?_) ?_ ?_
             rotate_left
             ·simp only [putAll, Act.put, List.setIfInBounds_toArray, List.set_cons_zero, List.set_cons_succ]
              rfl
             refine one_ (i := 17) (N := some 4) #[true, true, true, true, true, true, true, true, true, true, true, true, true, true, true, true, true, true, false, false] rfl rfl (one_of HT_.out (by kernel_rfl)) (by decide) (fun K hK => ?_)
             refine box_step ?hg (N := 4) ?hd (cs := #[.int .i64 0, .int .i64 0]) (t := 26) ?hr ?_; (case hd => rfl); (case hg => rfl); (case hr => first | (go_simp; done) | (go_simp; rfl))
             intro gb194 hg w43 hbox hb
             have n0_ := a_ (Kd.R_below (rv_ HO188.out) hb)
             have n1_ := a_ (Kd.R_below (rv_ HO191.out) hb)
             have n2_ := a_ (kb_ BK166.out hb)
             have n3_ := a_ (kb_ BK167.out hb)
             have n4_ := a_ (below_step (bS2_ HB.out GE166.out GE167.out) hb)
             have n5_ := a_ (hbox)
             have n6_ := a_ ((by rw [hg]; exact (below_size (bS2_ HB.out GE166.out GE167.out)) : w.heap.size ≤ gb194))
             have n7_ := a_ ((by rw [hg]; exact (below_size (bS2_ HB.out GE166.out GE167.out)) : w.heap.size ≤ gb194))
             have n8_ := a_ ((by rw [hg]; exact Nat.ne_of_lt (blk_lt (kv_ BK166.out)) : gb166 ≠ gb194))
             have n9_ := a_ ((by rw [hg]; exact Nat.ne_of_gt (blk_lt (kv_ BK166.out)) : gb194 ≠ gb166))
             have n10_ := a_ ((by rw [hg]; exact Nat.ne_of_lt (blk_lt (kv_ BK167.out)) : gb167 ≠ gb194))
             have n11_ := a_ ((by rw [hg]; exact Nat.ne_of_gt (blk_lt (kv_ BK167.out)) : gb194 ≠ gb167))
             clear HO188
             clear HO191
             clear BK166
             clear BK167
             clear HB
             have HO188 := n0_
             have HO191 := n1_
             have BK166 := n2_
             have BK167 := n3_
             have HB := n4_
             have BK194 := n5_
             have GW194 := n6_
             have GE194 := n7_
             have NB166_194 := n8_
             have NB194_166 := n9_
             have NB167_194 := n10_
             have NB194_167 := n11_
             clear n0_ n1_ n2_ n3_ n4_ n5_ n6_ n7_ n8_ n9_ n10_ n11_
             clear hb hbox hg
             refine hK.out _ _ ⟨(blk_cell BK166.out 0).trans rfl, (blk_cell BK166.out 1).trans rfl, (blk_cell BK166.out 2).trans rfl, (blk_cell BK167.out 0).trans rfl, (blk_cell BK167.out 1).trans rfl, (blk_cell BK167.out 2).trans rfl⟩ (fun hHeld => ?_)
             clear hK K
             refine norm_ (a' := ?_) ?_ ?_
             rotate_left
             ·show Act.put _ (some 4) _ = _
              simp only [Act.put, List.setIfInBounds_toArray, List.set_cons_zero, List.set_cons_succ, i64_w, i32_w]
              rfl
             exact norm_ (by first | (simp only [putAll, Act.put, List.setIfInBounds_toArray, List.set_cons_zero, List.set_cons_succ]; done) | (simp only [putAll, Act.put, List.setIfInBounds_toArray, List.set_cons_zero, List.set_cons_succ]; rfl)) (hJ0_2_3_6_8_11_12_13_17 (_, _, gb194) _ ⟨hHeld, (rv_ HO188.out), (rv_ HO191.out), (kv_ BK166.out), (kv_ BK167.out), (kv_ BK194.out), GW194.out, GE194.out, NB166_194.out, NB194_166.out, NB167_194.out, NB194_167.out, (bS3_ HB.out GE166.out GE167.out GE194.out)⟩)
           rintro ⟨v187, v190, gb194⟩ w43 ⟨hS_, h0_, h1_, h2_, h3_, h4_, h5_, h6_, h7_, h8_, h9_, h10_, h11_⟩
           have n0_ : Aside0 (Kd.R k44 44 w43 w.heap.size (fun k_ => k_ ≠ gb166 ∧ k_ ≠ gb167) v187 y186) := ⟨h0_⟩
           have n1_ : Aside0 (Kd.R k38 38 w43 w.heap.size (fun _ => True) v190 t189) := ⟨h1_⟩
           have n2_ : Aside0 (w43.heap[gb166]? = some (.cells #[.int .i64 2, .string (⟨#[]⟩ : ByteArray), .int .i64 0] 44 (0, 0))) := ⟨h2_⟩
           have n3_ : Aside0 (w43.heap[gb167]? = some (.cells #[.int .i64 3, .string (⟨#[]⟩ : ByteArray), .int .i64 0] 44 (0, 0))) := ⟨h3_⟩
           have n4_ : Aside0 (w43.heap[gb194]? = some (.cells #[.int .i64 0, .int .i64 0] 26 (0, 0))) := ⟨h4_⟩
           have n5_ : Aside0 (w.heap.size ≤ gb194) := ⟨h5_⟩
           have n6_ : Aside0 (w.heap.size ≤ gb194) := ⟨h6_⟩
           have n7_ : Aside0 (gb166 ≠ gb194) := ⟨h7_⟩
           have n8_ : Aside0 (gb194 ≠ gb166) := ⟨h8_⟩
           have n9_ : Aside0 (gb167 ≠ gb194) := ⟨h9_⟩
           have n10_ : Aside0 (gb194 ≠ gb167) := ⟨h10_⟩
           have n11_ : Aside0 (Below w.heap.size w w43) := ⟨h11_⟩
           clear BK166
           clear BK167
           clear HB
           clear h0_ h1_ h2_ h3_ h4_ h5_ h6_ h7_ h8_ h9_ h10_ h11_
           have HO188 := n0_
           have HO191 := n1_
           have BK166 := n2_
           have BK167 := n3_
           have BK194 := n4_
           have GW194 := n5_
           have GE194 := n6_
           have NB166_194 := n7_
           have NB194_166 := n8_
           have NB167_194 := n9_
           have NB194_167 := n10_
           have HB := n11_
           clear n0_ n1_ n2_ n3_ n4_ n5_ n6_ n7_ n8_ n9_ n10_ n11_
           have hHeld : w43.cell? ⟨gb166, 0, none⟩ = some (.int .i64 2) ∧ w43.cell? ⟨gb166, 1, none⟩ = some (.string (⟨#[]⟩ : ByteArray)) ∧ w43.cell? ⟨gb166, 2, none⟩ = some (.int .i64 0) ∧ w43.cell? ⟨gb167, 0, none⟩ = some (.int .i64 3) ∧ w43.cell? ⟨gb167, 1, none⟩ = some (.string (⟨#[]⟩ : ByteArray)) ∧ w43.cell? ⟨gb167, 2, none⟩ = some (.int .i64 0) := hS_
           refine norm_ (a' := ?_) ?_ ?_
           rotate_left
           ·simp only [putAll, Act.put, List.setIfInBounds_toArray, List.set_cons_zero, List.set_cons_succ]
            rfl
           refine pure_ (i := 18) (N := some 3) #[true, true, true, true, true, true, true, true, true, true, true, true, true, true, true, true, true, true, true, false] rfl rfl (any_of HT_.out (by kernel_rfl)) (fun _ _ _ h => h) (Or.inl ⟨by rfl, fun w' => by go_simp; with_reducible rfl⟩) (by simp only [Act.put, List.setIfInBounds_toArray, List.set_cons_zero, List.set_cons_succ, i64_w, i32_w]; rfl) ?_
           refine one_ (i := 19) (N := none) #[true, true, true, true, true, true, true, true, true, true, true, true, true, true, true, true, true, true, true, true] rfl rfl (one_of HT_.out (by kernel_rfl)) (by decide) (fun K hK => ?_)
           have hs44 : w43.cell? ⟨gb194, 0, none⟩ = some (.int .i64 0) := (blk_cell BK194.out 0).trans rfl
           have hfs44 := blk_frozen BK194.out 0
           have hns44_0 := NB166_194.out
           have hns44_1 := NB167_194.out
           have hms44_0 := NB194_166.out
           have hms44_1 := NB194_167.out
           have hs45 : w43.cell? ⟨gb194, 1, none⟩ = some (.int .i64 0) := (blk_cell BK194.out 1).trans rfl
           have hfs45 := blk_frozen BK194.out 1
           have hns45_0 := NB166_194.out
           have hns45_1 := NB167_194.out
           have hms45_0 := NB194_166.out
           have hms45_1 := NB194_167.out
           refine skip_ (w1 := ?_) (by rfl) rfl ?_ ?_
           rotate_left
           ·go_simp
            rfl
           refine hK.out _ _ ⟨(cc1_ NB166_194.out hHeld.1), (cc1_ NB166_194.out hHeld.2.1), (cc1_ NB166_194.out hHeld.2.2.1), (cc1_ NB167_194.out hHeld.2.2.2.1), (cc1_ NB167_194.out hHeld.2.2.2.2.1), (cc1_ NB167_194.out hHeld.2.2.2.2.2)⟩ (fun hHeld => ?_)
           clear hK K
           refine done_ (done_of HT_.out (by kernel_rfl)) ?_
           try go_wp2_with (first | ((with_reducible refine gate_dst (N := 32) rfl ?_); (try (refine gate_guard (by rfl) ?_; dsimp only)); refine Kd.R_lit k44 _ 44 ?hg (N := 32) ?hd (xs := ([(⟨2, (⟨#[]⟩ : ByteArray), 3⟩ : S44)] : List (S44))) (inner := [.int .i64 2, .string (⟨#[]⟩ : ByteArray), .int .i64 3]) (ok := fun _ => True) (okp := fun _ => True) ?hr ?hp (fun _ hk => hk) trivial (Below.refl _ _) (Nat.le_refl _) (by simp) ?_; (case hd => rfl); (case hg => rfl); (case hr => first | (go_simp; done) | (go_simp; rfl)); (case hp => exact (Reps.c3 (show Kd.M k44 _ _ _ (⟨2, (⟨#[]⟩ : ByteArray), 3⟩ : S44) [.int .i64 2, .string (⟨#[]⟩ : ByteArray), .int .i64 3] from (k44_mkM _ _ _ (⟨2, (⟨#[]⟩ : ByteArray), 3⟩ : S44) )) (Reps.none _ _))); intro v196 w46 ho47 hb hg_ hnew_; clear hg_ hnew_; (first | rw [← Ny195.out] at ho47 | (simp only [Int.reduceToNat] at ho47; rw [← Ny195.out] at ho47)); have n0_ := a_ (Kd.R_elder' (by (with_reducible repeat (first | apply Kd.R_alloc | apply Kd.R_drewN | apply Kd.R_drew)); exact (Kd.R_mono (Kd.R_far (p := ⟨gb194, 1, none⟩) (Kd.R_far (p := ⟨gb194, 0, none⟩) (Kd.R_types HO188.out BK194.out (by decide)) (fun _ hk => hk.2) (.int .i64 t192)) (fun _ hk => hk.2) (.int .i64 t193)) (fun _ h_ => h_.1))) (Kd.R_base ho47) hb); have n1_ := a_ (Kd.R_below (by (with_reducible repeat (first | apply Kd.R_alloc | apply Kd.R_drewN | apply Kd.R_drew)); exact (Kd.R_mono (Kd.R_far (p := ⟨gb194, 1, none⟩) (Kd.R_far (p := ⟨gb194, 0, none⟩) (Kd.R_types HO191.out BK194.out (by decide)) (fun _ hk => hk.2) (.int .i64 t192)) (fun _ hk => hk.2) (.int .i64 t193)) (fun _ h_ => h_.1))) hb); have n2_ := a_ (Kd.R_lower (Kd.R_newB (Kd.R_newB (Kd.R_new' ho47 (Kd.R_lt (by (with_reducible repeat (first | apply Kd.R_alloc | apply Kd.R_drewN | apply Kd.R_drew)); exact (Kd.R_mono (Kd.R_far (p := ⟨gb194, 1, none⟩) (Kd.R_far (p := ⟨gb194, 0, none⟩) (Kd.R_types HO188.out BK194.out (by decide)) (fun _ hk => hk.2) (.int .i64 t192)) (fun _ hk => hk.2) (.int .i64 t193)) (fun _ h_ => h_.1))))) (g := gb166) (o := .cells #[.int .i64 2, .string (⟨#[]⟩ : ByteArray), .int .i64 0] 44 (0, 0)) (kf1_ BK166.out NB166_194.out)) (g := gb167) (o := .cells #[.int .i64 3, .string (⟨#[]⟩ : ByteArray), .int .i64 0] 44 (0, 0)) (kf1_ BK167.out NB167_194.out)) (below_size (bS3_ HB.out GE166.out GE167.out GE194.out))); have n3_ := a_ (blk_below (kf1_ BK166.out NB166_194.out) hb); have n4_ := a_ (blk_below (kf1_ BK167.out NB167_194.out) hb); have n5_ := a_ (blk_below (g := gb194) (o := .cells #[.int .i64 t192, .int .i64 t193] 26 (0, 0)) (kp0_ BK194.out) hb); have n6_ := a_ (below_step (bS3_ HB.out GE166.out GE167.out GE194.out) hb); clear HO188; clear HO191; clear BK166; clear BK167; clear BK194; clear HB; have HO188 := n0_; have HO191 := n1_; have HO197 := n2_; have BK166 := n3_; have BK167 := n4_; have BK194 := n5_; have HB := n6_; clear n0_ n1_ n2_ n3_ n4_ n5_ n6_; clear hb ho47; obtain ⟨Ao48, co48, eo48⟩ := Kd.R_slice HO197.out; subst eo48) | ((with_reducible refine gate_callee (f := 7) rfl ?_); refine gl_ (some 33) Try.func7 (by kernel_rfl) #[.slice Ao48 y195.length co48] ?_; (with_reducible refine (tree_Parse.calls k _ _ y195 t198 t201 t202 _ ?side1 ?side2 A8.out).mono ?_); (case side1 => exact cr_ (Kd.R_reads' HO197.out).2.2); (case side2 => exact (Kd.R_reads' HO197.out).2.1); rintro e w49 ⟨v199, rfl, ho0, hb⟩; refine ⟨_, rfl, ?_⟩; have n0_ := a_ (Kd.R_below (rv_ HO188.out) hb); have n1_ := a_ (Kd.R_elder' (rv_ HO191.out) (Kd.R_base ho0) hb); have n2_ := a_ (Kd.R_below (rv_ HO197.out) hb); have n3_ := a_ (Kd.R_lower (Kd.R_new' ho0 (Kd.R_lt (rv_ HO191.out))) (below_size (bS3_ HB.out GE166.out GE167.out GE194.out))); have n4_ := a_ (kb_ BK166.out hb); have n5_ := a_ (kb_ BK167.out hb); have n6_ := a_ (kb_ BK194.out hb); have n7_ := a_ (below_step (bS3_ HB.out GE166.out GE167.out GE194.out) hb); clear HO188; clear HO191; clear HO197; clear BK166; clear BK167; clear BK194; clear HB; have HO188 := n0_; have HO191 := n1_; have HO197 := n2_; have HO200 := n3_; have BK166 := n4_; have BK167 := n5_; have BK194 := n6_; have HB := n7_; clear n0_ n1_ n2_ n3_ n4_ n5_ n6_ n7_; (try clear hb); (try clear hb2); (try clear hk); (try clear hi); (try clear ho0)) | ((with_reducible refine gate_dst (N := 6) rfl ?_); (try (refine gate_guard (by rfl) ?_; dsimp only)); refine box_event ?hg (N := 6) ?hd (cs := #[.int .i64 0, .int .i64 0]) (t := 26) ?hr ?_; (case hd => rfl); (case hg => rfl); (case hr => first | (go_simp; done) | (go_simp; rfl)); intro gb203 hg w50 hbox hb; have n0_ := a_ (Kd.R_below (rv_ HO188.out) hb); have n1_ := a_ (Kd.R_below (rv_ HO191.out) hb); have n2_ := a_ (Kd.R_below (rv_ HO197.out) hb); have n3_ := a_ (Kd.R_below (rv_ HO200.out) hb); have n4_ := a_ (kb_ BK166.out hb); have n5_ := a_ (kb_ BK167.out hb); have n6_ := a_ (kb_ BK194.out hb); have n7_ := a_ (below_step (bS3_ HB.out GE166.out GE167.out GE194.out) hb); have n8_ := a_ (hbox); have n9_ := a_ ((by rw [hg]; exact (below_size (bS3_ HB.out GE166.out GE167.out GE194.out)) : w.heap.size ≤ gb203)); have n10_ := a_ ((by rw [hg]; exact (below_size (bS3_ HB.out GE166.out GE167.out GE194.out)) : w.heap.size ≤ gb203)); have n11_ := a_ ((by rw [hg]; exact Nat.ne_of_lt (blk_lt (kv_ BK166.out)) : gb166 ≠ gb203)); have n12_ := a_ ((by rw [hg]; exact Nat.ne_of_gt (blk_lt (kv_ BK166.out)) : gb203 ≠ gb166)); have n13_ := a_ ((by rw [hg]; exact Nat.ne_of_lt (blk_lt (kv_ BK167.out)) : gb167 ≠ gb203)); have n14_ := a_ ((by rw [hg]; exact Nat.ne_of_gt (blk_lt (kv_ BK167.out)) : gb203 ≠ gb167)); have n15_ := a_ ((by rw [hg]; exact Nat.ne_of_lt (blk_lt (kv_ BK194.out)) : gb194 ≠ gb203)); have n16_ := a_ ((by rw [hg]; exact Nat.ne_of_gt (blk_lt (kv_ BK194.out)) : gb203 ≠ gb194)); clear HO188; clear HO191; clear HO197; clear HO200; clear BK166; clear BK167; clear BK194; clear HB; have HO188 := n0_; have HO191 := n1_; have HO197 := n2_; have HO200 := n3_; have BK166 := n4_; have BK167 := n5_; have BK194 := n6_; have HB := n7_; have BK203 := n8_; have GW203 := n9_; have GE203 := n10_; have NB166_203 := n11_; have NB203_166 := n12_; have NB167_203 := n13_; have NB203_167 := n14_; have NB194_203 := n15_; have NB203_194 := n16_; clear n0_ n1_ n2_ n3_ n4_ n5_ n6_ n7_ n8_ n9_ n10_ n11_ n12_ n13_ n14_ n15_ n16_; clear hb hbox hg; have hnb51 := NB203_166.out; have hnc51 := NB166_203.out; have hnb52 := NB203_167.out; have hnc52 := NB167_203.out; have hnb53 := NB203_194.out; have hnc53 := NB194_203.out; obtain ⟨⟨Z54_0, Y54_0⟩, Z54_1, Y54_1⟩ := cs2_ BK203.out) | ((with_reducible refine gate_callee (f := 23) rfl ?_); refine gl_ (some 37) Try.func23 (by kernel_rfl) #[.string (⟨#[112]⟩ : ByteArray)] ?_; (with_reducible refine (variorumlaw06_command.calls (⟨#[112]⟩ : ByteArray) t204 t205 t206 _ A9.out).mono ?_); rintro e w55 ⟨rfl, hb⟩; refine ⟨_, rfl, ?_⟩; have n0_ := a_ (Kd.R_below (by (with_reducible repeat (first | apply Kd.R_alloc | apply Kd.R_drewN | apply Kd.R_drew)); exact (Kd.R_mono (Kd.R_far (p := ⟨gb203, 1, none⟩) (Kd.R_far (p := ⟨gb203, 0, none⟩) (Kd.R_types HO188.out BK203.out (by decide)) (fun _ hk => hk.2) (.int .i64 t201)) (fun _ hk => hk.2) (.int .i64 t202)) (fun _ h_ => h_.1))) hb); have n1_ := a_ (Kd.R_below (by (with_reducible repeat (first | apply Kd.R_alloc | apply Kd.R_drewN | apply Kd.R_drew)); exact (Kd.R_mono (Kd.R_far (p := ⟨gb203, 1, none⟩) (Kd.R_far (p := ⟨gb203, 0, none⟩) (Kd.R_types HO191.out BK203.out (by decide)) (fun _ hk => hk.2) (.int .i64 t201)) (fun _ hk => hk.2) (.int .i64 t202)) (fun _ h_ => h_.1))) hb); have n2_ := a_ (Kd.R_below (by (with_reducible repeat (first | apply Kd.R_alloc | apply Kd.R_drewN | apply Kd.R_drew)); exact (Kd.R_mono (Kd.R_far (p := ⟨gb203, 1, none⟩) (Kd.R_far (p := ⟨gb203, 0, none⟩) (Kd.R_types HO197.out BK203.out (by decide)) (fun _ hk => hk.2) (.int .i64 t201)) (fun _ hk => hk.2) (.int .i64 t202)) (fun _ h_ => h_.1))) hb); have n3_ := a_ (Kd.R_below (by (with_reducible repeat (first | apply Kd.R_alloc | apply Kd.R_drewN | apply Kd.R_drew)); exact (Kd.R_mono (Kd.R_far (p := ⟨gb203, 1, none⟩) (Kd.R_far (p := ⟨gb203, 0, none⟩) (Kd.R_types HO200.out BK203.out (by decide)) (fun _ hk => hk.2) (.int .i64 t201)) (fun _ hk => hk.2) (.int .i64 t202)) (fun _ h_ => h_.1))) hb); have n4_ := a_ (blk_below (kf1_ BK166.out NB166_203.out) hb); have n5_ := a_ (blk_below (kf1_ BK167.out NB167_203.out) hb); have n6_ := a_ (blk_below (kf1_ BK194.out NB194_203.out) hb); have n7_ := a_ (blk_below (g := gb203) (o := .cells #[.int .i64 t201, .int .i64 t202] 26 (0, 0)) (kp0_ BK203.out) hb); have n8_ := a_ (below_step (bS4_ HB.out GE166.out GE167.out GE194.out GE203.out) hb); clear HO188; clear HO191; clear HO197; clear HO200; clear BK166; clear BK167; clear BK194; clear BK203; clear HB; have HO188 := n0_; have HO191 := n1_; have HO197 := n2_; have HO200 := n3_; have BK166 := n4_; have BK167 := n5_; have BK194 := n6_; have BK203 := n7_; have HB := n8_; clear n0_ n1_ n2_ n3_ n4_ n5_ n6_ n7_ n8_; (try clear hb); (try clear hb2); (try clear hk); (try clear hi)) | ((with_reducible refine gate_dst (N := 39) rfl ?_); (try (refine gate_guard (by rfl) ?_; dsimp only)); refine Kd.R_lit k44 _ 44 ?hg (N := 39) ?hd (xs := ([(⟨t204, t205, t206⟩ : S44), (⟨2, (⟨#[]⟩ : ByteArray), 2⟩ : S44)] : List (S44))) (inner := [.int .i64 t204, .string t205, .int .i64 t206, .int .i64 2, .string (⟨#[]⟩ : ByteArray), .int .i64 2]) (ok := fun _ => True) (okp := fun _ => True) ?hr ?hp (fun _ hk => hk) trivial (Below.refl _ _) (Nat.le_refl _) (by simp) ?_; (case hd => rfl); (case hg => rfl); (case hr => first | (go_simp; done) | (go_simp; rfl)); (case hp => exact (Reps.c3 (show Kd.M k44 _ _ _ (⟨t204, t205, t206⟩ : S44) [.int .i64 t204, .string t205, .int .i64 t206] from (k44_mkM _ _ _ (⟨t204, t205, t206⟩ : S44) )) (Reps.c3 (show Kd.M k44 _ _ _ (⟨2, (⟨#[]⟩ : ByteArray), 2⟩ : S44) [.int .i64 2, .string (⟨#[]⟩ : ByteArray), .int .i64 2] from (k44_mkM _ _ _ (⟨2, (⟨#[]⟩ : ByteArray), 2⟩ : S44) )) (Reps.none _ _)))); intro v208 w56 ho57 hb hg_ hnew_; clear hg_ hnew_; (first | rw [← Ny207.out] at ho57 | (simp only [Int.reduceToNat] at ho57; rw [← Ny207.out] at ho57)); have n0_ := a_ (Kd.R_elder' (rv_ HO188.out) (Kd.R_base ho57) hb); have n1_ := a_ (Kd.R_below (rv_ HO191.out) hb); have n2_ := a_ (Kd.R_elder' (rv_ HO197.out) (Kd.R_base ho57) hb); have n3_ := a_ (Kd.R_below (rv_ HO200.out) hb); have n4_ := a_ (Kd.R_lower (Kd.R_newB (Kd.R_newB (Kd.R_new' (Kd.R_new' ho57 (Kd.R_lt (rv_ HO188.out))) (Kd.R_lt (rv_ HO197.out))) (g := gb166) (o := .cells #[.int .i64 2, .string (⟨#[]⟩ : ByteArray), .int .i64 0] 44 (0, 0)) (kv_ BK166.out)) (g := gb167) (o := .cells #[.int .i64 3, .string (⟨#[]⟩ : ByteArray), .int .i64 0] 44 (0, 0)) (kv_ BK167.out)) (below_size (bS4_ HB.out GE166.out GE167.out GE194.out GE203.out))); have n5_ := a_ (kb_ BK166.out hb); have n6_ := a_ (kb_ BK167.out hb); have n7_ := a_ (kb_ BK194.out hb); have n8_ := a_ (kb_ BK203.out hb); have n9_ := a_ (below_step (bS4_ HB.out GE166.out GE167.out GE194.out GE203.out) hb); clear HO188; clear HO191; clear HO197; clear HO200; clear BK166; clear BK167; clear BK194; clear BK203; clear HB; have HO188 := n0_; have HO191 := n1_; have HO197 := n2_; have HO200 := n3_; have HO209 := n4_; have BK166 := n5_; have BK167 := n6_; have BK194 := n7_; have BK203 := n8_; have HB := n9_; clear n0_ n1_ n2_ n3_ n4_ n5_ n6_ n7_ n8_ n9_; clear hb ho57; obtain ⟨Ao58, co58, eo58⟩ := Kd.R_slice HO209.out; subst eo58) | ((with_reducible refine gate_callee (f := 7) rfl ?_); refine gl_ (some 40) Try.func7 (by kernel_rfl) #[.slice Ao58 y207.length co58] ?_; (with_reducible refine (tree_Parse.calls k _ _ y207 t210 t213 t214 _ ?side1 ?side2 A10.out).mono ?_); (case side1 => exact cr_ (Kd.R_reads' HO209.out).2.2); (case side2 => exact (Kd.R_reads' HO209.out).2.1); rintro e w59 ⟨v211, rfl, ho0, hb⟩; refine ⟨_, rfl, ?_⟩; have n0_ := a_ (Kd.R_below (rv_ HO188.out) hb); have n1_ := a_ (Kd.R_elder' (rv_ HO191.out) (Kd.R_base ho0) hb); have n2_ := a_ (Kd.R_below (rv_ HO197.out) hb); have n3_ := a_ (Kd.R_elder' (rv_ HO200.out) (Kd.R_base ho0) hb); have n4_ := a_ (Kd.R_below (rv_ HO209.out) hb); have n5_ := a_ (Kd.R_lower (Kd.R_new' (Kd.R_new' ho0 (Kd.R_lt (rv_ HO191.out))) (Kd.R_lt (rv_ HO200.out))) (below_size (bS4_ HB.out GE166.out GE167.out GE194.out GE203.out))); have n6_ := a_ (kb_ BK166.out hb); have n7_ := a_ (kb_ BK167.out hb); have n8_ := a_ (kb_ BK194.out hb); have n9_ := a_ (kb_ BK203.out hb); have n10_ := a_ (below_step (bS4_ HB.out GE166.out GE167.out GE194.out GE203.out) hb); clear HO188; clear HO191; clear HO197; clear HO200; clear HO209; clear BK166; clear BK167; clear BK194; clear BK203; clear HB; have HO188 := n0_; have HO191 := n1_; have HO197 := n2_; have HO200 := n3_; have HO209 := n4_; have HO212 := n5_; have BK166 := n6_; have BK167 := n7_; have BK194 := n8_; have BK203 := n9_; have HB := n10_; clear n0_ n1_ n2_ n3_ n4_ n5_ n6_ n7_ n8_ n9_ n10_; (try clear hb); (try clear hb2); (try clear hk); (try clear hi); (try clear ho0)) | ((with_reducible refine gate_dst (N := 8) rfl ?_); (try (refine gate_guard (by rfl) ?_; dsimp only)); refine box_event ?hg (N := 8) ?hd (cs := #[.int .i64 0, .int .i64 0]) (t := 26) ?hr ?_; (case hd => rfl); (case hg => rfl); (case hr => first | (go_simp; done) | (go_simp; rfl)); intro gb215 hg w60 hbox hb; have n0_ := a_ (Kd.R_below (rv_ HO188.out) hb); have n1_ := a_ (Kd.R_below (rv_ HO191.out) hb); have n2_ := a_ (Kd.R_below (rv_ HO197.out) hb); have n3_ := a_ (Kd.R_below (rv_ HO200.out) hb); have n4_ := a_ (Kd.R_below (rv_ HO209.out) hb); have n5_ := a_ (Kd.R_below (rv_ HO212.out) hb); have n6_ := a_ (kb_ BK166.out hb); have n7_ := a_ (kb_ BK167.out hb); have n8_ := a_ (kb_ BK194.out hb); have n9_ := a_ (kb_ BK203.out hb); have n10_ := a_ (below_step (bS4_ HB.out GE166.out GE167.out GE194.out GE203.out) hb); have n11_ := a_ (hbox); have n12_ := a_ ((by rw [hg]; exact (below_size (bS4_ HB.out GE166.out GE167.out GE194.out GE203.out)) : w.heap.size ≤ gb215)); have n13_ := a_ ((by rw [hg]; exact (below_size (bS4_ HB.out GE166.out GE167.out GE194.out GE203.out)) : w.heap.size ≤ gb215)); have n14_ := a_ ((by rw [hg]; exact Nat.ne_of_lt (blk_lt (kv_ BK166.out)) : gb166 ≠ gb215)); have n15_ := a_ ((by rw [hg]; exact Nat.ne_of_gt (blk_lt (kv_ BK166.out)) : gb215 ≠ gb166)); have n16_ := a_ ((by rw [hg]; exact Nat.ne_of_lt (blk_lt (kv_ BK167.out)) : gb167 ≠ gb215)); have n17_ := a_ ((by rw [hg]; exact Nat.ne_of_gt (blk_lt (kv_ BK167.out)) : gb215 ≠ gb167)); have n18_ := a_ ((by rw [hg]; exact Nat.ne_of_lt (blk_lt (kv_ BK194.out)) : gb194 ≠ gb215)); have n19_ := a_ ((by rw [hg]; exact Nat.ne_of_gt (blk_lt (kv_ BK194.out)) : gb215 ≠ gb194)); have n20_ := a_ ((by rw [hg]; exact Nat.ne_of_lt (blk_lt (kv_ BK203.out)) : gb203 ≠ gb215)); have n21_ := a_ ((by rw [hg]; exact Nat.ne_of_gt (blk_lt (kv_ BK203.out)) : gb215 ≠ gb203)); clear HO188; clear HO191; clear HO197; clear HO200; clear HO209; clear HO212; clear BK166; clear BK167; clear BK194; clear BK203; clear HB; have HO188 := n0_; have HO191 := n1_; have HO197 := n2_; have HO200 := n3_; have HO209 := n4_; have HO212 := n5_; have BK166 := n6_; have BK167 := n7_; have BK194 := n8_; have BK203 := n9_; have HB := n10_; have BK215 := n11_; have GW215 := n12_; have GE215 := n13_; have NB166_215 := n14_; have NB215_166 := n15_; have NB167_215 := n16_; have NB215_167 := n17_; have NB194_215 := n18_; have NB215_194 := n19_; have NB203_215 := n20_; have NB215_203 := n21_; clear n0_ n1_ n2_ n3_ n4_ n5_ n6_ n7_ n8_ n9_ n10_ n11_ n12_ n13_ n14_ n15_ n16_ n17_ n18_ n19_ n20_ n21_; clear hb hbox hg; have hnb61 := NB215_166.out; have hnc61 := NB166_215.out; have hnb62 := NB215_167.out; have hnc62 := NB167_215.out; have hnb63 := NB215_194.out; have hnc63 := NB194_215.out; have hnb64 := NB215_203.out; have hnc64 := NB203_215.out; obtain ⟨⟨Z65_0, Y65_0⟩, Z65_1, Y65_1⟩ := cs2_ BK215.out) | ((with_reducible refine gate_dst (N := 45) rfl ?_); (try (refine gate_guard (by rfl) ?_; dsimp only)); refine Kd.R_lit k44 _ 44 ?hg (N := 45) ?hd (xs := ([(⟨3, (⟨#[]⟩ : ByteArray), 4⟩ : S44)] : List (S44))) (inner := [.int .i64 3, .string (⟨#[]⟩ : ByteArray), .int .i64 4]) (ok := fun _ => True) (okp := fun _ => True) ?hr ?hp (fun _ hk => hk) trivial (Below.refl _ _) (Nat.le_refl _) (by simp) ?_; (case hd => rfl); (case hg => rfl); (case hr => first | (go_simp; done) | (go_simp; rfl)); (case hp => exact (Reps.c3 (show Kd.M k44 _ _ _ (⟨3, (⟨#[]⟩ : ByteArray), 4⟩ : S44) [.int .i64 3, .string (⟨#[]⟩ : ByteArray), .int .i64 4] from (k44_mkM _ _ _ (⟨3, (⟨#[]⟩ : ByteArray), 4⟩ : S44) )) (Reps.none _ _))); intro v217 w66 ho67 hb hg_ hnew_; clear hg_ hnew_; (first | rw [← Ny216.out] at ho67 | (simp only [Int.reduceToNat] at ho67; rw [← Ny216.out] at ho67)); have n0_ := a_ (Kd.R_elder' (by (with_reducible repeat (first | apply Kd.R_alloc | apply Kd.R_drewN | apply Kd.R_drew)); exact (Kd.R_mono (Kd.R_far (p := ⟨gb215, 1, none⟩) (Kd.R_far (p := ⟨gb215, 0, none⟩) (Kd.R_types HO188.out BK215.out (by decide)) (fun _ hk => hk.2) (.int .i64 t213)) (fun _ hk => hk.2) (.int .i64 t214)) (fun _ h_ => h_.1))) (Kd.R_base ho67) hb); have n1_ := a_ (Kd.R_below (by (with_reducible repeat (first | apply Kd.R_alloc | apply Kd.R_drewN | apply Kd.R_drew)); exact (Kd.R_mono (Kd.R_far (p := ⟨gb215, 1, none⟩) (Kd.R_far (p := ⟨gb215, 0, none⟩) (Kd.R_types HO191.out BK215.out (by decide)) (fun _ hk => hk.2) (.int .i64 t213)) (fun _ hk => hk.2) (.int .i64 t214)) (fun _ h_ => h_.1))) hb); have n2_ := a_ (Kd.R_elder' (by (with_reducible repeat (first | apply Kd.R_alloc | apply Kd.R_drewN | apply Kd.R_drew)); exact (Kd.R_mono (Kd.R_far (p := ⟨gb215, 1, none⟩) (Kd.R_far (p := ⟨gb215, 0, none⟩) (Kd.R_types HO197.out BK215.out (by decide)) (fun _ hk => hk.2) (.int .i64 t213)) (fun _ hk => hk.2) (.int .i64 t214)) (fun _ h_ => h_.1))) (Kd.R_base ho67) hb); have n3_ := a_ (Kd.R_below (by (with_reducible repeat (first | apply Kd.R_alloc | apply Kd.R_drewN | apply Kd.R_drew)); exact (Kd.R_mono (Kd.R_far (p := ⟨gb215, 1, none⟩) (Kd.R_far (p := ⟨gb215, 0, none⟩) (Kd.R_types HO200.out BK215.out (by decide)) (fun _ hk => hk.2) (.int .i64 t213)) (fun _ hk => hk.2) (.int .i64 t214)) (fun _ h_ => h_.1))) hb); have n4_ := a_ (Kd.R_elder' (by (with_reducible repeat (first | apply Kd.R_alloc | apply Kd.R_drewN | apply Kd.R_drew)); exact (Kd.R_mono (Kd.R_far (p := ⟨gb215, 1, none⟩) (Kd.R_far (p := ⟨gb215, 0, none⟩) (Kd.R_types HO209.out BK215.out (by decide)) (fun _ hk => hk.2) (.int .i64 t213)) (fun _ hk => hk.2) (.int .i64 t214)) (fun _ h_ => h_.1))) (Kd.R_base ho67) hb); have n5_ := a_ (Kd.R_below (by (with_reducible repeat (first | apply Kd.R_alloc | apply Kd.R_drewN | apply Kd.R_drew)); exact (Kd.R_mono (Kd.R_far (p := ⟨gb215, 1, none⟩) (Kd.R_far (p := ⟨gb215, 0, none⟩) (Kd.R_types HO212.out BK215.out (by decide)) (fun _ hk => hk.2) (.int .i64 t213)) (fun _ hk => hk.2) (.int .i64 t214)) (fun _ h_ => h_.1))) hb); have n6_ := a_ (Kd.R_lower (Kd.R_newB (Kd.R_newB (Kd.R_new' (Kd.R_new' (Kd.R_new' ho67 (Kd.R_lt (by (with_reducible repeat (first | apply Kd.R_alloc | apply Kd.R_drewN | apply Kd.R_drew)); exact (Kd.R_mono (Kd.R_far (p := ⟨gb215, 1, none⟩) (Kd.R_far (p := ⟨gb215, 0, none⟩) (Kd.R_types HO188.out BK215.out (by decide)) (fun _ hk => hk.2) (.int .i64 t213)) (fun _ hk => hk.2) (.int .i64 t214)) (fun _ h_ => h_.1))))) (Kd.R_lt (by (with_reducible repeat (first | apply Kd.R_alloc | apply Kd.R_drewN | apply Kd.R_drew)); exact (Kd.R_mono (Kd.R_far (p := ⟨gb215, 1, none⟩) (Kd.R_far (p := ⟨gb215, 0, none⟩) (Kd.R_types HO197.out BK215.out (by decide)) (fun _ hk => hk.2) (.int .i64 t213)) (fun _ hk => hk.2) (.int .i64 t214)) (fun _ h_ => h_.1))))) (Kd.R_lt (by (with_reducible repeat (first | apply Kd.R_alloc | apply Kd.R_drewN | apply Kd.R_drew)); exact (Kd.R_mono (Kd.R_far (p := ⟨gb215, 1, none⟩) (Kd.R_far (p := ⟨gb215, 0, none⟩) (Kd.R_types HO209.out BK215.out (by decide)) (fun _ hk => hk.2) (.int .i64 t213)) (fun _ hk => hk.2) (.int .i64 t214)) (fun _ h_ => h_.1))))) (g := gb166) (o := .cells #[.int .i64 2, .string (⟨#[]⟩ : ByteArray), .int .i64 0] 44 (0, 0)) (kf1_ BK166.out NB166_215.out)) (g := gb167) (o := .cells #[.int .i64 3, .string (⟨#[]⟩ : ByteArray), .int .i64 0] 44 (0, 0)) (kf1_ BK167.out NB167_215.out)) (below_size (bS5_ HB.out GE166.out GE167.out GE194.out GE203.out GE215.out))); have n7_ := a_ (blk_below (kf1_ BK166.out NB166_215.out) hb); have n8_ := a_ (blk_below (kf1_ BK167.out NB167_215.out) hb); have n9_ := a_ (blk_below (kf1_ BK194.out NB194_215.out) hb); have n10_ := a_ (blk_below (kf1_ BK203.out NB203_215.out) hb); have n11_ := a_ (blk_below (g := gb215) (o := .cells #[.int .i64 t213, .int .i64 t214] 26 (0, 0)) (kp0_ BK215.out) hb); have n12_ := a_ (below_step (bS5_ HB.out GE166.out GE167.out GE194.out GE203.out GE215.out) hb); clear HO188; clear HO191; clear HO197; clear HO200; clear HO209; clear HO212; clear BK166; clear BK167; clear BK194; clear BK203; clear BK215; clear HB; have HO188 := n0_; have HO191 := n1_; have HO197 := n2_; have HO200 := n3_; have HO209 := n4_; have HO212 := n5_; have HO218 := n6_; have BK166 := n7_; have BK167 := n8_; have BK194 := n9_; have BK203 := n10_; have BK215 := n11_; have HB := n12_; clear n0_ n1_ n2_ n3_ n4_ n5_ n6_ n7_ n8_ n9_ n10_ n11_ n12_; clear hb ho67; obtain ⟨Ao68, co68, eo68⟩ := Kd.R_slice HO218.out; subst eo68) | ((with_reducible refine gate_callee (f := 7) rfl ?_); refine gl_ (some 46) Try.func7 (by kernel_rfl) #[.slice Ao68 y216.length co68] ?_; (with_reducible refine (tree_Parse.calls k _ _ y216 t219 t222 t223 _ ?side1 ?side2 A11.out).mono ?_); (case side1 => exact cr_ (Kd.R_reads' HO218.out).2.2); (case side2 => exact (Kd.R_reads' HO218.out).2.1); rintro e w69 ⟨v220, rfl, ho0, hb⟩; refine ⟨_, rfl, ?_⟩; have n0_ := a_ (Kd.R_below (rv_ HO188.out) hb); have n1_ := a_ (Kd.R_elder' (rv_ HO191.out) (Kd.R_base ho0) hb); have n2_ := a_ (Kd.R_below (rv_ HO197.out) hb); have n3_ := a_ (Kd.R_elder' (rv_ HO200.out) (Kd.R_base ho0) hb); have n4_ := a_ (Kd.R_below (rv_ HO209.out) hb); have n5_ := a_ (Kd.R_elder' (rv_ HO212.out) (Kd.R_base ho0) hb); have n6_ := a_ (Kd.R_below (rv_ HO218.out) hb); have n7_ := a_ (Kd.R_lower (Kd.R_new' (Kd.R_new' (Kd.R_new' ho0 (Kd.R_lt (rv_ HO191.out))) (Kd.R_lt (rv_ HO200.out))) (Kd.R_lt (rv_ HO212.out))) (below_size (bS5_ HB.out GE166.out GE167.out GE194.out GE203.out GE215.out))); have n8_ := a_ (kb_ BK166.out hb); have n9_ := a_ (kb_ BK167.out hb); have n10_ := a_ (kb_ BK194.out hb); have n11_ := a_ (kb_ BK203.out hb); have n12_ := a_ (kb_ BK215.out hb); have n13_ := a_ (below_step (bS5_ HB.out GE166.out GE167.out GE194.out GE203.out GE215.out) hb); clear HO188; clear HO191; clear HO197; clear HO200; clear HO209; clear HO212; clear HO218; clear BK166; clear BK167; clear BK194; clear BK203; clear BK215; clear HB; have HO188 := n0_; have HO191 := n1_; have HO197 := n2_; have HO200 := n3_; have HO209 := n4_; have HO212 := n5_; have HO218 := n6_; have HO221 := n7_; have BK166 := n8_; have BK167 := n9_; have BK194 := n10_; have BK203 := n11_; have BK215 := n12_; have HB := n13_; clear n0_ n1_ n2_ n3_ n4_ n5_ n6_ n7_ n8_ n9_ n10_ n11_ n12_ n13_; (try clear hb); (try clear hb2); (try clear hk); (try clear hi); (try clear ho0)) | ((with_reducible refine gate_dst (N := 10) rfl ?_); (try (refine gate_guard (by rfl) ?_; dsimp only)); refine box_event ?hg (N := 10) ?hd (cs := #[.int .i64 0, .int .i64 0]) (t := 26) ?hr ?_; (case hd => rfl); (case hg => rfl); (case hr => first | (go_simp; done) | (go_simp; rfl)); intro gb224 hg w70 hbox hb; have n0_ := a_ (Kd.R_below (rv_ HO188.out) hb); have n1_ := a_ (Kd.R_below (rv_ HO191.out) hb); have n2_ := a_ (Kd.R_below (rv_ HO197.out) hb); have n3_ := a_ (Kd.R_below (rv_ HO200.out) hb); have n4_ := a_ (Kd.R_below (rv_ HO209.out) hb); have n5_ := a_ (Kd.R_below (rv_ HO212.out) hb); have n6_ := a_ (Kd.R_below (rv_ HO218.out) hb); have n7_ := a_ (Kd.R_below (rv_ HO221.out) hb); have n8_ := a_ (kb_ BK166.out hb); have n9_ := a_ (kb_ BK167.out hb); have n10_ := a_ (kb_ BK194.out hb); have n11_ := a_ (kb_ BK203.out hb); have n12_ := a_ (kb_ BK215.out hb); have n13_ := a_ (below_step (bS5_ HB.out GE166.out GE167.out GE194.out GE203.out GE215.out) hb); have n14_ := a_ (hbox); have n15_ := a_ ((by rw [hg]; exact (below_size (bS5_ HB.out GE166.out GE167.out GE194.out GE203.out GE215.out)) : w.heap.size ≤ gb224)); have n16_ := a_ ((by rw [hg]; exact (below_size (bS5_ HB.out GE166.out GE167.out GE194.out GE203.out GE215.out)) : w.heap.size ≤ gb224)); have n17_ := a_ ((by rw [hg]; exact Nat.ne_of_lt (blk_lt (kv_ BK166.out)) : gb166 ≠ gb224)); have n18_ := a_ ((by rw [hg]; exact Nat.ne_of_gt (blk_lt (kv_ BK166.out)) : gb224 ≠ gb166)); have n19_ := a_ ((by rw [hg]; exact Nat.ne_of_lt (blk_lt (kv_ BK167.out)) : gb167 ≠ gb224)); have n20_ := a_ ((by rw [hg]; exact Nat.ne_of_gt (blk_lt (kv_ BK167.out)) : gb224 ≠ gb167)); have n21_ := a_ ((by rw [hg]; exact Nat.ne_of_lt (blk_lt (kv_ BK194.out)) : gb194 ≠ gb224)); have n22_ := a_ ((by rw [hg]; exact Nat.ne_of_gt (blk_lt (kv_ BK194.out)) : gb224 ≠ gb194)); have n23_ := a_ ((by rw [hg]; exact Nat.ne_of_lt (blk_lt (kv_ BK203.out)) : gb203 ≠ gb224)); have n24_ := a_ ((by rw [hg]; exact Nat.ne_of_gt (blk_lt (kv_ BK203.out)) : gb224 ≠ gb203)); have n25_ := a_ ((by rw [hg]; exact Nat.ne_of_lt (blk_lt (kv_ BK215.out)) : gb215 ≠ gb224)); have n26_ := a_ ((by rw [hg]; exact Nat.ne_of_gt (blk_lt (kv_ BK215.out)) : gb224 ≠ gb215)); clear HO188; clear HO191; clear HO197; clear HO200; clear HO209; clear HO212; clear HO218; clear HO221; clear BK166; clear BK167; clear BK194; clear BK203; clear BK215; clear HB; have HO188 := n0_; have HO191 := n1_; have HO197 := n2_; have HO200 := n3_; have HO209 := n4_; have HO212 := n5_; have HO218 := n6_; have HO221 := n7_; have BK166 := n8_; have BK167 := n9_; have BK194 := n10_; have BK203 := n11_; have BK215 := n12_; have HB := n13_; have BK224 := n14_; have GW224 := n15_; have GE224 := n16_; have NB166_224 := n17_; have NB224_166 := n18_; have NB167_224 := n19_; have NB224_167 := n20_; have NB194_224 := n21_; have NB224_194 := n22_; have NB203_224 := n23_; have NB224_203 := n24_; have NB215_224 := n25_; have NB224_215 := n26_; clear n0_ n1_ n2_ n3_ n4_ n5_ n6_ n7_ n8_ n9_ n10_ n11_ n12_ n13_ n14_ n15_ n16_ n17_ n18_ n19_ n20_ n21_ n22_ n23_ n24_ n25_ n26_; clear hb hbox hg; have hnb71 := NB224_166.out; have hnc71 := NB166_224.out; have hnb72 := NB224_167.out; have hnc72 := NB167_224.out; have hnb73 := NB224_194.out; have hnc73 := NB194_224.out; have hnb74 := NB224_203.out; have hnc74 := NB203_224.out; have hnb75 := NB224_215.out; have hnc75 := NB215_224.out; obtain ⟨⟨Z76_0, Y76_0⟩, Z76_1, Y76_1⟩ := cs2_ BK224.out) | ((with_reducible refine gate_store (t := 26) (p := 10) rfl ?_); refine store_event (t := 26) (p := 10) (v := ?vo_w77) (w1 := ((w70.setCell ⟨gb224, 0, none⟩ (.int .i64 t222)).setCell ⟨gb224, 1, none⟩ (.int .i64 t223))) ?hg ?ho ?hn ?hr ?_; (case ho => rfl); (case hg => rfl); (case hn => rfl); (case hr => first | (go_simp; done) | (go_simp; rfl)); intro w77 hw; have n0_ : Aside0 (Kd.R k44 44 w77 w.heap.size (fun k_ => some k_ ≠ (.slice Ao48 y195.length co48 : Value).ownBlock ∧ some k_ ≠ (.slice Ao58 y207.length co58 : Value).ownBlock ∧ some k_ ≠ (.slice Ao68 y216.length co68 : Value).ownBlock ∧ k_ ≠ gb166 ∧ k_ ≠ gb167) v187 y186) := ⟨(by rw [hw]; exact (by (with_reducible repeat (first | apply Kd.R_alloc | apply Kd.R_drewN | apply Kd.R_drew)); exact Kd.R_mono (Kd.R_far (p := ⟨gb224, 1, none⟩) (Kd.R_far (p := ⟨gb224, 0, none⟩) (Kd.R_types HO188.out BK224.out (by decide)) (fun _ hk => hk.2) (.int .i64 t222)) (fun _ hk => hk.2) (.int .i64 t223)) (fun _ hk => ⟨hk.1.1.1.2, ⟨hk.1.1.2, ⟨hk.1.2, ⟨hk.1.1.1.1.1, hk.1.1.1.1.2⟩⟩⟩⟩)))⟩; have n1_ : Aside0 (Kd.R k38 38 w77 w.heap.size (fun k_ => some k_ ≠ (v199 : Value).ownBlock ∧ some k_ ≠ (v211 : Value).ownBlock ∧ some k_ ≠ (v220 : Value).ownBlock) v190 t189) := ⟨(by rw [hw]; exact (by (with_reducible repeat (first | apply Kd.R_alloc | apply Kd.R_drewN | apply Kd.R_drew)); exact Kd.R_mono (Kd.R_far (p := ⟨gb224, 1, none⟩) (Kd.R_far (p := ⟨gb224, 0, none⟩) (Kd.R_types HO191.out BK224.out (by decide)) (fun _ hk => hk.2) (.int .i64 t222)) (fun _ hk => hk.2) (.int .i64 t223)) (fun _ hk => ⟨hk.1.1.1.2, ⟨hk.1.1.2, hk.1.2⟩⟩)))⟩; have n2_ : Aside0 (Kd.R k44 44 w77 w.heap.size (fun k_ => some k_ ≠ (v187 : Value).ownBlock ∧ some k_ ≠ (.slice Ao58 y207.length co58 : Value).ownBlock ∧ some k_ ≠ (.slice Ao68 y216.length co68 : Value).ownBlock ∧ k_ ≠ gb166 ∧ k_ ≠ gb167) (.slice Ao48 y195.length co48) y195) := ⟨(by rw [hw]; exact (by (with_reducible repeat (first | apply Kd.R_alloc | apply Kd.R_drewN | apply Kd.R_drew)); exact Kd.R_mono (Kd.R_far (p := ⟨gb224, 1, none⟩) (Kd.R_far (p := ⟨gb224, 0, none⟩) (Kd.R_types HO197.out BK224.out (by decide)) (fun _ hk => hk.2) (.int .i64 t222)) (fun _ hk => hk.2) (.int .i64 t223)) (fun _ hk => ⟨hk.1.1.1.1.1.2, ⟨hk.1.1.2, ⟨hk.1.2, ⟨hk.1.1.1.1.2, hk.1.1.1.2⟩⟩⟩⟩)))⟩; have n3_ : Aside0 (Kd.R k38 38 w77 w.heap.size (fun k_ => some k_ ≠ (v190 : Value).ownBlock ∧ some k_ ≠ (v211 : Value).ownBlock ∧ some k_ ≠ (v220 : Value).ownBlock) v199 t198) := ⟨(by rw [hw]; exact (by (with_reducible repeat (first | apply Kd.R_alloc | apply Kd.R_drewN | apply Kd.R_drew)); exact Kd.R_mono (Kd.R_far (p := ⟨gb224, 1, none⟩) (Kd.R_far (p := ⟨gb224, 0, none⟩) (Kd.R_types HO200.out BK224.out (by decide)) (fun _ hk => hk.2) (.int .i64 t222)) (fun _ hk => hk.2) (.int .i64 t223)) (fun _ hk => ⟨hk.1.1.1.2, ⟨hk.1.1.2, hk.1.2⟩⟩)))⟩; have n4_ : Aside0 (Kd.R k44 44 w77 w.heap.size (fun k_ => some k_ ≠ (v187 : Value).ownBlock ∧ some k_ ≠ (.slice Ao48 y195.length co48 : Value).ownBlock ∧ some k_ ≠ (.slice Ao68 y216.length co68 : Value).ownBlock ∧ k_ ≠ gb166 ∧ k_ ≠ gb167) (.slice Ao58 y207.length co58) y207) := ⟨(by rw [hw]; exact (by (with_reducible repeat (first | apply Kd.R_alloc | apply Kd.R_drewN | apply Kd.R_drew)); exact Kd.R_mono (Kd.R_far (p := ⟨gb224, 1, none⟩) (Kd.R_far (p := ⟨gb224, 0, none⟩) (Kd.R_types HO209.out BK224.out (by decide)) (fun _ hk => hk.2) (.int .i64 t222)) (fun _ hk => hk.2) (.int .i64 t223)) (fun _ hk => ⟨hk.1.1.1.1.1.2, ⟨hk.1.1.1.1.2, ⟨hk.1.2, ⟨hk.1.1.1.2, hk.1.1.2⟩⟩⟩⟩)))⟩; have n5_ : Aside0 (Kd.R k38 38 w77 w.heap.size (fun k_ => some k_ ≠ (v190 : Value).ownBlock ∧ some k_ ≠ (v199 : Value).ownBlock ∧ some k_ ≠ (v220 : Value).ownBlock) v211 t210) := ⟨(by rw [hw]; exact (by (with_reducible repeat (first | apply Kd.R_alloc | apply Kd.R_drewN | apply Kd.R_drew)); exact Kd.R_mono (Kd.R_far (p := ⟨gb224, 1, none⟩) (Kd.R_far (p := ⟨gb224, 0, none⟩) (Kd.R_types HO212.out BK224.out (by decide)) (fun _ hk => hk.2) (.int .i64 t222)) (fun _ hk => hk.2) (.int .i64 t223)) (fun _ hk => ⟨hk.1.1.1.2, ⟨hk.1.1.2, hk.1.2⟩⟩)))⟩; have n6_ : Aside0 (Kd.R k44 44 w77 w.heap.size (fun k_ => some k_ ≠ (v187 : Value).ownBlock ∧ some k_ ≠ (.slice Ao48 y195.length co48 : Value).ownBlock ∧ some k_ ≠ (.slice Ao58 y207.length co58 : Value).ownBlock ∧ k_ ≠ gb166 ∧ k_ ≠ gb167) (.slice Ao68 y216.length co68) y216) := ⟨(by rw [hw]; exact (by (with_reducible repeat (first | apply Kd.R_alloc | apply Kd.R_drewN | apply Kd.R_drew)); exact Kd.R_mono (Kd.R_far (p := ⟨gb224, 1, none⟩) (Kd.R_far (p := ⟨gb224, 0, none⟩) (Kd.R_types HO218.out BK224.out (by decide)) (fun _ hk => hk.2) (.int .i64 t222)) (fun _ hk => hk.2) (.int .i64 t223)) (fun _ hk => ⟨hk.1.1.1.1.1.2, ⟨hk.1.1.1.1.2, ⟨hk.1.1.1.2, ⟨hk.1.1.2, hk.1.2⟩⟩⟩⟩)))⟩; have n7_ : Aside0 (Kd.R k38 38 w77 w.heap.size (fun k_ => some k_ ≠ (v190 : Value).ownBlock ∧ some k_ ≠ (v199 : Value).ownBlock ∧ some k_ ≠ (v211 : Value).ownBlock) v220 t219) := ⟨(by rw [hw]; exact (by (with_reducible repeat (first | apply Kd.R_alloc | apply Kd.R_drewN | apply Kd.R_drew)); exact Kd.R_mono (Kd.R_far (p := ⟨gb224, 1, none⟩) (Kd.R_far (p := ⟨gb224, 0, none⟩) (Kd.R_types HO221.out BK224.out (by decide)) (fun _ hk => hk.2) (.int .i64 t222)) (fun _ hk => hk.2) (.int .i64 t223)) (fun _ hk => ⟨hk.1.1.1.2, ⟨hk.1.1.2, hk.1.2⟩⟩)))⟩; have n8_ : Aside0 (w77.heap[gb166]? = some (.cells #[.int .i64 2, .string (⟨#[]⟩ : ByteArray), .int .i64 0] 44 (0, 0))) := ⟨(by rw [hw]; exact (kf1_ BK166.out NB166_224.out))⟩; have n9_ : Aside0 (w77.heap[gb167]? = some (.cells #[.int .i64 3, .string (⟨#[]⟩ : ByteArray), .int .i64 0] 44 (0, 0))) := ⟨(by rw [hw]; exact (kf1_ BK167.out NB167_224.out))⟩; have n10_ : Aside0 (w77.heap[gb194]? = some (.cells #[.int .i64 t192, .int .i64 t193] 26 (0, 0))) := ⟨(by rw [hw]; exact (kf1_ BK194.out NB194_224.out))⟩; have n11_ : Aside0 (w77.heap[gb203]? = some (.cells #[.int .i64 t201, .int .i64 t202] 26 (0, 0))) := ⟨(by rw [hw]; exact (kf1_ BK203.out NB203_224.out))⟩; have n12_ : Aside0 (w77.heap[gb215]? = some (.cells #[.int .i64 t213, .int .i64 t214] 26 (0, 0))) := ⟨(by rw [hw]; exact (kf1_ BK215.out NB215_224.out))⟩; have n13_ : Aside0 (w77.heap[gb224]? = some (.cells #[.int .i64 t222, .int .i64 t223] 26 (0, 0))) := ⟨(by rw [hw]; exact (kp0_ BK224.out))⟩; have n14_ : Aside0 (Below w.heap.size w w77) := ⟨(by rw [hw]; exact (bS6_ HB.out GE166.out GE167.out GE194.out GE203.out GE215.out GE224.out))⟩; clear hw; clear HO188; clear HO191; clear HO197; clear HO200; clear HO209; clear HO212; clear HO218; clear HO221; clear BK166; clear BK167; clear BK194; clear BK203; clear BK215; clear BK224; clear HB; have HO188 := n0_; have HO191 := n1_; have HO197 := n2_; have HO200 := n3_; have HO209 := n4_; have HO212 := n5_; have HO218 := n6_; have HO221 := n7_; have BK166 := n8_; have BK167 := n9_; have BK194 := n10_; have BK203 := n11_; have BK215 := n12_; have BK224 := n13_; have HB := n14_; clear n0_ n1_ n2_ n3_ n4_ n5_ n6_ n7_ n8_ n9_ n10_ n11_ n12_ n13_ n14_; have hnb78 := NB194_166.out; have hnc78 := NB166_194.out; have hnb79 := NB194_167.out; have hnc79 := NB167_194.out; obtain ⟨⟨Z80_0, Y80_0⟩, Z80_1, Y80_1⟩ := cs2_ BK194.out; obtain ⟨Ao81, co81, eo81⟩ := Kd.R_slice HO191.out; subst eo81; have p225 : 0 ≤ (0 : Int) := (by omega); have q225 : 0 < (t189.length : Int) := od_; obtain ⟨ad225, A225_2, c225_2, e225, hx225_0, hx225_1, hx225_2, hx225_3, hl225_2, hi225_2⟩ := at_T38 (Kd.R_reads' HO191.out).2.2 0 p225 q225; cases e225; obtain ⟨ce225, hce225, hMe225, hcc225⟩ := Kd.R_get HO191.out z38 0 p225 (by first | exact q225 | exact od_ | (have e_ := (Kd.R_reads' HO191.out).1; omega)); obtain ⟨ve225_2, rfl, ge225_2⟩ := k38_openM hMe225; have hv225_2 := hcc225 2 _ rfl; rw [add_field _ _ 2 (by omega)] at hv225_2; replace hv225_2 := Option.some.inj (hv225_2.symm.trans hx225_2); rw [hv225_2] at ge225_2; have HL225_2 := a_ (show Kd.R (Kd.slice 38 k38) 23 _ _ _ _ ((rd_T38 t189 0).f2) from ge225_2); clear hv225_2 ge225_2; clear hcc225 hce225; have qi225 : (0 < t189.length) = True := eq_true (by omega); (try rw [show ((0 : Int)).toNat = 0 from rfl] at hx225_0); (try rw [show 0 * 4 = 0 from rfl] at hx225_0); (try rw [Addr.add_zero'] at hx225_0); (try rw [show ((0 : Int)).toNat = 0 from rfl] at hx225_1); (try rw [show 0 * 4 = 0 from rfl] at hx225_1); (try rw [Addr.add_zero'] at hx225_1); (try rw [show ((0 : Int)).toNat = 0 from rfl] at hx225_2); (try rw [show 0 * 4 = 0 from rfl] at hx225_2); (try rw [Addr.add_zero'] at hx225_2); (try rw [show ((0 : Int)).toNat = 0 from rfl] at hx225_3); (try rw [show 0 * 4 = 0 from rfl] at hx225_3); (try rw [Addr.add_zero'] at hx225_3); have HR225_2 := a_ hi225_2; have HC225_2 := a_ hl225_2; clear hi225_2 hl225_2; replace p225 := eq_true p225; replace q225 := eq_true q225; have p226 : 0 ≤ (1 : Int) := (by omega); have q226 : 1 < (t189.length : Int) := od_; obtain ⟨ad226, A226_2, c226_2, e226, hx226_0, hx226_1, hx226_2, hx226_3, hl226_2, hi226_2⟩ := at_T38 (Kd.R_reads' HO191.out).2.2 1 p226 q226; obtain rfl : ad225 = ad226 := (by injection e226); obtain ⟨ce226, hce226, hMe226, hcc226⟩ := Kd.R_get HO191.out z38 1 p226 (by first | exact q226 | exact od_ | (have e_ := (Kd.R_reads' HO191.out).1; omega)); obtain ⟨ve226_2, rfl, ge226_2⟩ := k38_openM hMe226; have hv226_2 := hcc226 2 _ rfl; rw [add_field _ _ 2 (by omega)] at hv226_2; replace hv226_2 := Option.some.inj (hv226_2.symm.trans hx226_2); rw [hv226_2] at ge226_2; have HL226_2 := a_ (show Kd.R (Kd.slice 38 k38) 23 _ _ _ _ ((rd_T38 t189 1).f2) from ge226_2); clear hv226_2 ge226_2; clear hcc226 hce226; (try simp only [show (1 : Int).toNat = 1 from rfl, Nat.reduceMul, Nat.reduceEqDiff, Go.Addr.add, ↓reduceIte] at hx226_0); (try simp only [show (1 : Int).toNat = 1 from rfl, Nat.reduceMul, Nat.reduceEqDiff, Go.Addr.add, ↓reduceIte] at hx226_1); (try simp only [show (1 : Int).toNat = 1 from rfl, Nat.reduceMul, Nat.reduceEqDiff, Go.Addr.add, ↓reduceIte] at hx226_2); (try simp only [show (1 : Int).toNat = 1 from rfl, Nat.reduceMul, Nat.reduceEqDiff, Go.Addr.add, ↓reduceIte] at hx226_3); have qi226 : (1 < t189.length) = True := eq_true (by omega); (try rw [show ((1 : Int)).toNat = 1 from rfl] at hx226_0); (try rw [show 1 * 4 = 4 from rfl] at hx226_0); (try rw [show ((1 : Int)).toNat = 1 from rfl] at hx226_1); (try rw [show 1 * 4 = 4 from rfl] at hx226_1); (try rw [show ((1 : Int)).toNat = 1 from rfl] at hx226_2); (try rw [show 1 * 4 = 4 from rfl] at hx226_2); (try rw [show ((1 : Int)).toNat = 1 from rfl] at hx226_3); (try rw [show 1 * 4 = 4 from rfl] at hx226_3); have HR226_2 := a_ hi226_2; have HC226_2 := a_ hl226_2; clear hi226_2 hl226_2; replace p226 := eq_true p226; replace q226 := eq_true q226; obtain ⟨⟨Z82_0, Y82_0⟩, Z82_1, Y82_1⟩ := cs2_ BK203.out; obtain ⟨⟨Z83_0, Y83_0⟩, Z83_1, Y83_1⟩ := cs2_ BK215.out; obtain ⟨⟨Z84_0, Y84_0⟩, Z84_1, Y84_1⟩ := cs2_ BK224.out) | (go_at_call 13; (with_reducible refine (tree_Depth.calls k _ _ t189 t227 _ ?side1 ?side2 A21.out).mono ?_); (case side1 => exact cr_ (Kd.R_reads' HO191.out).2.2); (case side2 => exact (Kd.R_reads' HO191.out).2.1); rintro e w85 ⟨rfl, hb⟩; have n0_ := a_ (Kd.R_below (rv_ HO188.out) hb); have n1_ := a_ (Kd.R_below (rv_ HO191.out) hb); have n2_ := a_ (Kd.R_below (rv_ HO197.out) hb); have n3_ := a_ (Kd.R_below (rv_ HO200.out) hb); have n4_ := a_ (Kd.R_below (rv_ HO209.out) hb); have n5_ := a_ (Kd.R_below (rv_ HO212.out) hb); have n6_ := a_ (Kd.R_below (rv_ HO218.out) hb); have n7_ := a_ (Kd.R_below (rv_ HO221.out) hb); have n8_ := a_ (Kd.R_below (rv_ HL225_2.out) hb); have n9_ := a_ (Kd.R_below (rv_ HL226_2.out) hb); have n10_ := a_ (kb_ BK166.out hb); have n11_ := a_ (kb_ BK167.out hb); have n12_ := a_ (kb_ BK194.out hb); have n13_ := a_ (kb_ BK203.out hb); have n14_ := a_ (kb_ BK215.out hb); have n15_ := a_ (kb_ BK224.out hb); have n16_ := a_ (Kd.C_below (by repeat (first | (with_reducible exact HR225_2.out) | (with_reducible refine Kd.C_alloc ?_ _) | (with_reducible refine Kd.C_drewN ?_ _) | (with_reducible refine Kd.C_drew ?_) | exact HR225_2.out)) hb); have n17_ := a_ (Kd.C_below (by repeat (first | (with_reducible exact HR226_2.out) | (with_reducible refine Kd.C_alloc ?_ _) | (with_reducible refine Kd.C_drewN ?_ _) | (with_reducible refine Kd.C_drew ?_) | exact HR226_2.out)) hb); have n18_ := a_ (below_step (bS6_ HB.out GE166.out GE167.out GE194.out GE203.out GE215.out GE224.out) hb); clear HO188; clear HO191; clear HO197; clear HO200; clear HO209; clear HO212; clear HO218; clear HO221; clear HL225_2; clear HL226_2; clear BK166; clear BK167; clear BK194; clear BK203; clear BK215; clear BK224; clear HR225_2; clear HR226_2; clear HB; have HO188 := n0_; have HO191 := n1_; have HO197 := n2_; have HO200 := n3_; have HO209 := n4_; have HO212 := n5_; have HO218 := n6_; have HO221 := n7_; have HL225_2 := n8_; have HL226_2 := n9_; have BK166 := n10_; have BK167 := n11_; have BK194 := n12_; have BK203 := n13_; have BK215 := n14_; have BK224 := n15_; have HR225_2 := n16_; have HR226_2 := n17_; have HB := n18_; clear n0_ n1_ n2_ n3_ n4_ n5_ n6_ n7_ n8_ n9_ n10_ n11_ n12_ n13_ n14_ n15_ n16_ n17_ n18_; (try clear hb); (try clear hb2); (try clear hk); (try clear hi)) | (go_at_call 12; (with_reducible refine (tree_Words.calls k _ _ t189 t228 _ ?side1 ?side2 A23.out).mono ?_); (case side1 => exact cr_ (Kd.R_reads' HO191.out).2.2); (case side2 => exact (Kd.R_reads' HO191.out).2.1); rintro e w86 ⟨v229, rfl, ho0, hb⟩; have n0_ := a_ (Kd.R_below (rv_ HO188.out) hb); have n1_ := a_ (Kd.R_below (rv_ HO191.out) hb); have n2_ := a_ (Kd.R_below (rv_ HO197.out) hb); have n3_ := a_ (Kd.R_below (rv_ HO200.out) hb); have n4_ := a_ (Kd.R_below (rv_ HO209.out) hb); have n5_ := a_ (Kd.R_below (rv_ HO212.out) hb); have n6_ := a_ (Kd.R_below (rv_ HO218.out) hb); have n7_ := a_ (Kd.R_below (rv_ HO221.out) hb); have n8_ := a_ (Kd.R_below (rv_ HL225_2.out) hb); have n9_ := a_ (Kd.R_below (rv_ HL226_2.out) hb); have n10_ := a_ (Kd.R_lower ho0 (below_size (bS6_ HB.out GE166.out GE167.out GE194.out GE203.out GE215.out GE224.out))); have n11_ := a_ (kb_ BK166.out hb); have n12_ := a_ (kb_ BK167.out hb); have n13_ := a_ (kb_ BK194.out hb); have n14_ := a_ (kb_ BK203.out hb); have n15_ := a_ (kb_ BK215.out hb); have n16_ := a_ (kb_ BK224.out hb); have n17_ := a_ (Kd.C_below (by repeat (first | (with_reducible exact HR225_2.out) | (with_reducible refine Kd.C_alloc ?_ _) | (with_reducible refine Kd.C_drewN ?_ _) | (with_reducible refine Kd.C_drew ?_) | exact HR225_2.out)) hb); have n18_ := a_ (Kd.C_below (by repeat (first | (with_reducible exact HR226_2.out) | (with_reducible refine Kd.C_alloc ?_ _) | (with_reducible refine Kd.C_drewN ?_ _) | (with_reducible refine Kd.C_drew ?_) | exact HR226_2.out)) hb); have n19_ := a_ (below_step (bS6_ HB.out GE166.out GE167.out GE194.out GE203.out GE215.out GE224.out) hb); clear HO188; clear HO191; clear HO197; clear HO200; clear HO209; clear HO212; clear HO218; clear HO221; clear HL225_2; clear HL226_2; clear BK166; clear BK167; clear BK194; clear BK203; clear BK215; clear BK224; clear HR225_2; clear HR226_2; clear HB; have HO188 := n0_; have HO191 := n1_; have HO197 := n2_; have HO200 := n3_; have HO209 := n4_; have HO212 := n5_; have HO218 := n6_; have HO221 := n7_; have HL225_2 := n8_; have HL226_2 := n9_; have HO230 := n10_; have BK166 := n11_; have BK167 := n12_; have BK194 := n13_; have BK203 := n14_; have BK215 := n15_; have BK224 := n16_; have HR225_2 := n17_; have HR226_2 := n18_; have HB := n19_; clear n0_ n1_ n2_ n3_ n4_ n5_ n6_ n7_ n8_ n9_ n10_ n11_ n12_ n13_ n14_ n15_ n16_ n17_ n18_ n19_; (try clear hb); (try clear hb2); (try clear hk); (try clear hi); (try clear ho0)) | ((with_reducible refine gate_dst (N := 95) rfl ?_); (try (refine gate_guard (by rfl) ?_; dsimp only)); refine Kd.R_lit Kd.string _ 9 ?hg (N := 95) ?hd (xs := ([(⟨#[97]⟩ : ByteArray), (⟨#[98]⟩ : ByteArray), (⟨#[99]⟩ : ByteArray), (⟨#[100]⟩ : ByteArray)] : List ByteArray)) (inner := [.string (⟨#[97]⟩ : ByteArray), .string (⟨#[98]⟩ : ByteArray), .string (⟨#[99]⟩ : ByteArray), .string (⟨#[100]⟩ : ByteArray)]) (ok := fun _ => True) (okp := fun _ => True) ?hr ?hp (fun _ hk => hk) trivial (Below.refl _ _) (Nat.le_refl _) (by simp) ?_; (case hd => rfl); (case hg => rfl); (case hr => first | (go_simp; done) | (go_simp; rfl)); (case hp => exact (Reps.one (show Kd.M Kd.string _ _ _ (⟨#[97]⟩ : ByteArray) [.string (⟨#[97]⟩ : ByteArray)] from rfl) (Reps.one (show Kd.M Kd.string _ _ _ (⟨#[98]⟩ : ByteArray) [.string (⟨#[98]⟩ : ByteArray)] from rfl) (Reps.one (show Kd.M Kd.string _ _ _ (⟨#[99]⟩ : ByteArray) [.string (⟨#[99]⟩ : ByteArray)] from rfl) (Reps.one (show Kd.M Kd.string _ _ _ (⟨#[100]⟩ : ByteArray) [.string (⟨#[100]⟩ : ByteArray)] from rfl) (Reps.none _ _)))))); intro v232 w87 ho88 hb hg_ hnew_; clear hg_ hnew_; (first | rw [← Ny231.out] at ho88 | (simp only [Int.reduceToNat] at ho88; rw [← Ny231.out] at ho88)); have n0_ := a_ (Kd.R_below (rv_ HO188.out) hb); have n1_ := a_ (Kd.R_below (rv_ HO191.out) hb); have n2_ := a_ (Kd.R_below (rv_ HO197.out) hb); have n3_ := a_ (Kd.R_below (rv_ HO200.out) hb); have n4_ := a_ (Kd.R_below (rv_ HO209.out) hb); have n5_ := a_ (Kd.R_below (rv_ HO212.out) hb); have n6_ := a_ (Kd.R_below (rv_ HO218.out) hb); have n7_ := a_ (Kd.R_below (rv_ HO221.out) hb); have n8_ := a_ (Kd.R_below (rv_ HL225_2.out) hb); have n9_ := a_ (Kd.R_below (rv_ HL226_2.out) hb); have n10_ := a_ (Kd.R_elder' (rv_ HO230.out) (Kd.R_base ho88) hb); have n11_ := a_ (Kd.R_lower (Kd.R_new' ho88 (Kd.R_lt (rv_ HO230.out))) (below_size (bS6_ HB.out GE166.out GE167.out GE194.out GE203.out GE215.out GE224.out))); have n12_ := a_ (kb_ BK166.out hb); have n13_ := a_ (kb_ BK167.out hb); have n14_ := a_ (kb_ BK194.out hb); have n15_ := a_ (kb_ BK203.out hb); have n16_ := a_ (kb_ BK215.out hb); have n17_ := a_ (kb_ BK224.out hb); have n18_ := a_ (Kd.C_below (by repeat (first | (with_reducible exact HR225_2.out) | (with_reducible refine Kd.C_alloc ?_ _) | (with_reducible refine Kd.C_drewN ?_ _) | (with_reducible refine Kd.C_drew ?_) | exact HR225_2.out)) hb); have n19_ := a_ (Kd.C_below (by repeat (first | (with_reducible exact HR226_2.out) | (with_reducible refine Kd.C_alloc ?_ _) | (with_reducible refine Kd.C_drewN ?_ _) | (with_reducible refine Kd.C_drew ?_) | exact HR226_2.out)) hb); have n20_ := a_ (below_step (bS6_ HB.out GE166.out GE167.out GE194.out GE203.out GE215.out GE224.out) hb); clear HO188; clear HO191; clear HO197; clear HO200; clear HO209; clear HO212; clear HO218; clear HO221; clear HL225_2; clear HL226_2; clear HO230; clear BK166; clear BK167; clear BK194; clear BK203; clear BK215; clear BK224; clear HR225_2; clear HR226_2; clear HB; have HO188 := n0_; have HO191 := n1_; have HO197 := n2_; have HO200 := n3_; have HO209 := n4_; have HO212 := n5_; have HO218 := n6_; have HO221 := n7_; have HL225_2 := n8_; have HL226_2 := n9_; have HO230 := n10_; have HO233 := n11_; have BK166 := n12_; have BK167 := n13_; have BK194 := n14_; have BK203 := n15_; have BK215 := n16_; have BK224 := n17_; have HR225_2 := n18_; have HR226_2 := n19_; have HB := n20_; clear n0_ n1_ n2_ n3_ n4_ n5_ n6_ n7_ n8_ n9_ n10_ n11_ n12_ n13_ n14_ n15_ n16_ n17_ n18_ n19_ n20_; clear hb ho88; obtain ⟨Ao89, co89, eo89⟩ := Kd.R_slice HO230.out; subst eo89; obtain ⟨Ao90, co90, eo90⟩ := Kd.R_slice HO233.out; subst eo90) | (go_at_call 14; (with_reducible refine (variorumref06_Texts.calls k _ _ t228 _ _ y231 t234 _ ?side1 ?side2 ?side3 ?side4 A24.out).mono ?_); (case side1 => exact cr_ (Kd.R_reads' HO230.out).2.2); (case side2 => exact (Kd.R_reads' HO230.out).2.1); (case side3 => exact cr_ (Kd.R_reads' HO233.out).2.2); (case side4 => exact (Kd.R_reads' HO233.out).2.1); rintro e w' ⟨rfl, ⟨nd, rfl⟩⟩))
           go_ret
           exact ⟨by first | rfl | (simp [errW_none, errW_some] <;> rfl) | (simp [*, errW_none, errW_some] <;> rfl), bS6_ HB.out GE166.out GE167.out GE194.out GE203.out GE215.out GE224.out⟩
          ·rw [if_neg c22] at H
           exact absurd H (by simp)
         ·rw [if_neg c20] at H
          exact absurd H (by simp)
        ·rw [if_neg c19] at H
         exact absurd H (by simp)
       ·rw [if_neg c18] at H
        exact absurd H (by simp)
      ·rw [if_neg c17] at H
       exact absurd H (by simp)
     ·rw [if_neg c16] at H
      exact absurd H (by simp)
    ·rw [if_neg c15] at H
     exact absurd H (by simp)
   ·rw [if_neg c14] at H
    exact absurd H (by simp)
  ·rw [if_neg c13] at H
   exact absurd H (by simp)
 ·rw [if_neg c12] at H
  exact absurd H (by simp)

end Go.Proofs.Ytjppjlhhdfkloaa.PTp
